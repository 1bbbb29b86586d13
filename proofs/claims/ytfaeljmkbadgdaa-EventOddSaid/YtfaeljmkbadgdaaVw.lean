/- What this file proves: one part of the proof that the law answers true for every input, by an interpreter that is proved sound against the given model. -/
import Derived.Test.YtfaeljmkbadgdaaVn
import Derived.Test.YtfaeljmkbadgdaaIro
import Derived.KernelRfl
import Derived.Test.YtfaeljmkbadgdaaRep
namespace Gv
open Go
abbrev N (n : Int) : X := .int .i64 n
abbrev lA (a b : Nat) : X := .ld none (.v a) b
abbrev fA (a b : Nat) : X := .fld none (.v a) b
def v_alike_Round : VFun := ⟨⟨[.F, .F], .F, true⟩, [],
(.seq
(.st [.asg [] [(4, (.bin .rem (.bin .add (.bin .rem (.v 0) (.v 1)) (.v 1)) (.v 1)))]])
(.ret (.v 4) []))⟩
def v_mail_Put : VFun := ⟨⟨[.F, .F], (.T [(.O 6 true), .F]), false⟩, [],
(.seq
(.st [.asg [(.chk (some 6) (.v 1))] [(3, (.lp (.cn (fA 1 0) (.cn (fA 1 1) (.cn (fA 1 2) (.cn (fA 1 3) (.cn (fA 1 4) (.cn (fA 1 5) .nl))))))))]])
(.seq
(.seq
(.st [.call [] none 10 39 [(.v 0), (.agg (.cn (lA 3 0) (.cn (lA 3 1) (.cn (lA 3 2) .nl))))] [], .asg [(.bin .geq (.v 10) (N 0))] []])
(.cond (.bin .geq (.v 10) (N 0))
(.seq
(.st [.asg [] [(5, (N 1)), (4, (.lst .nl))]])
(.ret (.tup (.cn (.v 4) (.cn (.v 5) .nl))) []))
.skip))
(.seq
(.st [.call [] none 14 73 [(.v 0), (.fn 74 (.cn (.lp (.cn (lA 3 0) (.cn (lA 3 1) (.cn (lA 3 2) (.cn (lA 3 3) (.cn (lA 3 4) (.cn (lA 3 5) .nl))))))) .nl))] [], .asg [] [(6, (.v 14))]])
(.seq
(.seq
(.st [.asg [(.bin .lss (.v 6) (N 0))] []])
(.cond (.bin .lss (.v 6) (N 0))
(.st [.asg [] [(6, (.len (.v 0)))]])
.skip))
(.seq
(.st [.call [] none 20 44 [(.v 0)] [], .call [] none 23 77 [(.agg (.cn (lA 3 0) (.cn (lA 3 1) (.cn (lA 3 2) (.cn (lA 3 3) (.cn (lA 3 4) (.cn (lA 3 5) .nl)))))))] [], .call [(.chk (some 6) (.v 23))] none 25 76 [(.v 20), (.v 6), (.lst (.cn (.v 23) .nl))] [], .asg [] [(5, (N 0)), (4, (.v 25))]])
(.ret (.tup (.cn (.v 4) (.cn (.v 5) .nl))) []))))))⟩
def v_mail_Sorted_L1 : VC :=
(.seq
(.st [.asg [(.bin .lss (.v 6) (.v 5))] []])
(.seq
(.cond (.bin .lss (.v 6) (.v 5))
.skip
(.exit 0))
(.seq
(.block 1
(.seq
(.st [.asg [] [(3, (.v 6))], .call [(.gd (.bin .gtr (.v 3) (N 0)) true (.bin .sub (.v 3) (N 1))), (.gd (.bin .gtr (.v 3) (N 0)) true (.ia 6 (.v 0) (.bin .sub (.v 3) (N 1)))), (.gd (.bin .gtr (.v 3) (N 0)) true (.fa (.ia 6 (.v 0) (.bin .sub (.v 3) (N 1))) 0)), (.gd (.bin .gtr (.v 3) (N 0)) true (.ld (some 3) (.fa (.ia 6 (.v 0) (.bin .sub (.v 3) (N 1))) 0) 0)), (.gd (.bin .gtr (.v 3) (N 0)) true (.ia 6 (.v 0) (.v 3))), (.gd (.bin .gtr (.v 3) (N 0)) true (.fa (.ia 6 (.v 0) (.v 3)) 0)), (.gd (.bin .gtr (.v 3) (N 0)) true (.ld (some 3) (.fa (.ia 6 (.v 0) (.v 3)) 0) 0))] (some ((.bin .gtr (.v 3) (N 0)), true)) 23 75 [(.ld (some 3) (.fa (.ia 6 (.v 0) (.bin .sub (.v 3) (N 1))) 0) 0), (.ld (some 3) (.fa (.ia 6 (.v 0) (.v 3)) 0) 0)] [], .asg [(.gd (.bin .gtr (.v 3) (N 0)) true (.un .not (.v 23))), (.ite (.bin .gtr (.v 3) (N 0)) (.un .not (.v 23)) (.boo false))] []])
(.cond (.ite (.bin .gtr (.v 3) (N 0)) (.un .not (.v 23)) (.boo false))
(.seq
(.st [.asg [] [(2, (.boo false))]])
(.ret (.v 2) []))
.skip)))
(.st [.asg [] [(6, (.bin .add (.v 6) (N 1)))]]))))
def v_mail_Sorted : VFun := ⟨⟨[.F], .F, true⟩, [],
(.seq
(.st [])
(.seq
(.seq
(.st [.asg [] [(6, (N 0)), (5, (.len (.v 0)))]])
(.block 0
(.loop v_mail_Sorted_L1)))
(.seq
(.st [.asg [] [(2, (.boo true))]])
(.ret (.v 2) []))))⟩
def v_mail_Find : VFun := ⟨⟨[.F, .F], .F, true⟩, [],
(.seq
(.st [.asg [(.chk (some 3) (.v 1))] [(3, (.lp (.cn (fA 1 0) (.cn (fA 1 1) (.cn (fA 1 2) .nl)))))], .call [] none 7 73 [(.v 0), (.fn 81 (.cn (.lp (.cn (lA 3 0) (.cn (lA 3 1) (.cn (lA 3 2) .nl)))) .nl))] [], .asg [] [(4, (.v 7))]])
(.ret (.v 4) []))⟩
def v_mail_To_L1 : VC :=
(.seq
(.st [.asg [(.bin .lss (.v 9) (.v 8))] []])
(.seq
(.cond (.bin .lss (.v 9) (.v 8))
.skip
(.exit 0))
(.seq
(.block 1
(.seq
(.st [.asg [] [(6, (.lp (.cn (.fld none (.ld (some 6) (.ia 6 (.v 7) (.v 9)) 0) 0) (.cn (.fld none (.ld (some 6) (.ia 6 (.v 7) (.v 9)) 0) 1) (.cn (.fld none (.ld (some 6) (.ia 6 (.v 7) (.v 9)) 0) 2) (.cn (.fld none (.ld (some 6) (.ia 6 (.v 7) (.v 9)) 0) 3) (.cn (.fld none (.ld (some 6) (.ia 6 (.v 7) (.v 9)) 0) 4) (.cn (.fld none (.ld (some 6) (.ia 6 (.v 7) (.v 9)) 0) 5) .nl))))))))], .asg [(.bin .eql (lA 6 3) (.v 1))] []])
(.cond (.bin .eql (lA 6 3) (.v 1))
(.st [.asg [] [(4, (.bin .add (.v 4) (N 1)))]])
.skip)))
(.st [.asg [] [(9, (.bin .add (.v 9) (N 1)))]]))))
def v_mail_To : VFun := ⟨⟨[.F, .F], .F, true⟩, [],
(.seq
(.st [.asg [] [(4, (N 0))]])
(.seq
(.seq
(.st [.asg [] [(9, (N 0)), (8, (.len (.v 0))), (7, (.v 0))]])
(.block 0
(.loop v_mail_To_L1)))
(.seq
(.st [])
(.ret (.v 4) []))))⟩
def v_mail_Copy_L1 : VC :=
(.seq
(.st [.asg [(.bin .lss (.v 7) (.v 6))] []])
(.seq
(.cond (.bin .lss (.v 7) (.v 6))
.skip
(.exit 0))
(.seq
(.block 1
(.st [.asg [] [(4, (.lp (.cn (.fld none (.ld (some 6) (.ia 6 (.v 5) (.v 7)) 0) 0) (.cn (.fld none (.ld (some 6) (.ia 6 (.v 5) (.v 7)) 0) 1) (.cn (.fld none (.ld (some 6) (.ia 6 (.v 5) (.v 7)) 0) 2) (.cn (.fld none (.ld (some 6) (.ia 6 (.v 5) (.v 7)) 0) 3) (.cn (.fld none (.ld (some 6) (.ia 6 (.v 5) (.v 7)) 0) 4) (.cn (.fld none (.ld (some 6) (.ia 6 (.v 5) (.v 7)) 0) 5) .nl))))))))], .call [] none 13 77 [(.agg (.cn (lA 4 0) (.cn (lA 4 1) (.cn (lA 4 2) (.cn (lA 4 3) (.cn (lA 4 4) (.cn (lA 4 5) .nl)))))))] [], .asg [(.chk (some 6) (.v 13))] [(2, (.app 6 (.v 2) (.lst (.cn (.v 13) .nl))))]]))
(.st [.asg [] [(7, (.bin .add (.v 7) (N 1)))]]))))
def v_mail_Copy : VFun := ⟨⟨[.F], (.O 6 true), false⟩, [],
(.seq
(.st [.asg [] [(2, (.lst .nl))]])
(.seq
(.seq
(.st [.asg [] [(7, (N 0)), (6, (.len (.v 0))), (5, (.v 0))]])
(.block 0
(.loop v_mail_Copy_L1)))
(.seq
(.st [])
(.ret (.v 2) []))))⟩
def v_slices_IndexFunc_api_Message_api_Message_L1 : VC :=
(.seq
(.st [.asg [(.bin .lss (.v 8) (.v 7))] []])
(.seq
(.cond (.bin .lss (.v 8) (.v 7))
.skip
(.exit 0))
(.seq
(.block 1
(.seq
(.st [.asg [] [(5, (.v 8))], .callv [(.ld (some 6) (.ia 6 (.v 0) (.v 5)) 0)] none 16 (.v 1) [(.ld (some 6) (.ia 6 (.v 0) (.v 5)) 0)]])
(.cond (.v 16)
(.seq
(.st [.asg [] [(4, (.v 5))]])
(.ret (.v 4) []))
.skip)))
(.st [.asg [] [(8, (.bin .add (.v 8) (N 1)))]]))))
def v_slices_IndexFunc_api_Message_api_Message : VFun := ⟨⟨[.F, .Q], .F, true⟩, [],
(.seq
(.st [])
(.seq
(.seq
(.st [.asg [] [(8, (N 0)), (7, (.len (.v 0)))]])
(.block 0
(.loop v_slices_IndexFunc_api_Message_api_Message_L1)))
(.seq
(.st [.asg [] [(4, (N (-1)))]])
(.ret (.v 4) []))))⟩
def v_mail_Put_1 : VFun := ⟨⟨[.F, (.B true [.F, .F, .F, .F, .F, .F])], .F, true⟩, [],
(.seq
(.st [.asg [(.chk (some 6) (.v 0))] [(2, (.lp (.cn (fA 0 0) (.cn (fA 0 1) (.cn (fA 0 2) (.cn (fA 0 3) (.cn (fA 0 4) (.cn (fA 0 5) .nl)))))))), (4000, (.lp (.cn (lA 1 0) (.cn (lA 1 1) (.cn (lA 1 2) (.cn (lA 1 3) (.cn (lA 1 4) (.cn (lA 1 5) .nl))))))))], .call [] none 8 75 [(.agg (.cn (lA 2 0) (.cn (lA 2 1) (.cn (lA 2 2) .nl)))), (.agg (.cn (lA 4000 0) (.cn (lA 4000 1) (.cn (lA 4000 2) .nl))))] [], .asg [] [(3, (.un .not (.v 8)))]])
(.ret (.v 3) []))⟩
def v_ident_Less : VFun := ⟨⟨[.F, .F], .F, true⟩, [],
(.seq
(.st [.asg [(.chk (some 3) (.v 0)), (.chk (some 3) (.v 1))] [(3, (.lp (.cn (fA 1 0) (.cn (fA 1 1) (.cn (fA 1 2) .nl))))), (2, (.lp (.cn (fA 0 0) (.cn (fA 0 1) (.cn (fA 0 2) .nl)))))], .call [] none 7 96 [(.agg (.cn (lA 2 0) (.cn (lA 2 1) (.cn (lA 2 2) .nl)))), (.agg (.cn (lA 3 0) (.cn (lA 3 1) (.cn (lA 3 2) .nl))))] [], .asg [] [(4, (.bin .lss (.v 7) (N 0)))]])
(.ret (.v 4) []))⟩
def v_slices_Insert_api_Message_api_Message : VFun := ⟨⟨[(.O 6 true), .F, (.O 6 true)], (.O 6 true), false⟩, [],
(.seq
(.st [.asg [(.slice 6 (.v 0) (.v 1) .nl .nl)] [], .asg [] [(7, (.len (.v 2)))]])
(.seq
(.seq
(.st [.asg [(.bin .eql (.v 7) (N 0))] []])
(.cond (.bin .eql (.v 7) (N 0))
(.seq
(.st [.asg [] [(6, (.v 0))]])
(.ret (.v 6) []))
.skip))
(.seq
(.st [.asg [] [(8, (.len (.v 0)))]])
(.seq
(.seq
(.st [.asg [(.bin .eql (.v 1) (.v 8))] []])
(.cond (.bin .eql (.v 1) (.v 8))
(.seq
(.st [.asg [] [(6, (.app 6 (.v 0) (.v 2)))]])
(.ret (.v 6) []))
.skip))
(.st [.asg [(.pos (.lst .nl))] []])))))⟩
def v_mail_own : VFun := ⟨⟨[.F], .F, false⟩, [],
(.seq
(.st [.asg [(.chk (some 6) (.v 0))] [(2, (.lp (.cn (N 0) (.cn (N 0) (.cn (N 0) (.cn (N 0) (.cn (N 0) (.cn (.lst .nl) .nl)))))))), (1, (.lp (.cn (fA 0 0) (.cn (fA 0 1) (.cn (fA 0 2) (.cn (fA 0 3) (.cn (fA 0 4) (.cn (fA 0 5) .nl))))))))], .call [] none 5 99 [(.agg (.cn (lA 1 3) (.cn (lA 1 4) (.cn (lA 1 5) .nl))))] [], .asg [(.chk (some 3) (.v 5))] [(1, (.lp (.cn (lA 1 0) (.cn (lA 1 1) (.cn (lA 1 2) (.cn (fA 5 0) (.cn (fA 5 1) (.cn (fA 5 2) .nl))))))))], .asg [] [(2, (.lp (.cn (lA 1 0) (.cn (lA 1 1) (.cn (lA 1 2) (.cn (lA 1 3) (.cn (lA 1 4) (.cn (lA 1 5) .nl))))))))]])
(.ret (.agg (.cn (lA 2 0) (.cn (lA 2 1) (.cn (lA 2 2) (.cn (lA 2 3) (.cn (lA 2 4) (.cn (lA 2 5) .nl))))))) []))⟩
def v_mail_Find_1 : VFun := ⟨⟨[.F, (.B true [.F, .F, .F])], .F, true⟩, [],
(.seq
(.st [.asg [(.chk (some 6) (.v 0))] [(2, (.lp (.cn (fA 0 0) (.cn (fA 0 1) (.cn (fA 0 2) (.cn (fA 0 3) (.cn (fA 0 4) (.cn (fA 0 5) .nl)))))))), (4000, (.lp (.cn (lA 1 0) (.cn (lA 1 1) (.cn (lA 1 2) .nl)))))], .asg [] [(3, (.eqs false [false, false, false] (.agg (.cn (lA 2 0) (.cn (lA 2 1) (.cn (lA 2 2) .nl)))) (.agg (.cn (lA 4000 0) (.cn (lA 4000 1) (.cn (lA 4000 2) .nl))))))]])
(.ret (.v 3) []))⟩
def v_ident_order : VFun := ⟨⟨[.F, .F], .F, true⟩, [],
(.seq
(.st [.asg [(.chk (some 3) (.v 0)), (.chk (some 3) (.v 1))] [(3, (.lp (.cn (fA 1 0) (.cn (fA 1 1) (.cn (fA 1 2) .nl))))), (2, (.lp (.cn (fA 0 0) (.cn (fA 0 1) (.cn (fA 0 2) .nl)))))], .call [] none 9 103 [(lA 2 0), (lA 3 0)] [], .call [] none 14 103 [(lA 2 1), (lA 3 1)] [], .call [] none 19 103 [(lA 2 2), (lA 3 2)] [], .call [(.chk none (.v 9)), (.chk none (.v 14)), (.chk none (.v 19))] none 21 102 [(.lst (.cn (.v 9) (.cn (.v 14) (.cn (.v 19) .nl))))] [], .asg [] [(4, (.v 21))]])
(.ret (.v 4) []))⟩
def v_slices_rotateRight_api_Message : VFun := ⟨⟨[(.O 6 true), .F], (.T []), true⟩, [],
(.seq
(.st [.call [(.bin .sub (.len (.v 0)) (.v 1))] none 9 104 [(.v 0), (.bin .sub (.len (.v 0)) (.v 1))] []])
(.ret (.tup .nl) []))⟩
def v_prog_CopyNote : VFun := ⟨⟨[.F], .F, false⟩, [],
(.seq
(.st [.asg [(.chk (some 3) (.v 0))] [(2, (.lp (.cn (N 0) (.cn (N 0) (.cn (.lst .nl) .nl))))), (1, (.lp (.cn (fA 0 0) (.cn (fA 0 1) (.cn (fA 0 2) .nl)))))], .call [] none 5 105 [(lA 1 2)] [], .asg [] [(1, (.lp (.cn (lA 1 0) (.cn (lA 1 1) (.cn (.v 5) .nl)))))], .asg [] [(2, (.lp (.cn (lA 1 0) (.cn (lA 1 1) (.cn (lA 1 2) .nl)))))]])
(.ret (.agg (.cn (lA 2 0) (.cn (lA 2 1) (.cn (lA 2 2) .nl)))) []))⟩
def v_cmp_Or_int_L1 : VC :=
(.seq
(.st [.asg [(.bin .lss (.v 8) (.v 7))] []])
(.seq
(.cond (.bin .lss (.v 8) (.v 7))
.skip
(.exit 0))
(.seq
(.block 1
(.seq
(.st [.asg [] [(5, (.ld none (.ia 1 (.v 6) (.v 8)) 0))], .asg [(.bin .neq (.v 5) (.v 3))] []])
(.cond (.bin .neq (.v 5) (.v 3))
(.seq
(.st [.asg [] [(2, (.v 5))]])
(.ret (.v 2) []))
.skip)))
(.st [.asg [] [(8, (.bin .add (.v 8) (N 1)))]]))))
def v_cmp_Or_int : VFun := ⟨⟨[.F], .F, true⟩, [],
(.seq
(.st [.asg [] [(3, (N 0))]])
(.seq
(.seq
(.st [.asg [] [(8, (N 0)), (7, (.len (.v 0))), (6, (.v 0))]])
(.block 0
(.loop v_cmp_Or_int_L1)))
(.seq
(.st [.asg [] [(2, (.v 3))]])
(.ret (.v 2) []))))⟩
def v_cmp_Compare_int : VFun := ⟨⟨[.F, .F], .F, true⟩, [],
(.seq
(.st [.call [] none 8 106 [(.v 0)] [], .asg [] [(5, (.v 8))], .call [] none 10 106 [(.v 1)] [], .asg [] [(6, (.v 10))]])
(.seq
(.seq
(.st [])
(.cond (.v 5)
(.seq
(.seq
(.st [])
(.cond (.v 6)
(.seq
(.st [.asg [] [(4, (N 0))]])
(.ret (.v 4) []))
.skip))
(.seq
(.st [.asg [] [(4, (N (-1)))]])
(.ret (.v 4) [])))
.skip))
(.seq
(.seq
(.st [])
(.cond (.v 6)
(.seq
(.st [.asg [] [(4, (N 1))]])
(.ret (.v 4) []))
.skip))
(.seq
(.seq
(.st [.asg [(.bin .lss (.v 0) (.v 1))] []])
(.cond (.bin .lss (.v 0) (.v 1))
(.seq
(.st [.asg [] [(4, (N (-1)))]])
(.ret (.v 4) []))
.skip))
(.seq
(.seq
(.st [.asg [(.bin .gtr (.v 0) (.v 1))] []])
(.cond (.bin .gtr (.v 0) (.v 1))
(.seq
(.st [.asg [] [(4, (N 1))]])
(.ret (.v 4) []))
.skip))
(.seq
(.st [.asg [] [(4, (N 0))]])
(.ret (.v 4) [])))))))⟩
def v_slices_rotateLeft_api_Message : VFun := ⟨⟨[(.O 6 true), .F], (.T []), true⟩, [],
(.st [.call [(.slice 6 (.v 0) .nl (.v 1) .nl)] none 7 107 [(.slice 6 (.v 0) .nl (.v 1) .nl)] [], .asg [(.pos (.lst .nl))] []])⟩
def v_cmp_isNaN_int : VFun := ⟨⟨[.F], .F, true⟩, [],
(.seq
(.st [.asg [] [(2, (.bin .neq (.v 0) (.v 0)))]])
(.ret (.v 2) []))⟩
def v_slices_Reverse_api_Message_api_Message_L1 : VC :=
(.seq
(.seq
(.st [.asg [(.bin .lss (.v 2) (.v 3))] []])
(.cond (.bin .lss (.v 2) (.v 3))
.skip
(.exit 0)))
(.seq
(.block 1
(.st [.asg [(.ia 6 (.upd (some 6) (.v 0) (.v 2) 0 (.ld (some 6) (.ia 6 (.v 0) (.v 3)) 0)) (.v 3))] [(0, (.upd (some 6) (.upd (some 6) (.v 0) (.v 2) 0 (.ld (some 6) (.ia 6 (.v 0) (.v 3)) 0)) (.v 3) 0 (.ld (some 6) (.ia 6 (.v 0) (.v 2)) 0)))]]))
(.st [.asg [] [(3, (.bin .sub (.v 3) (N 1))), (2, (.bin .add (.v 2) (N 1)))]])))
def v_slices_Reverse_api_Message_api_Message : VFun := ⟨⟨[(.O 6 true)], (.T []), true⟩, [],
(.seq
(.seq
(.st [.asg [] [(3, (.bin .sub (.len (.v 0)) (N 1))), (2, (N 0))]])
(.block 0
(.loop v_slices_Reverse_api_Message_api_Message_L1)))
(.ret (.tup .nl) []))⟩
def v_law10_EventOdd : VFun := ⟨⟨[.F, .F], .F, true⟩, [],
(.seq
(.st [.call [] none 10 125 [] [], .asg [(.chk (some 4) (.v 10))] [(5, (.lp (.cn (fA 10 0) (.cn (fA 10 1) (.cn (fA 10 2) (.cn (fA 10 3) .nl))))))], .call [] none 13 117 [(.agg (.cn (lA 5 0) (.cn (lA 5 1) (.cn (lA 5 2) (.cn (lA 5 3) .nl)))))] [], .asg [(.chk (some 6) (.ext (.v 13) 0))] [(7, (.ext (.v 13) 1)), (6, (.lp (.cn (.fld none (.ext (.v 13) 0) 0) (.cn (.fld none (.ext (.v 13) 0) 1) (.cn (.fld none (.ext (.v 13) 0) 2) (.cn (.fld none (.ext (.v 13) 0) 3) (.cn (.fld none (.ext (.v 13) 0) 4) (.cn (.fld none (.ext (.v 13) 0) 5) .nl))))))))]])
(.seq
(.seq
(.st [.asg [(.gd (.bin .neq (.v 7) (N 0)) false (.bin .eql (.v 1) (N 0))), (.ite (.bin .neq (.v 7) (N 0)) (.boo true) (.bin .eql (.v 1) (N 0)))] []])
(.cond (.ite (.bin .neq (.v 7) (N 0)) (.boo true) (.bin .eql (.v 1) (N 0)))
(.seq
(.st [.call [(.bin .eql (.v 7) (N 0))] (some ((.bin .eql (.v 7) (N 0)), true)) 25 120 [] [], .asg [] [(4, (.ite (.bin .eql (.v 7) (N 0)) (.v 25) (.boo false)))]])
(.ret (.v 4) []))
.skip))
(.seq
(.st [.asg [] [(8, (.lp (.cn (N 9) (.cn (N 9) (.cn (N 9) (.cn (N 9) .nl))))))], .asg [] [(9, (.lp (.cn (N 1) (.cn (N (-1)) (.cn (N 0) (.cn (N 0) (.cn (N 0) .nl)))))))]])
(.seq
(.seq
(.st [.call [] none 31 23 [(.v 0), (N 7)] []])
(.block 0
(.seq
(.st [.asg [(.bin .eql (.v 31) (N 0))] []])
(.cond (.bin .eql (.v 31) (N 0))
(.seq
(.st [.asg [(.chk none (.v 1))] [(9, (.lp (.cn (.v 1) (.cn (lA 9 1) (.cn (lA 9 2) (.cn (lA 9 3) (.cn (lA 9 4) .nl)))))))], .asg [(.gd (.bin .geq (.v 1) (N 1)) true (.bin .leq (.v 1) (N 3))), (.ite (.bin .geq (.v 1) (N 1)) (.bin .leq (.v 1) (N 3)) (.boo false))] []])
(.cond (.ite (.bin .geq (.v 1) (N 1)) (.bin .leq (.v 1) (N 3)) (.boo false))
(.seq
(.st [.call [] none 46 122 [(.agg (.cn (lA 5 0) (.cn (lA 5 1) (.cn (lA 5 2) (.cn (lA 5 3) .nl))))), (.agg (.cn (lA 8 0) (.cn (lA 8 1) (.cn (lA 8 2) (.cn (lA 8 3) .nl))))), (.agg (.cn (lA 6 0) (.cn (lA 6 1) (.cn (lA 6 2) (.cn (lA 6 3) (.cn (lA 6 4) (.cn (lA 6 5) .nl))))))), (.agg (.cn (lA 9 0) (.cn (lA 9 1) (.cn (lA 9 2) (.cn (lA 9 3) (.cn (lA 9 4) .nl))))))] [], .call [(.gd (.v 46) true .nl)] (some ((.v 46), true)) 48 120 [] [], .asg [] [(4, (.ite (.v 46) (.v 48) (.boo false)))]])
(.ret (.v 4) []))
.skip))
(.seq
(.st [.asg [(.bin .eql (.v 31) (N 1))] []])
(.cond (.bin .eql (.v 31) (N 1))
(.st [.asg [(.chk none (.v 1))] [(9, (.lp (.cn (lA 9 0) (.cn (lA 9 1) (.cn (lA 9 2) (.cn (lA 9 3) (.cn (.v 1) .nl)))))))]])
(.seq
(.st [.asg [(.bin .eql (.v 31) (N 2))] []])
(.cond (.bin .eql (.v 31) (N 2))
(.st [.asg [(.chk none (.v 1))] [(9, (.lp (.cn (lA 9 0) (.cn (lA 9 1) (.cn (lA 9 2) (.cn (.v 1) (.cn (lA 9 4) .nl)))))))]])
(.seq
(.st [.asg [(.bin .eql (.v 31) (N 3))] []])
(.cond (.bin .eql (.v 31) (N 3))
(.st [.asg [(.chk none (.v 1))] [(9, (.lp (.cn (N 5) (.cn (N 0) (.cn (.v 1) (.cn (N 0) (.cn (N 0) .nl)))))))]])
(.seq
(.st [.asg [(.bin .eql (.v 31) (N 4))] []])
(.cond (.bin .eql (.v 31) (N 4))
(.st [.asg [(.chk none (.v 1))] [(9, (.lp (.cn (N 4) (.cn (N 0) (.cn (N 0) (.cn (N 0) (.cn (.v 1) .nl)))))))]])
(.seq
(.st [.asg [(.bin .eql (.v 31) (N 5))] []])
(.cond (.bin .eql (.v 31) (N 5))
(.seq
(.st [.asg [] [(9, (.lp (.cn (N 5) (.cn (N 0) (.cn (N 0) (.cn (N 0) (.cn (.bin .add (.v 1) (N 1)) .nl)))))))], .asg [(.gd (.bin .eql (.v 1) (N (-1))) false (.bin .eql (.v 1) (N 0))), (.ite (.bin .eql (.v 1) (N (-1))) (.boo true) (.bin .eql (.v 1) (N 0)))] []])
(.cond (.ite (.bin .eql (.v 1) (N (-1))) (.boo true) (.bin .eql (.v 1) (N 0)))
(.seq
(.st [.call [] none 83 122 [(.agg (.cn (lA 5 0) (.cn (lA 5 1) (.cn (lA 5 2) (.cn (lA 5 3) .nl))))), (.agg (.cn (lA 8 0) (.cn (lA 8 1) (.cn (lA 8 2) (.cn (lA 8 3) .nl))))), (.agg (.cn (lA 6 0) (.cn (lA 6 1) (.cn (lA 6 2) (.cn (lA 6 3) (.cn (lA 6 4) (.cn (lA 6 5) .nl))))))), (.agg (.cn (lA 9 0) (.cn (lA 9 1) (.cn (lA 9 2) (.cn (lA 9 3) (.cn (lA 9 4) .nl))))))] [], .call [(.gd (.v 83) true .nl)] (some ((.v 83), true)) 85 120 [] [], .asg [] [(4, (.ite (.v 83) (.v 85) (.boo false)))]])
(.ret (.v 4) []))
.skip))
(.seq
(.st [.asg [(.bin .eql (.v 31) (N 6))] []])
(.cond (.bin .eql (.v 31) (N 6))
(.st [.asg [] [(9, (.lp (.cn (lA 9 0) (.cn (.bin .sub (.v 1) (N 1)) (.cn (lA 9 2) (.cn (lA 9 3) (.cn (lA 9 4) .nl)))))))]])
.skip))))))))))))))))
(.seq
(.st [.call [] none 97 122 [(.agg (.cn (lA 5 0) (.cn (lA 5 1) (.cn (lA 5 2) (.cn (lA 5 3) .nl))))), (.agg (.cn (lA 8 0) (.cn (lA 8 1) (.cn (lA 8 2) (.cn (lA 8 3) .nl))))), (.agg (.cn (lA 6 0) (.cn (lA 6 1) (.cn (lA 6 2) (.cn (lA 6 3) (.cn (lA 6 4) (.cn (lA 6 5) .nl))))))), (.agg (.cn (lA 9 0) (.cn (lA 9 1) (.cn (lA 9 2) (.cn (lA 9 3) (.cn (lA 9 4) .nl))))))] [], .call [(.un .not (.v 97))] (some ((.un .not (.v 97)), true)) 100 120 [] [], .asg [] [(4, (.ite (.un .not (.v 97)) (.v 100) (.boo false)))]])
(.ret (.v 4) []))))))⟩
def v_world_Start_L1 : VC :=
(.seq
(.st [.asg [(.bin .lss (.v 16) (.v 15))] []])
(.seq
(.cond (.bin .lss (.v 16) (.v 15))
.skip
(.exit 0))
(.seq
(.block 1
(.st [.asg [] [(6, (.lp (.cn (.fld none (.ld (some 4) (.ia 4 (.v 14) (.v 16)) 0) 0) (.cn (.fld none (.ld (some 4) (.ia 4 (.v 14) (.v 16)) 0) 1) (.cn (.fld none (.ld (some 4) (.ia 4 (.v 14) (.v 16)) 0) 2) (.cn (.fld none (.ld (some 4) (.ia 4 (.v 14) (.v 16)) 0) 3) .nl))))))], .call [] none 24 105 [(lA 6 0)] [], .asg [] [(2, (.lp (.cn (.app 5 (lA 2 0) (.lst (.cn (.agg (.cn (.v 24) (.cn (lA 6 3) (.cn (N 0) (.cn (N 0) (.cn (N 0) .nl)))))) .nl))) (.cn (lA 2 1) (.cn (lA 2 2) (.cn (lA 2 3) (.cn (lA 2 4) (.cn (lA 2 5) .nl))))))))]]))
(.st [.asg [] [(16, (.bin .add (.v 16) (N 1)))]]))))
def v_world_Start : VFun := ⟨⟨[.F], (.T [.F, .F]), false⟩, [],
(.seq
(.st [.asg [(.chk (some 4) (.v 0))] [(2, (.lp (.cn (.lst .nl) (.cn (.lst .nl) (.cn (N 0) (.cn (N 0) (.cn (N 0) (.cn (N 0) .nl)))))))), (1, (.lp (.cn (fA 0 0) (.cn (fA 0 1) (.cn (fA 0 2) (.cn (fA 0 3) .nl))))))]])
(.seq
(.seq
(.st [.call [] none 8 128 [(.agg (.cn (lA 1 0) (.cn (lA 1 1) (.cn (lA 1 2) (.cn (lA 1 3) .nl)))))] [], .asg [] [(4, (.v 8))], .asg [(.bin .neq (.v 4) (N 0))] []])
(.cond (.bin .neq (.v 4) (N 0))
(.seq
(.st [.asg [] [(3, (.v 4))]])
(.ret (.tup (.cn (.agg (.cn (lA 2 0) (.cn (lA 2 1) (.cn (lA 2 2) (.cn (lA 2 3) (.cn (lA 2 4) (.cn (lA 2 5) .nl))))))) (.cn (.v 3) .nl))) []))
.skip))
(.seq
(.seq
(.st [.asg [] [(16, (N 0)), (15, (.len (lA 1 1))), (14, (lA 1 1))]])
(.block 0
(.loop v_world_Start_L1)))
(.seq
(.st [.call [] none 35 129 [(.agg (.cn (lA 1 0) (.cn (lA 1 1) (.cn (lA 1 2) (.cn (lA 1 3) .nl))))), (.lp (.cn (lA 2 0) (.cn (lA 2 1) (.cn (lA 2 2) (.cn (lA 2 3) (.cn (lA 2 4) (.cn (lA 2 5) .nl))))))), (N (-1)), (lA 1 2)] [2], .asg [] [(3, (N 0))]])
(.ret (.tup (.cn (.agg (.cn (lA 2 0) (.cn (lA 2 1) (.cn (lA 2 2) (.cn (lA 2 3) (.cn (lA 2 4) (.cn (lA 2 5) .nl))))))) (.cn (.v 3) .nl))) [])))))⟩
def v_event_Is : VFun := ⟨⟨[.F, .F, .F, .F], .F, true⟩, [],
(.seq
(.st [.asg [(.chk (some 4) (.v 0)), (.chk (some 4) (.v 1)), (.chk (some 6) (.v 2)), (.chk (some 5) (.v 3))] [(7, (.lp (.cn (fA 3 0) (.cn (fA 3 1) (.cn (fA 3 2) (.cn (fA 3 3) (.cn (fA 3 4) .nl))))))), (6, (.lp (.cn (fA 2 0) (.cn (fA 2 1) (.cn (fA 2 2) (.cn (fA 2 3) (.cn (fA 2 4) (.cn (fA 2 5) .nl)))))))), (5, (.lp (.cn (fA 1 0) (.cn (fA 1 1) (.cn (fA 1 2) (.cn (fA 1 3) .nl)))))), (4, (.lp (.cn (fA 0 0) (.cn (fA 0 1) (.cn (fA 0 2) (.cn (fA 0 3) .nl))))))], .call [] none 11 132 [(.agg (.cn (lA 4 0) (.cn (lA 4 1) (.cn (lA 4 2) (.cn (lA 4 3) .nl))))), (.agg (.cn (lA 6 0) (.cn (lA 6 1) (.cn (lA 6 2) (.cn (lA 6 3) (.cn (lA 6 4) (.cn (lA 6 5) .nl)))))))] [], .call [(.gd (.v 11) true .nl), (.gd (.v 11) true .nl)] (some ((.v 11), true)) 14 124 [(.agg (.cn (lA 5 0) (.cn (lA 5 1) (.cn (lA 5 2) (.cn (lA 5 3) .nl)))))] [], .call [(.gd (.ite (.v 11) (.v 14) (.boo false)) true .nl), (.gd (.ite (.v 11) (.v 14) (.boo false)) true .nl)] (some ((.ite (.v 11) (.v 14) (.boo false)), true)) 19 136 [(.agg (.cn (lA 6 0) (.cn (lA 6 1) (.cn (lA 6 2) (.cn (lA 6 3) (.cn (lA 6 4) (.cn (lA 6 5) .nl))))))), (.agg (.cn (lA 7 0) (.cn (lA 7 1) (.cn (lA 7 2) (.cn (lA 7 3) (.cn (lA 7 4) .nl))))))] [], .call [(.gd (.ite (.ite (.v 11) (.v 14) (.boo false)) (.v 19) (.boo false)) true .nl), (.gd (.ite (.ite (.v 11) (.v 14) (.boo false)) (.v 19) (.boo false)) true .nl)] (some ((.ite (.ite (.v 11) (.v 14) (.boo false)) (.v 19) (.boo false)), true)) 24 131 [(.agg (.cn (lA 5 0) (.cn (lA 5 1) (.cn (lA 5 2) (.cn (lA 5 3) .nl))))), (.agg (.cn (lA 6 0) (.cn (lA 6 1) (.cn (lA 6 2) (.cn (lA 6 3) (.cn (lA 6 4) (.cn (lA 6 5) .nl)))))))] [], .call [(.gd (.ite (.ite (.v 11) (.v 14) (.boo false)) (.v 19) (.boo false)) true .nl), (.gd (.ite (.ite (.v 11) (.v 14) (.boo false)) (.v 19) (.boo false)) true .nl)] (some ((.ite (.ite (.v 11) (.v 14) (.boo false)) (.v 19) (.boo false)), true)) 27 137 [(.v 24), (lA 7 0)] [], .asg [] [(8, (.ite (.ite (.ite (.v 11) (.v 14) (.boo false)) (.v 19) (.boo false)) (.v 27) (.boo false)))]])
(.ret (.v 8) []))⟩
def v_event_May : VFun := ⟨⟨[.F], .F, true⟩, [],
(.seq
(.st [.asg [(.chk (some 4) (.v 0))] [(1, (.lp (.cn (fA 0 0) (.cn (fA 0 1) (.cn (fA 0 2) (.cn (fA 0 3) .nl))))))], .asg [(.gd (.bin .geq (.mm false (.cn (lA 1 0) (.cn (lA 1 1) (.cn (lA 1 2) (.cn (lA 1 3) .nl))))) (N 0)) true (.mm true (.cn (lA 1 0) (.cn (lA 1 1) (.cn (lA 1 2) (.cn (lA 1 3) .nl)))))), (.gd (.bin .geq (.mm false (.cn (lA 1 0) (.cn (lA 1 1) (.cn (lA 1 2) (.cn (lA 1 3) .nl))))) (N 0)) true (.bin .leq (.mm true (.cn (lA 1 0) (.cn (lA 1 1) (.cn (lA 1 2) (.cn (lA 1 3) .nl))))) (N 1000)))] [(2, (.ite (.bin .geq (.mm false (.cn (lA 1 0) (.cn (lA 1 1) (.cn (lA 1 2) (.cn (lA 1 3) .nl))))) (N 0)) (.bin .leq (.mm true (.cn (lA 1 0) (.cn (lA 1 1) (.cn (lA 1 2) (.cn (lA 1 3) .nl))))) (N 1000)) (.boo false)))]])
(.ret (.v 2) []))⟩
def v_law10_one : VFun := ⟨⟨[], .F, false⟩, [],
(.seq
(.st [.asg [] [(0, (.lp (.cn (.lst .nl) (.cn (.lst .nl) (.cn (.lst .nl) (.cn (N 0) .nl))))))], .asg [(.chk (some 2) (.agg (.cn (N 0) (.cn (.lst .nl) .nl)))), (.chk (some 4) (.agg (.cn (.lst .nl) (.cn (N 4) (.cn (N 0) (.cn (.boo true) .nl)))))), (.chk (some 4) (.agg (.cn (.lst .nl) (.cn (N 4) (.cn (N (-1)) (.cn (.boo false) .nl)))))), (.chk (some 3) (.agg (.cn (N 0) (.cn (N 0) (.cn (.lst .nl) .nl))))), (.chk (some 3) (.agg (.cn (N 1) (.cn (N 0) (.cn (.lst .nl) .nl)))))] [(0, (.lp (.cn (.lst (.cn (.agg (.cn (N 0) (.cn (.lst .nl) .nl))) .nl)) (.cn (.lst (.cn (.agg (.cn (.lst .nl) (.cn (N 4) (.cn (N 0) (.cn (.boo true) .nl))))) (.cn (.agg (.cn (.lst .nl) (.cn (N 4) (.cn (N (-1)) (.cn (.boo false) .nl))))) .nl))) (.cn (.lst (.cn (.agg (.cn (N 0) (.cn (N 0) (.cn (.lst .nl) .nl)))) (.cn (.agg (.cn (N 1) (.cn (N 0) (.cn (.lst .nl) .nl)))) .nl))) (.cn (N 5) .nl))))))]])
(.ret (.agg (.cn (lA 0 0) (.cn (lA 0 1) (.cn (lA 0 2) (.cn (lA 0 3) .nl))))) []))⟩
def v_flow_Check_L1 : VC :=
(.seq
(.st [.asg [(.bin .lss (.v 17) (.v 16))] []])
(.seq
(.cond (.bin .lss (.v 17) (.v 16))
.skip
(.exit 0))
(.seq
(.block 1
(.seq
(.st [.asg [] [(5, (.lp (.cn (.fld none (.ld (some 2) (.ia 2 (.v 15) (.v 17)) 0) 0) (.cn (.fld none (.ld (some 2) (.ia 2 (.v 15) (.v 17)) 0) 1) .nl))))], .call [] none 24 140 [(.agg (.cn (lA 1 0) (.cn (lA 1 1) (.cn (lA 1 2) (.cn (lA 1 3) .nl))))), (.agg (.cn (lA 5 0) (.cn (lA 5 1) .nl)))] [], .asg [] [(8, (.ext (.v 24) 2))], .asg [(.un .not (.v 8))] []])
(.cond (.un .not (.v 8))
(.seq
(.st [.asg [] [(2, (N 5))]])
(.ret (.v 2) []))
.skip)))
(.st [.asg [] [(17, (.bin .add (.v 17) (N 1)))]]))))
def v_flow_Check : VFun := ⟨⟨[.F], .F, true⟩, [],
(.seq
(.st [.asg [(.chk (some 4) (.v 0))] [(1, (.lp (.cn (fA 0 0) (.cn (fA 0 1) (.cn (fA 0 2) (.cn (fA 0 3) .nl))))))]])
(.seq
(.seq
(.st [.call [] none 10 139 [(.agg (.cn (lA 1 0) (.cn (lA 1 1) (.cn (lA 1 2) (.cn (lA 1 3) .nl)))))] [], .asg [] [(3, (.v 10))], .asg [(.bin .neq (.v 3) (N 0))] []])
(.cond (.bin .neq (.v 3) (N 0))
(.seq
(.st [.asg [] [(2, (.v 3))]])
(.ret (.v 2) []))
.skip))
(.seq
(.seq
(.st [.asg [] [(17, (N 0)), (16, (.len (lA 1 0))), (15, (lA 1 0))]])
(.block 0
(.loop v_flow_Check_L1)))
(.seq
(.st [.asg [] [(2, (N 0))]])
(.ret (.v 2) [])))))⟩
def v_world_Give_L1 : VC :=
(.seq
(.st [.asg [(.bin .lss (.v 26) (.v 25))] []])
(.seq
(.cond (.bin .lss (.v 26) (.v 25))
.skip
(.exit 0))
(.seq
(.block 1
(.seq
(.st [.asg [] [(9, (.v 26)), (10, (.lp (.cn (.fld none (.ld (some 3) (.ia 3 (.v 24) (.v 26)) 0) 0) (.cn (.fld none (.ld (some 3) (.ia 3 (.v 24) (.v 26)) 0) 1) (.cn (.fld none (.ld (some 3) (.ia 3 (.v 24) (.v 26)) 0) 2) .nl)))))], .asg [(.gd (.bin .geq (lA 10 0) (N 0)) true (.len (lA 4 1))), (.gd (.bin .geq (lA 10 0) (N 0)) true (.len (lA 4000 0))), (.gd (.bin .geq (lA 10 0) (N 0)) true (.mm false (.cn (.len (lA 4 1)) (.cn (.len (lA 4000 0)) .nl)))), (.gd (.bin .geq (lA 10 0) (N 0)) true (.bin .lss (lA 10 0) (.mm false (.cn (.len (lA 4 1)) (.cn (.len (lA 4000 0)) .nl))))), (.ite (.bin .geq (lA 10 0) (N 0)) (.bin .lss (lA 10 0) (.mm false (.cn (.len (lA 4 1)) (.cn (.len (lA 4000 0)) .nl)))) (.boo false))] []])
(.cond (.ite (.bin .geq (lA 10 0) (N 0)) (.bin .lss (lA 10 0) (.mm false (.cn (.len (lA 4 1)) (.cn (.len (lA 4000 0)) .nl)))) (.boo false))
(.st [.call [(.chk none (.v 2)), (.bin .add (.v 8) (.v 9))] none 57 141 [(.agg (.cn (lA 4 0) (.cn (lA 4 1) (.cn (lA 4 2) (.cn (lA 4 3) .nl))))), (.lp (.cn (lA 4000 0) (.cn (lA 4000 1) (.cn (lA 4000 2) (.cn (lA 4000 3) (.cn (lA 4000 4) (.cn (lA 4000 5) .nl))))))), (.agg (.cn (.v 2) (.cn (.bin .add (.v 8) (.v 9)) (.cn (N 0) (.cn (lA 10 0) (.cn (lA 10 1) (.cn (lA 10 2) .nl)))))))] [4000]])
.skip)))
(.st [.asg [] [(26, (.bin .add (.v 26) (N 1)))]]))))
def v_world_Give : VFun := ⟨⟨[.F, (.B false [(.O 5 true), (.O 6 false), .F, .F, .F, .F]), .F, .F], (.T []), true⟩, [],
(.seq
(.seq
(.st [.asg [(.chk (some 4) (.v 0))] [(4, (.lp (.cn (fA 0 0) (.cn (fA 0 1) (.cn (fA 0 2) (.cn (fA 0 3) .nl)))))), (4000, (.lp (.cn (lA 1 0) (.cn (lA 1 1) (.cn (lA 1 2) (.cn (lA 1 3) (.cn (lA 1 4) (.cn (lA 1 5) .nl))))))))], .asg [] [(8, (N 0))]])
(.seq
(.seq
(.st [.asg [(.bin .geq (.v 2) (N 0))] []])
(.cond (.bin .geq (.v 2) (N 0))
(.st [.asg [] [(8, (.bin .sub (.ld none (.ia 5 (lA 4000 0) (.v 2)) 3) (.len (.v 3))))]])
.skip))
(.seq
(.st [.asg [] [(26, (N 0)), (25, (.len (.v 3))), (24, (.v 3))]])
(.block 0
(.loop v_world_Give_L1)))))
(.ret (.tup .nl) [(.lp (.cn (lA 4000 0) (.cn (lA 4000 1) (.cn (lA 4000 2) (.cn (lA 4000 3) (.cn (lA 4000 4) (.cn (lA 4000 5) .nl)))))))]))⟩
def v_event_Left : VFun := ⟨⟨[.F, .F], .F, false⟩, [],
(.seq
(.st [.asg [(.chk (some 4) (.v 0)), (.chk (some 6) (.v 1))] [(4, (.lp (.cn (N 0) (.cn (N 0) (.cn (N 0) (.cn (N 0) .nl)))))), (3, (.lp (.cn (fA 1 0) (.cn (fA 1 1) (.cn (fA 1 2) (.cn (fA 1 3) (.cn (fA 1 4) (.cn (fA 1 5) .nl)))))))), (2, (.lp (.cn (fA 0 0) (.cn (fA 0 1) (.cn (fA 0 2) (.cn (fA 0 3) .nl))))))], .call [] none 10 144 [(lA 2 0), (lA 3 2)] [], .call [] none 16 144 [(lA 2 1), (lA 3 3)] [], .call [] none 22 144 [(lA 2 2), (lA 3 4)] [], .call [] none 28 144 [(lA 2 3), (lA 3 5)] [], .asg [(.chk none (.v 10)), (.chk none (.v 16)), (.chk none (.v 22)), (.chk none (.v 28))] [(4, (.lp (.cn (.v 10) (.cn (.v 16) (.cn (.v 22) (.cn (.v 28) .nl))))))]])
(.ret (.agg (.cn (lA 4 0) (.cn (lA 4 1) (.cn (lA 4 2) (.cn (lA 4 3) .nl))))) []))⟩
def v_world_Check : VFun := ⟨⟨[.F, .F], .F, true⟩, [],
(.seq
(.st [.asg [(.chk (some 4) (.v 0)), (.chk (some 6) (.v 1))] [(3, (.lp (.cn (fA 1 0) (.cn (fA 1 1) (.cn (fA 1 2) (.cn (fA 1 3) (.cn (fA 1 4) (.cn (fA 1 5) .nl)))))))), (2, (.lp (.cn (fA 0 0) (.cn (fA 0 1) (.cn (fA 0 2) (.cn (fA 0 3) .nl))))))], .call [] none 6 128 [(.agg (.cn (lA 2 0) (.cn (lA 2 1) (.cn (lA 2 2) (.cn (lA 2 3) .nl)))))] [], .call [(.bin .eql (.v 6) (N 0))] (some ((.bin .eql (.v 6) (N 0)), true)) 11 145 [(.agg (.cn (lA 2 0) (.cn (lA 2 1) (.cn (lA 2 2) (.cn (lA 2 3) .nl))))), (.agg (.cn (lA 3 0) (.cn (lA 3 1) (.cn (lA 3 2) (.cn (lA 3 3) (.cn (lA 3 4) (.cn (lA 3 5) .nl)))))))] [], .asg [] [(4, (.ite (.bin .eql (.v 6) (N 0)) (.v 11) (.boo false)))]])
(.ret (.v 4) []))⟩
def v_event_Can : VFun := ⟨⟨[.F, .F], .F, true⟩, [],
(.seq
(.st [.asg [(.chk (some 6) (.v 0)), (.chk (some 5) (.v 1))] [(3, (.lp (.cn (fA 1 0) (.cn (fA 1 1) (.cn (fA 1 2) (.cn (fA 1 3) (.cn (fA 1 4) .nl))))))), (2, (.lp (.cn (fA 0 0) (.cn (fA 0 1) (.cn (fA 0 2) (.cn (fA 0 3) (.cn (fA 0 4) (.cn (fA 0 5) .nl))))))))]])
(.seq
(.seq
(.st [.asg [] [(7, (lA 3 0))]])
(.block 0
(.seq
(.seq
(.st [.asg [] [(8, (.bin .eql (.v 7) (N 1)))]])
(.cond (.v 8)
.skip
(.seq
(.st [.asg [] [(8, (.bin .eql (.v 7) (N 2)))]])
(.cond (.v 8)
.skip
(.st [.asg [] [(8, (.bin .eql (.v 7) (N 3)))]])))))
(.cond (.v 8)
(.seq
(.st [.call [] none 16 39 [(lA 2 1), (.agg (.cn (lA 3 1) (.cn (lA 3 2) (.cn (lA 3 3) .nl))))] [], .asg [] [(5, (.v 16))], .asg [(.gd (.bin .eql (lA 3 4) (N 0)) true (.bin .geq (.v 5) (N 0))), (.gd (.gd (.ite (.bin .eql (lA 3 4) (N 0)) (.bin .geq (.v 5) (N 0)) (.boo false)) true (.bin .neq (lA 3 0) (N 1))) false (.ia 6 (lA 2 1) (.v 5))), (.gd (.gd (.ite (.bin .eql (lA 3 4) (N 0)) (.bin .geq (.v 5) (N 0)) (.boo false)) true (.bin .neq (lA 3 0) (N 1))) false (.fa (.ia 6 (lA 2 1) (.v 5)) 3)), (.gd (.gd (.ite (.bin .eql (lA 3 4) (N 0)) (.bin .geq (.v 5) (N 0)) (.boo false)) true (.bin .neq (lA 3 0) (N 1))) false (.fa (.fa (.ia 6 (lA 2 1) (.v 5)) 3) 0)), (.gd (.gd (.ite (.bin .eql (lA 3 4) (N 0)) (.bin .geq (.v 5) (N 0)) (.boo false)) true (.bin .neq (lA 3 0) (N 1))) false (.ld none (.fa (.fa (.ia 6 (lA 2 1) (.v 5)) 3) 0) 0)), (.gd (.gd (.ite (.bin .eql (lA 3 4) (N 0)) (.bin .geq (.v 5) (N 0)) (.boo false)) true (.bin .neq (lA 3 0) (N 1))) false (.ia 5 (lA 2 0) (.ld none (.fa (.fa (.ia 6 (lA 2 1) (.v 5)) 3) 0) 0))), (.gd (.gd (.ite (.bin .eql (lA 3 4) (N 0)) (.bin .geq (.v 5) (N 0)) (.boo false)) true (.bin .neq (lA 3 0) (N 1))) false (.fa (.ia 5 (lA 2 0) (.ld none (.fa (.fa (.ia 6 (lA 2 1) (.v 5)) 3) 0) 0)) 2)), (.gd (.gd (.ite (.bin .eql (lA 3 4) (N 0)) (.bin .geq (.v 5) (N 0)) (.boo false)) true (.bin .neq (lA 3 0) (N 1))) false (.ld none (.fa (.ia 5 (lA 2 0) (.ld none (.fa (.fa (.ia 6 (lA 2 1) (.v 5)) 3) 0) 0)) 2) 0)), (.gd (.gd (.ite (.bin .eql (lA 3 4) (N 0)) (.bin .geq (.v 5) (N 0)) (.boo false)) true (.bin .neq (lA 3 0) (N 1))) false (.bin .eql (.ld none (.fa (.ia 5 (lA 2 0) (.ld none (.fa (.fa (.ia 6 (lA 2 1) (.v 5)) 3) 0) 0)) 2) 0) (N 0))), (.gd (.ite (.bin .eql (lA 3 4) (N 0)) (.bin .geq (.v 5) (N 0)) (.boo false)) true (.ite (.bin .neq (lA 3 0) (N 1)) (.boo true) (.bin .eql (.ld none (.fa (.ia 5 (lA 2 0) (.ld none (.fa (.fa (.ia 6 (lA 2 1) (.v 5)) 3) 0) 0)) 2) 0) (N 0))))] [(4, (.ite (.ite (.bin .eql (lA 3 4) (N 0)) (.bin .geq (.v 5) (N 0)) (.boo false)) (.ite (.bin .neq (lA 3 0) (N 1)) (.boo true) (.bin .eql (.ld none (.fa (.ia 5 (lA 2 0) (.ld none (.fa (.fa (.ia 6 (lA 2 1) (.v 5)) 3) 0) 0)) 2) 0) (N 0))) (.boo false)))]])
(.ret (.v 4) []))
(.seq
(.seq
(.st [.asg [] [(44, (.bin .eql (.v 7) (N 4)))]])
(.cond (.v 44)
.skip
(.st [.asg [] [(44, (.bin .eql (.v 7) (N 5)))]])))
(.cond (.v 44)
(.seq
(.st [.asg [(.gd (.eqs false [false, false, false] (.agg (.cn (lA 3 1) (.cn (lA 3 2) (.cn (lA 3 3) .nl)))) (.agg (.cn (N 0) (.cn (N 0) (.cn (N 0) .nl))))) true (.bin .geq (lA 3 4) (N 0))), (.gd (.ite (.eqs false [false, false, false] (.agg (.cn (lA 3 1) (.cn (lA 3 2) (.cn (lA 3 3) .nl)))) (.agg (.cn (N 0) (.cn (N 0) (.cn (N 0) .nl))))) (.bin .geq (lA 3 4) (N 0)) (.boo false)) true (.len (lA 2 0))), (.gd (.ite (.eqs false [false, false, false] (.agg (.cn (lA 3 1) (.cn (lA 3 2) (.cn (lA 3 3) .nl)))) (.agg (.cn (N 0) (.cn (N 0) (.cn (N 0) .nl))))) (.bin .geq (lA 3 4) (N 0)) (.boo false)) true (.bin .lss (lA 3 4) (.len (lA 2 0)))), (.gd (.ite (.ite (.eqs false [false, false, false] (.agg (.cn (lA 3 1) (.cn (lA 3 2) (.cn (lA 3 3) .nl)))) (.agg (.cn (N 0) (.cn (N 0) (.cn (N 0) .nl))))) (.bin .geq (lA 3 4) (N 0)) (.boo false)) (.bin .lss (lA 3 4) (.len (lA 2 0))) (.boo false)) true (.ia 5 (lA 2 0) (lA 3 4))), (.gd (.ite (.ite (.eqs false [false, false, false] (.agg (.cn (lA 3 1) (.cn (lA 3 2) (.cn (lA 3 3) .nl)))) (.agg (.cn (N 0) (.cn (N 0) (.cn (N 0) .nl))))) (.bin .geq (lA 3 4) (N 0)) (.boo false)) (.bin .lss (lA 3 4) (.len (lA 2 0))) (.boo false)) true (.fa (.ia 5 (lA 2 0) (lA 3 4)) 2)), (.gd (.ite (.ite (.eqs false [false, false, false] (.agg (.cn (lA 3 1) (.cn (lA 3 2) (.cn (lA 3 3) .nl)))) (.agg (.cn (N 0) (.cn (N 0) (.cn (N 0) .nl))))) (.bin .geq (lA 3 4) (N 0)) (.boo false)) (.bin .lss (lA 3 4) (.len (lA 2 0))) (.boo false)) true (.ld none (.fa (.ia 5 (lA 2 0) (lA 3 4)) 2) 0)), (.gd (.ite (.ite (.eqs false [false, false, false] (.agg (.cn (lA 3 1) (.cn (lA 3 2) (.cn (lA 3 3) .nl)))) (.agg (.cn (N 0) (.cn (N 0) (.cn (N 0) .nl))))) (.bin .geq (lA 3 4) (N 0)) (.boo false)) (.bin .lss (lA 3 4) (.len (lA 2 0))) (.boo false)) true (.bin .eql (.ld none (.fa (.ia 5 (lA 2 0) (lA 3 4)) 2) 0) (N 0))), (.gd (.gd (.ite (.ite (.ite (.eqs false [false, false, false] (.agg (.cn (lA 3 1) (.cn (lA 3 2) (.cn (lA 3 3) .nl)))) (.agg (.cn (N 0) (.cn (N 0) (.cn (N 0) .nl))))) (.bin .geq (lA 3 4) (N 0)) (.boo false)) (.bin .lss (lA 3 4) (.len (lA 2 0))) (.boo false)) (.bin .eql (.ld none (.fa (.ia 5 (lA 2 0) (lA 3 4)) 2) 0) (N 0)) (.boo false)) true (.bin .neq (lA 3 0) (N 4))) false (.ia 5 (lA 2 0) (lA 3 4))), (.gd (.gd (.ite (.ite (.ite (.eqs false [false, false, false] (.agg (.cn (lA 3 1) (.cn (lA 3 2) (.cn (lA 3 3) .nl)))) (.agg (.cn (N 0) (.cn (N 0) (.cn (N 0) .nl))))) (.bin .geq (lA 3 4) (N 0)) (.boo false)) (.bin .lss (lA 3 4) (.len (lA 2 0))) (.boo false)) (.bin .eql (.ld none (.fa (.ia 5 (lA 2 0) (lA 3 4)) 2) 0) (N 0)) (.boo false)) true (.bin .neq (lA 3 0) (N 4))) false (.fa (.ia 5 (lA 2 0) (lA 3 4)) 1)), (.gd (.gd (.ite (.ite (.ite (.eqs false [false, false, false] (.agg (.cn (lA 3 1) (.cn (lA 3 2) (.cn (lA 3 3) .nl)))) (.agg (.cn (N 0) (.cn (N 0) (.cn (N 0) .nl))))) (.bin .geq (lA 3 4) (N 0)) (.boo false)) (.bin .lss (lA 3 4) (.len (lA 2 0))) (.boo false)) (.bin .eql (.ld none (.fa (.ia 5 (lA 2 0) (lA 3 4)) 2) 0) (N 0)) (.boo false)) true (.bin .neq (lA 3 0) (N 4))) false (.ld none (.fa (.ia 5 (lA 2 0) (lA 3 4)) 1) 0)), (.gd (.ite (.ite (.ite (.eqs false [false, false, false] (.agg (.cn (lA 3 1) (.cn (lA 3 2) (.cn (lA 3 3) .nl)))) (.agg (.cn (N 0) (.cn (N 0) (.cn (N 0) .nl))))) (.bin .geq (lA 3 4) (N 0)) (.boo false)) (.bin .lss (lA 3 4) (.len (lA 2 0))) (.boo false)) (.bin .eql (.ld none (.fa (.ia 5 (lA 2 0) (lA 3 4)) 2) 0) (N 0)) (.boo false)) true (.ite (.bin .neq (lA 3 0) (N 4)) (.boo true) (.ld none (.fa (.ia 5 (lA 2 0) (lA 3 4)) 1) 0)))] [(4, (.ite (.ite (.ite (.ite (.eqs false [false, false, false] (.agg (.cn (lA 3 1) (.cn (lA 3 2) (.cn (lA 3 3) .nl)))) (.agg (.cn (N 0) (.cn (N 0) (.cn (N 0) .nl))))) (.bin .geq (lA 3 4) (N 0)) (.boo false)) (.bin .lss (lA 3 4) (.len (lA 2 0))) (.boo false)) (.bin .eql (.ld none (.fa (.ia 5 (lA 2 0) (lA 3 4)) 2) 0) (N 0)) (.boo false)) (.ite (.bin .neq (lA 3 0) (N 4)) (.boo true) (.ld none (.fa (.ia 5 (lA 2 0) (lA 3 4)) 1) 0)) (.boo false)))]])
(.ret (.v 4) []))
.skip))))))
(.seq
(.st [.asg [] [(4, (.boo false))]])
(.ret (.v 4) []))))⟩
def v_event_paid : VFun := ⟨⟨[.F, .F], .F, true⟩, [],
(.seq
(.st [.asg [(.chk (some 4) (.v 0))] [(2, (.lp (.cn (fA 0 0) (.cn (fA 0 1) (.cn (fA 0 2) (.cn (fA 0 3) .nl))))))]])
(.seq
(.seq
(.st [.asg [] [(5, (.v 1))]])
(.block 0
(.seq
(.st [.asg [(.bin .eql (.v 5) (N 2))] []])
(.cond (.bin .eql (.v 5) (N 2))
(.seq
(.st [.asg [] [(4, (.bin .gtr (lA 2 0) (N 0)))]])
(.ret (.v 4) []))
(.seq
(.st [.asg [(.bin .eql (.v 5) (N 3))] []])
(.cond (.bin .eql (.v 5) (N 3))
(.seq
(.st [.asg [] [(4, (.bin .gtr (lA 2 1) (N 0)))]])
(.ret (.v 4) []))
(.seq
(.st [.asg [(.bin .eql (.v 5) (N 4))] []])
(.cond (.bin .eql (.v 5) (N 4))
(.seq
(.st [.asg [] [(4, (.bin .gtr (lA 2 2) (N 0)))]])
(.ret (.v 4) []))
(.seq
(.st [.asg [(.bin .eql (.v 5) (N 5))] []])
(.cond (.bin .eql (.v 5) (N 5))
(.seq
(.st [.asg [] [(4, (.bin .gtr (lA 2 3) (N 0)))]])
(.ret (.v 4) []))
.skip))))))))))
(.seq
(.st [.asg [] [(4, (.boo true))]])
(.ret (.v 4) []))))⟩
def v_prog_Check : VFun := ⟨⟨[.F], .F, true⟩, [],
(.seq
(.st [.asg [(.chk (some 4) (.v 0))] [(1, (.lp (.cn (fA 0 0) (.cn (fA 0 1) (.cn (fA 0 2) (.cn (fA 0 3) .nl))))))]])
(.seq
(.block 0
(.seq
(.seq
(.st [.asg [] [(5, (.bin .gtr (.len (lA 1 0)) (N 16)))]])
(.cond (.v 5)
.skip
(.seq
(.st [.asg [] [(5, (.bin .gtr (.len (lA 1 1)) (N 8)))]])
(.cond (.v 5)
.skip
(.st [.asg [] [(5, (.bin .gtr (.len (lA 1 2)) (N 16)))]])))))
(.cond (.v 5)
(.seq
(.st [.asg [] [(2, (N 3))]])
(.ret (.v 2) []))
(.seq
(.seq
(.st [.asg [] [(18, (.bin .eql (.len (lA 1 1)) (N 0)))]])
(.cond (.v 18)
.skip
(.seq
(.st [.asg [] [(18, (.bin .lss (lA 1 3) (N 1)))]])
(.cond (.v 18)
.skip
(.st [.asg [] [(18, (.bin .gtr (lA 1 3) (N 256)))]])))))
(.cond (.v 18)
(.seq
(.st [.asg [] [(2, (N 1))]])
(.ret (.v 2) []))
.skip)))))
(.seq
(.seq
(.st [.call [] none 32 150 [(.agg (.cn (lA 1 0) (.cn (lA 1 1) (.cn (lA 1 2) (.cn (lA 1 3) .nl))))), (lA 1 0), (.fn 151 .nl)] [], .asg [] [(3, (.v 32))], .asg [(.bin .neq (.v 3) (N 0))] []])
(.cond (.bin .neq (.v 3) (N 0))
(.seq
(.st [.asg [] [(2, (.v 3))]])
(.ret (.v 2) []))
.skip))
(.seq
(.seq
(.st [.call [] none 39 152 [(.agg (.cn (lA 1 0) (.cn (lA 1 1) (.cn (lA 1 2) (.cn (lA 1 3) .nl))))), (lA 1 1), (.fn 153 .nl)] [], .asg [] [(4, (.v 39))], .asg [(.bin .neq (.v 4) (N 0))] []])
(.cond (.bin .neq (.v 4) (N 0))
(.seq
(.st [.asg [] [(2, (.v 4))]])
(.ret (.v 2) []))
.skip))
(.seq
(.st [.call [] none 46 154 [(.agg (.cn (lA 1 0) (.cn (lA 1 1) (.cn (lA 1 2) (.cn (lA 1 3) .nl))))), (lA 1 2), (.fn 155 .nl)] [], .asg [] [(2, (.v 46))]])
(.ret (.v 2) []))))))⟩
def v_flow_walk_L1 : VC :=
(.seq
(.st [.asg [(.bin .lss (.v 74) (.v 73))] []])
(.seq
(.cond (.bin .lss (.v 74) (.v 73))
.skip
(.exit 2))
(.seq
(.block 3
(.seq
(.st [.asg [] [(12, (.ld none (.ia 1 (.v 72) (.v 74)) 0))]])
(.seq
(.seq
(.st [.asg [(.bin .eql (.ld none (.ia 1 (.v 4) (.v 12)) 0) (N (-1)))] []])
(.cond (.bin .eql (.ld none (.ia 1 (.v 4) (.v 12)) 0) (N (-1)))
(.st [.asg [(.ia 1 (.v 4) (.v 12))] [(4, (.upd none (.v 4) (.v 12) 0 (.v 10)))], .asg [(.chk none (.v 12))] [(7, (.app 1 (.v 7) (.lst (.cn (.v 12) .nl))))]])
.skip))
(.seq
(.st [.asg [(.bin .neq (.ld none (.ia 1 (.v 4) (.v 12)) 0) (.v 10))] []])
(.cond (.bin .neq (.ld none (.ia 1 (.v 4) (.v 12)) 0) (.v 10))
(.seq
(.st [.asg [] [(6, (.boo false)), (5, (N 0)), (4, (.lst .nl))]])
(.ret (.tup (.cn (.v 4) (.cn (.v 5) (.cn (.v 6) .nl)))) []))
.skip)))))
(.st [.asg [] [(74, (.bin .add (.v 74) (N 1)))]]))))
def v_flow_walk_L2 : VC :=
(.seq
(.seq
(.st [.asg [(.bin .gtr (.len (.v 7)) (N 0))] []])
(.cond (.bin .gtr (.len (.v 7)) (N 0))
.skip
(.exit 0)))
(.block 1
(.seq
(.st [.asg [] [(8, (.ld none (.ia 1 (.v 7) (N 0)) 0))], .asg [] [(7, (.slice 1 (.v 7) (N 1) .nl .nl))]])
(.seq
(.seq
(.st [.asg [(.bin .eql (.v 8) (.len (lA 3 1)))] []])
(.cond (.bin .eql (.v 8) (.len (lA 3 1)))
(.exit 1)
.skip))
(.seq
(.st [.asg [] [(9, (.lp (.cn (.fld none (.ld (some 2) (.ia 2 (lA 3 1) (.v 8)) 0) 0) (.cn (.fld none (.ld (some 2) (.ia 2 (lA 3 1) (.v 8)) 0) 1) .nl))))], .call [(.ld none (.ia 1 (.v 4) (.v 8)) 0)] none 46 157 [(.agg (.cn (lA 2 0) (.cn (lA 2 1) (.cn (lA 2 2) (.cn (lA 2 3) .nl))))), (.agg (.cn (lA 9 0) (.cn (lA 9 1) .nl)))] [], .asg [] [(10, (.bin .sub (.ld none (.ia 1 (.v 4) (.v 8)) 0) (.v 46)))]])
(.seq
(.seq
(.st [.call [(.bin .lss (.v 10) (N 0))] (some ((.bin .lss (.v 10) (N 0)), false)) 54 158 [(lA 9 0)] [], .asg [(.gd (.bin .lss (.v 10) (N 0)) false (.bin .add (.v 10) (.v 54))), (.gd (.bin .lss (.v 10) (N 0)) false (.bin .gtr (.bin .add (.v 10) (.v 54)) (N 8))), (.ite (.bin .lss (.v 10) (N 0)) (.boo true) (.bin .gtr (.bin .add (.v 10) (.v 54)) (N 8)))] []])
(.cond (.ite (.bin .lss (.v 10) (N 0)) (.boo true) (.bin .gtr (.bin .add (.v 10) (.v 54)) (N 8)))
(.seq
(.st [.asg [] [(6, (.boo false)), (5, (N 0)), (4, (.lst .nl))]])
(.ret (.tup (.cn (.v 4) (.cn (.v 5) (.cn (.v 6) .nl)))) []))
.skip))
(.seq
(.st [.call [] none 61 158 [(lA 9 0)] [], .asg [] [(10, (.bin .add (.v 10) (.v 61)))], .asg [] [(5, (.mm true (.cn (.v 5) (.cn (.ld none (.ia 1 (.v 4) (.v 8)) 0) (.cn (.v 10) .nl)))))], .call [] none 72 159 [(.v 8), (.agg (.cn (lA 9 0) (.cn (lA 9 1) .nl)))] [], .asg [] [(74, (N 0)), (73, (.len (.v 72)))]])
(.block 2
(.loop v_flow_walk_L1)))))))))
def v_flow_walk : VFun := ⟨⟨[.F, .F], (.T [.F, .F, .F]), false⟩, [],
(.seq
(.st [.asg [(.chk (some 4) (.v 0)), (.chk (some 2) (.v 1))] [(5, (N 0)), (3, (.lp (.cn (fA 1 0) (.cn (fA 1 1) .nl)))), (2, (.lp (.cn (fA 0 0) (.cn (fA 0 1) (.cn (fA 0 2) (.cn (fA 0 3) .nl))))))], .call [(.bin .add (.len (lA 3 1)) (N 1))] none 18 156 [(.lst (.cn (N (-1)) .nl)), (.bin .add (.len (lA 3 1)) (N 1))] [], .asg [] [(4, (.v 18))], .asg [(.ia 1 (.v 4) (N 0))] [(4, (.upd none (.v 4) (N 0) 0 (N 0)))]])
(.seq
(.seq
(.st [.asg [] [(7, (.lst (.cn (N 0) .nl)))]])
(.block 0
(.loop v_flow_walk_L2)))
(.seq
(.st [.asg [] [(6, (.boo true))]])
(.ret (.tup (.cn (.v 4) (.cn (.v 5) (.cn (.v 6) .nl)))) []))))⟩
def v_world_Post : VFun := ⟨⟨[.F, (.B false [(.O 5 true), (.O 6 false), .F, .F, .F, .F]), .F], (.T []), true⟩, [],
(.seq
(.seq
(.st [.asg [(.chk (some 4) (.v 0)), (.chk (some 6) (.v 2))] [(5, (.lp (.cn (fA 2 0) (.cn (fA 2 1) (.cn (fA 2 2) (.cn (fA 2 3) (.cn (fA 2 4) (.cn (fA 2 5) .nl)))))))), (3, (.lp (.cn (fA 0 0) (.cn (fA 0 1) (.cn (fA 0 2) (.cn (fA 0 3) .nl)))))), (4000, (.lp (.cn (lA 1 0) (.cn (lA 1 1) (.cn (lA 1 2) (.cn (lA 1 3) (.cn (lA 1 4) (.cn (lA 1 5) .nl))))))))], .asg [] [(6, (lA 5 3))]])
(.seq
(.seq
(.st [.call [] none 17 41 [(lA 4000 1), (.v 6)] [], .asg [(.bin .lss (.v 17) (.ld none (.fa (.ia 4 (lA 3 1) (.v 6)) 1) 0))] []])
(.cond (.bin .lss (.v 17) (.ld none (.fa (.ia 4 (lA 3 1) (.v 6)) 1) 0))
(.seq
(.st [.call [] none 31 32 [(lA 4000 1), (.agg (.cn (lA 5 0) (.cn (lA 5 1) (.cn (lA 5 2) (.cn (lA 5 3) (.cn (lA 5 4) (.cn (lA 5 5) .nl)))))))] [], .asg [] [(8, (.ext (.v 31) 1)), (7, (.ext (.v 31) 0))], .asg [(.bin .eql (.v 8) (N 0))] []])
(.cond (.bin .eql (.v 8) (N 0))
(.seq
(.st [.asg [] [(4000, (.lp (.cn (lA 4000 0) (.cn (.v 7) (.cn (lA 4000 2) (.cn (lA 4000 3) (.cn (lA 4000 4) (.cn (lA 4000 5) .nl))))))))]])
(.ret (.tup .nl) [(.lp (.cn (lA 4000 0) (.cn (lA 4000 1) (.cn (lA 4000 2) (.cn (lA 4000 3) (.cn (lA 4000 4) (.cn (lA 4000 5) .nl)))))))]))
.skip))
.skip))
(.st [.asg [] [(4000, (.lp (.cn (.upd none (lA 4000 0) (.v 6) 4 (.bin .add (.ld none (.ia 5 (lA 4000 0) (.v 6)) 4) (N 1))) (.cn (lA 4000 1) (.cn (lA 4000 2) (.cn (lA 4000 3) (.cn (lA 4000 4) (.cn (lA 4000 5) .nl))))))))]])))
(.ret (.tup .nl) [(.lp (.cn (lA 4000 0) (.cn (lA 4000 1) (.cn (lA 4000 2) (.cn (lA 4000 3) (.cn (lA 4000 4) (.cn (lA 4000 5) .nl)))))))]))⟩
def v_event_less : VFun := ⟨⟨[.F, .F], .F, true⟩, [],
(.seq
(.st [.asg [] [(4, (.mm true (.cn (.bin .sub (.v 0) (.v 1)) (.cn (N 0) .nl))))]])
(.ret (.v 4) []))⟩
def v_world_Fits_L1 : VC :=
(.seq
(.st [.asg [(.bin .lss (.v 39) (.v 38))] []])
(.seq
(.cond (.bin .lss (.v 39) (.v 38))
.skip
(.exit 0))
(.seq
(.block 1
(.seq
(.st [.asg [] [(5, (.v 39)), (6, (.lp (.cn (.fld none (.ld (some 5) (.ia 5 (.v 37) (.v 39)) 0) 0) (.cn (.fld none (.ld (some 5) (.ia 5 (.v 37) (.v 39)) 0) 1) (.cn (.fld none (.ld (some 5) (.ia 5 (.v 37) (.v 39)) 0) 2) (.cn (.fld none (.ld (some 5) (.ia 5 (.v 37) (.v 39)) 0) 3) (.cn (.fld none (.ld (some 5) (.ia 5 (.v 37) (.v 39)) 0) 4) .nl)))))))], .call [(.ld (some 4) (.ia 4 (lA 2 1) (.v 5)) 0)] none 50 161 [(.ld (some 4) (.ia 4 (lA 2 1) (.v 5)) 0), (.agg (.cn (lA 6 0) (.cn (lA 6 1) (.cn (lA 6 2) (.cn (lA 6 3) (.cn (lA 6 4) .nl))))))] [], .asg [(.un .not (.v 50))] []])
(.cond (.un .not (.v 50))
(.seq
(.st [.asg [] [(4, (.boo false))]])
(.ret (.v 4) []))
.skip)))
(.st [.asg [] [(39, (.bin .add (.v 39) (N 1)))]]))))
def v_world_Fits : VFun := ⟨⟨[.F, .F], .F, true⟩, [],
(.seq
(.st [.asg [(.chk (some 4) (.v 0)), (.chk (some 6) (.v 1))] [(3, (.lp (.cn (fA 1 0) (.cn (fA 1 1) (.cn (fA 1 2) (.cn (fA 1 3) (.cn (fA 1 4) (.cn (fA 1 5) .nl)))))))), (2, (.lp (.cn (fA 0 0) (.cn (fA 0 1) (.cn (fA 0 2) (.cn (fA 0 3) .nl))))))]])
(.seq
(.seq
(.st [.call [(.bin .neq (.len (lA 3 0)) (.len (lA 2 1)))] (some ((.bin .neq (.len (lA 3 0)) (.len (lA 2 1))), false)) 17 37 [(lA 3 1)] [], .asg [(.gd (.bin .neq (.len (lA 3 0)) (.len (lA 2 1))) false (.un .not (.v 17))), (.gd (.ite (.bin .neq (.len (lA 3 0)) (.len (lA 2 1))) (.boo true) (.un .not (.v 17))) false (.mm false (.cn (lA 3 2) (.cn (lA 3 3) (.cn (lA 3 4) (.cn (lA 3 5) .nl)))))), (.gd (.ite (.bin .neq (.len (lA 3 0)) (.len (lA 2 1))) (.boo true) (.un .not (.v 17))) false (.bin .lss (.mm false (.cn (lA 3 2) (.cn (lA 3 3) (.cn (lA 3 4) (.cn (lA 3 5) .nl))))) (N 0))), (.ite (.ite (.bin .neq (.len (lA 3 0)) (.len (lA 2 1))) (.boo true) (.un .not (.v 17))) (.boo true) (.bin .lss (.mm false (.cn (lA 3 2) (.cn (lA 3 3) (.cn (lA 3 4) (.cn (lA 3 5) .nl))))) (N 0)))] []])
(.cond (.ite (.ite (.bin .neq (.len (lA 3 0)) (.len (lA 2 1))) (.boo true) (.un .not (.v 17))) (.boo true) (.bin .lss (.mm false (.cn (lA 3 2) (.cn (lA 3 3) (.cn (lA 3 4) (.cn (lA 3 5) .nl))))) (N 0)))
(.seq
(.st [.asg [] [(4, (.boo false))]])
(.ret (.v 4) []))
.skip))
(.seq
(.seq
(.st [.asg [] [(39, (N 0)), (38, (.len (lA 3 0))), (37, (lA 3 0))]])
(.block 0
(.loop v_world_Fits_L1)))
(.seq
(.st [.call [] none 56 162 [(lA 3 1), (.fn 163 (.cn (.lp (.cn (lA 2 0) (.cn (lA 2 1) (.cn (lA 2 2) (.cn (lA 2 3) .nl))))) (.cn (.lp (.cn (lA 3 0) (.cn (lA 3 1) (.cn (lA 3 2) (.cn (lA 3 3) (.cn (lA 3 4) (.cn (lA 3 5) .nl))))))) .nl)))] [], .asg [] [(4, (.un .not (.v 56)))]])
(.ret (.v 4) [])))))⟩
def v_prog_each_api_Handler_L1 : VC :=
(.seq
(.st [.asg [(.bin .lss (.v 12) (.v 11))] []])
(.seq
(.cond (.bin .lss (.v 12) (.v 11))
.skip
(.exit 0))
(.seq
(.block 1
(.seq
(.st [.asg [] [(8, (.lp (.cn (.fld none (.ld (some 2) (.ia 2 (.v 10) (.v 12)) 0) 0) (.cn (.fld none (.ld (some 2) (.ia 2 (.v 10) (.v 12)) 0) 1) .nl))))], .callv [] none 19 (.v 2) [(.agg (.cn (lA 3 0) (.cn (lA 3 1) (.cn (lA 3 2) (.cn (lA 3 3) .nl))))), (.agg (.cn (lA 8 0) (.cn (lA 8 1) .nl)))], .asg [] [(9, (.v 19))], .asg [(.bin .neq (.v 9) (N 0))] []])
(.cond (.bin .neq (.v 9) (N 0))
(.seq
(.st [.asg [] [(6, (.v 9))]])
(.ret (.v 6) []))
.skip)))
(.st [.asg [] [(12, (.bin .add (.v 12) (N 1)))]]))))
def v_prog_each_api_Handler : VFun := ⟨⟨[.F, .F, .Q], .F, true⟩, [],
(.seq
(.st [.asg [(.chk (some 4) (.v 0))] [(3, (.lp (.cn (fA 0 0) (.cn (fA 0 1) (.cn (fA 0 2) (.cn (fA 0 3) .nl))))))]])
(.seq
(.seq
(.st [.asg [] [(12, (N 0)), (11, (.len (.v 1))), (10, (.v 1))]])
(.block 0
(.loop v_prog_each_api_Handler_L1)))
(.seq
(.st [.asg [] [(6, (N 0))]])
(.ret (.v 6) []))))⟩
def v_prog_handler_L1 : VC :=
(.seq
(.st [.asg [(.bin .lss (.v 23) (.v 22))] []])
(.seq
(.cond (.bin .lss (.v 23) (.v 22))
.skip
(.exit 1))
(.seq
(.block 2
(.seq
(.st [.asg [] [(6, (.lp (.cn (.fld none (.ld (some 2) (.ia 2 (.v 21) (.v 23)) 0) 0) (.cn (.fld none (.ld (some 2) (.ia 2 (.v 21) (.v 23)) 0) 1) .nl))))], .call [] none 30 176 [(.agg (.cn (lA 2 0) (.cn (lA 2 1) (.cn (lA 2 2) (.cn (lA 2 3) .nl))))), (.agg (.cn (lA 3 0) (.cn (lA 3 1) .nl))), (.agg (.cn (lA 6 0) (.cn (lA 6 1) .nl)))] [], .asg [] [(7, (.v 30))], .asg [(.bin .neq (.v 7) (N 0))] []])
(.cond (.bin .neq (.v 7) (N 0))
(.seq
(.st [.asg [] [(4, (.v 7))]])
(.ret (.v 4) []))
.skip)))
(.st [.asg [] [(23, (.bin .add (.v 23) (N 1)))]]))))
def v_prog_handler : VFun := ⟨⟨[.F, .F], .F, true⟩, [],
(.seq
(.st [.asg [(.chk (some 4) (.v 0)), (.chk (some 2) (.v 1))] [(3, (.lp (.cn (fA 1 0) (.cn (fA 1 1) .nl)))), (2, (.lp (.cn (fA 0 0) (.cn (fA 0 1) (.cn (fA 0 2) (.cn (fA 0 3) .nl))))))]])
(.seq
(.block 0
(.seq
(.seq
(.st [.asg [] [(8, (.bin .lss (lA 3 0) (N 0)))]])
(.cond (.v 8)
.skip
(.st [.asg [] [(8, (.bin .gtr (lA 3 0) (N 4)))]])))
(.cond (.v 8)
(.seq
(.st [.asg [] [(4, (N 1))]])
(.ret (.v 4) []))
(.seq
(.st [.asg [(.bin .gtr (.len (lA 3 1)) (N 64))] []])
(.cond (.bin .gtr (.len (lA 3 1)) (N 64))
(.seq
(.st [.asg [] [(4, (N 3))]])
(.ret (.v 4) []))
.skip)))))
(.seq
(.seq
(.st [.asg [] [(23, (N 0)), (22, (.len (lA 3 1))), (21, (lA 3 1))]])
(.block 1
(.loop v_prog_handler_L1)))
(.seq
(.st [.asg [] [(4, (N 0))]])
(.ret (.v 4) [])))))⟩
def v_prog_each_api_Actor_L1 : VC :=
(.seq
(.st [.asg [(.bin .lss (.v 12) (.v 11))] []])
(.seq
(.cond (.bin .lss (.v 12) (.v 11))
.skip
(.exit 0))
(.seq
(.block 1
(.seq
(.st [.asg [] [(8, (.lp (.cn (.fld none (.ld (some 4) (.ia 4 (.v 10) (.v 12)) 0) 0) (.cn (.fld none (.ld (some 4) (.ia 4 (.v 10) (.v 12)) 0) 1) (.cn (.fld none (.ld (some 4) (.ia 4 (.v 10) (.v 12)) 0) 2) (.cn (.fld none (.ld (some 4) (.ia 4 (.v 10) (.v 12)) 0) 3) .nl))))))], .callv [] none 19 (.v 2) [(.agg (.cn (lA 3 0) (.cn (lA 3 1) (.cn (lA 3 2) (.cn (lA 3 3) .nl))))), (.agg (.cn (lA 8 0) (.cn (lA 8 1) (.cn (lA 8 2) (.cn (lA 8 3) .nl)))))], .asg [] [(9, (.v 19))], .asg [(.bin .neq (.v 9) (N 0))] []])
(.cond (.bin .neq (.v 9) (N 0))
(.seq
(.st [.asg [] [(6, (.v 9))]])
(.ret (.v 6) []))
.skip)))
(.st [.asg [] [(12, (.bin .add (.v 12) (N 1)))]]))))
def v_prog_each_api_Actor : VFun := ⟨⟨[.F, .F, .Q], .F, true⟩, [],
(.seq
(.st [.asg [(.chk (some 4) (.v 0))] [(3, (.lp (.cn (fA 0 0) (.cn (fA 0 1) (.cn (fA 0 2) (.cn (fA 0 3) .nl))))))]])
(.seq
(.seq
(.st [.asg [] [(12, (N 0)), (11, (.len (.v 1))), (10, (.v 1))]])
(.block 0
(.loop v_prog_each_api_Actor_L1)))
(.seq
(.st [.asg [] [(6, (N 0))]])
(.ret (.v 6) []))))⟩
def v_prog_actor : VFun := ⟨⟨[.F, .F], .F, true⟩, [],
(.seq
(.st [.asg [(.chk (some 4) (.v 0)), (.chk (some 4) (.v 1))] [(3, (.lp (.cn (fA 1 0) (.cn (fA 1 1) (.cn (fA 1 2) (.cn (fA 1 3) .nl)))))), (2, (.lp (.cn (fA 0 0) (.cn (fA 0 1) (.cn (fA 0 2) (.cn (fA 0 3) .nl))))))]])
(.seq
(.block 0
(.seq
(.st [.asg [(.bin .gtr (.len (lA 3 0)) (N 8))] []])
(.cond (.bin .gtr (.len (lA 3 0)) (N 8))
(.seq
(.st [.asg [] [(4, (N 3))]])
(.ret (.v 4) []))
(.seq
(.seq
(.st [.asg [] [(10, (.bin .lss (lA 3 1) (N 0)))]])
(.cond (.v 10)
.skip
(.st [.asg [] [(10, (.bin .gtr (lA 3 1) (N 16)))]])))
(.cond (.v 10)
(.seq
(.st [.asg [] [(4, (N 1))]])
(.ret (.v 4) []))
(.seq
(.st [.asg [(.gd (.gd (.bin .neq (lA 3 2) (N (-1))) true (.bin .lss (lA 3 2) (N 0))) false (.len (lA 2 0))), (.gd (.gd (.bin .neq (lA 3 2) (N (-1))) true (.bin .lss (lA 3 2) (N 0))) false (.bin .geq (lA 3 2) (.len (lA 2 0)))), (.gd (.gd (.bin .neq (lA 3 2) (N (-1))) true (.ite (.bin .lss (lA 3 2) (N 0)) (.boo true) (.bin .geq (lA 3 2) (.len (lA 2 0))))) false (.ia 2 (lA 2 0) (lA 3 2))), (.gd (.gd (.bin .neq (lA 3 2) (N (-1))) true (.ite (.bin .lss (lA 3 2) (N 0)) (.boo true) (.bin .geq (lA 3 2) (.len (lA 2 0))))) false (.fa (.ia 2 (lA 2 0) (lA 3 2)) 0)), (.gd (.gd (.bin .neq (lA 3 2) (N (-1))) true (.ite (.bin .lss (lA 3 2) (N 0)) (.boo true) (.bin .geq (lA 3 2) (.len (lA 2 0))))) false (.ld none (.fa (.ia 2 (lA 2 0) (lA 3 2)) 0) 0)), (.gd (.gd (.bin .neq (lA 3 2) (N (-1))) true (.ite (.bin .lss (lA 3 2) (N 0)) (.boo true) (.bin .geq (lA 3 2) (.len (lA 2 0))))) false (.bin .neq (.ld none (.fa (.ia 2 (lA 2 0) (lA 3 2)) 0) 0) (N 0))), (.gd (.bin .neq (lA 3 2) (N (-1))) true (.ite (.ite (.bin .lss (lA 3 2) (N 0)) (.boo true) (.bin .geq (lA 3 2) (.len (lA 2 0)))) (.boo true) (.bin .neq (.ld none (.fa (.ia 2 (lA 2 0) (lA 3 2)) 0) 0) (N 0)))), (.ite (.bin .neq (lA 3 2) (N (-1))) (.ite (.ite (.bin .lss (lA 3 2) (N 0)) (.boo true) (.bin .geq (lA 3 2) (.len (lA 2 0)))) (.boo true) (.bin .neq (.ld none (.fa (.ia 2 (lA 2 0) (lA 3 2)) 0) 0) (N 0))) (.boo false))] []])
(.cond (.ite (.bin .neq (lA 3 2) (N (-1))) (.ite (.ite (.bin .lss (lA 3 2) (N 0)) (.boo true) (.bin .geq (lA 3 2) (.len (lA 2 0)))) (.boo true) (.bin .neq (.ld none (.fa (.ia 2 (lA 2 0) (lA 3 2)) 0) 0) (N 0))) (.boo false))
(.seq
(.st [.asg [] [(4, (N 7))]])
(.ret (.v 4) []))
(.seq
(.st [.asg [(.gd (lA 3 3) true .nl), (.gd (lA 3 3) true (.bin .eql (lA 3 2) (N (-1)))), (.ite (lA 3 3) (.bin .eql (lA 3 2) (N (-1))) (.boo false))] []])
(.cond (.ite (lA 3 3) (.bin .eql (lA 3 2) (N (-1))) (.boo false))
(.seq
(.st [.asg [] [(4, (N 1))]])
(.ret (.v 4) []))
.skip)))))))))
(.seq
(.st [.asg [] [(4, (N 0))]])
(.ret (.v 4) []))))⟩
def v_prog_each_api_Note_L1 : VC :=
(.seq
(.st [.asg [(.bin .lss (.v 12) (.v 11))] []])
(.seq
(.cond (.bin .lss (.v 12) (.v 11))
.skip
(.exit 0))
(.seq
(.block 1
(.seq
(.st [.asg [] [(8, (.lp (.cn (.fld none (.ld (some 3) (.ia 3 (.v 10) (.v 12)) 0) 0) (.cn (.fld none (.ld (some 3) (.ia 3 (.v 10) (.v 12)) 0) 1) (.cn (.fld none (.ld (some 3) (.ia 3 (.v 10) (.v 12)) 0) 2) .nl)))))], .callv [] none 19 (.v 2) [(.agg (.cn (lA 3 0) (.cn (lA 3 1) (.cn (lA 3 2) (.cn (lA 3 3) .nl))))), (.agg (.cn (lA 8 0) (.cn (lA 8 1) (.cn (lA 8 2) .nl))))], .asg [] [(9, (.v 19))], .asg [(.bin .neq (.v 9) (N 0))] []])
(.cond (.bin .neq (.v 9) (N 0))
(.seq
(.st [.asg [] [(6, (.v 9))]])
(.ret (.v 6) []))
.skip)))
(.st [.asg [] [(12, (.bin .add (.v 12) (N 1)))]]))))
def v_prog_each_api_Note : VFun := ⟨⟨[.F, .F, .Q], .F, true⟩, [],
(.seq
(.st [.asg [(.chk (some 4) (.v 0))] [(3, (.lp (.cn (fA 0 0) (.cn (fA 0 1) (.cn (fA 0 2) (.cn (fA 0 3) .nl))))))]])
(.seq
(.seq
(.st [.asg [] [(12, (N 0)), (11, (.len (.v 1))), (10, (.v 1))]])
(.block 0
(.loop v_prog_each_api_Note_L1)))
(.seq
(.st [.asg [] [(6, (N 0))]])
(.ret (.v 6) []))))⟩
def v_prog_Note : VFun := ⟨⟨[.F, .F], .F, true⟩, [],
(.seq
(.st [.asg [(.chk (some 4) (.v 0)), (.chk (some 3) (.v 1))] [(3, (.lp (.cn (fA 1 0) (.cn (fA 1 1) (.cn (fA 1 2) .nl))))), (2, (.lp (.cn (fA 0 0) (.cn (fA 0 1) (.cn (fA 0 2) (.cn (fA 0 3) .nl))))))]])
(.seq
(.block 0
(.seq
(.seq
(.st [.asg [] [(5, (.bin .lss (lA 3 0) (N 0)))]])
(.cond (.v 5)
.skip
(.seq
(.st [.asg [] [(5, (.bin .geq (lA 3 0) (.len (lA 2 1))))]])
(.cond (.v 5)
.skip
(.seq
(.st [.asg [] [(5, (.bin .lss (lA 3 1) (N 0)))]])
(.cond (.v 5)
.skip
(.st [.asg [] [(5, (.bin .geq (lA 3 1) (.len (lA 2 0))))]])))))))
(.cond (.v 5)
(.seq
(.st [.asg [] [(4, (N 7))]])
(.ret (.v 4) []))
(.seq
(.st [.asg [(.bin .neq (.len (lA 3 2)) (.ld none (.fa (.ia 2 (lA 2 0) (lA 3 1)) 0) 0))] []])
(.cond (.bin .neq (.len (lA 3 2)) (.ld none (.fa (.ia 2 (lA 2 0) (lA 3 1)) 0) 0))
(.seq
(.st [.asg [] [(4, (N 1))]])
(.ret (.v 4) []))
.skip)))))
(.seq
(.st [.asg [] [(4, (N 0))]])
(.ret (.v 4) []))))⟩
def v_flow_takes : VFun := ⟨⟨[.F, .F], .F, true⟩, [],
(.seq
(.st [.asg [(.chk (some 4) (.v 0)), (.chk (some 2) (.v 1))] [(3, (.lp (.cn (fA 1 0) (.cn (fA 1 1) .nl)))), (2, (.lp (.cn (fA 0 0) (.cn (fA 0 1) (.cn (fA 0 2) (.cn (fA 0 3) .nl))))))], .call [] none 8 178 [(lA 3 0)] [], .asg [] [(5, (.v 8))]])
(.seq
(.seq
(.st [.asg [(.bin .eql (lA 3 0) (N 22))] []])
(.cond (.bin .eql (lA 3 0) (N 22))
(.st [.asg [] [(5, (.bin .add (.v 5) (.ld none (.fa (.ia 2 (lA 2 0) (lA 3 1)) 0) 0)))]])
.skip))
(.seq
(.st [.asg [] [(4, (.v 5))]])
(.ret (.v 4) []))))⟩
def v_ops_Puts : VFun := ⟨⟨[.F], .F, true⟩, [],
(.seq
(.st [])
(.seq
(.block 0
(.seq
(.seq
(.st [.asg [] [(3, (.bin .eql (.v 0) (N 3)))]])
(.cond (.v 3)
.skip
(.st [.asg [] [(3, (.bin .eql (.v 0) (N 4)))]])))
(.cond (.v 3)
(.seq
(.st [.asg [] [(2, (N 2))]])
(.ret (.v 2) []))
(.seq
(.seq
(.st [.asg [] [(8, (.bin .eql (.v 0) (N 1)))]])
(.cond (.v 8)
.skip
(.seq
(.st [.asg [] [(8, (.bin .eql (.v 0) (N 5)))]])
(.cond (.v 8)
.skip
(.seq
(.st [.asg [] [(8, (.bin .eql (.v 0) (N 7)))]])
(.cond (.v 8)
.skip
(.seq
(.st [.asg [] [(8, (.bin .eql (.v 0) (N 8)))]])
(.cond (.v 8)
.skip
(.st [.asg [(.gd (.bin .geq (.v 0) (N 9)) true (.bin .leq (.v 0) (N 19)))] [(8, (.ite (.bin .geq (.v 0) (N 9)) (.bin .leq (.v 0) (N 19)) (.boo false)))]])))))))))
(.cond (.v 8)
(.seq
(.st [.asg [] [(2, (N 1))]])
(.ret (.v 2) []))
.skip)))))
(.seq
(.st [.asg [] [(2, (N 0))]])
(.ret (.v 2) []))))⟩
def v_flow_next : VFun := ⟨⟨[.F, .F], .F, false⟩, [],
(.seq
(.st [.asg [(.chk (some 2) (.v 1))] [(3, (.lp (.cn (fA 1 0) (.cn (fA 1 1) .nl))))]])
(.seq
(.seq
(.st [.asg [] [(6, (lA 3 0))]])
(.block 0
(.seq
(.st [.asg [(.bin .eql (.v 6) (N 20))] []])
(.cond (.bin .eql (.v 6) (N 20))
(.seq
(.st [.asg [] [(4, (.lst (.cn (lA 3 1) .nl)))]])
(.ret (.v 4) []))
(.seq
(.st [.asg [(.bin .eql (.v 6) (N 21))] []])
(.cond (.bin .eql (.v 6) (N 21))
(.seq
(.st [.asg [] [(4, (.lst (.cn (lA 3 1) (.cn (.bin .add (.v 0) (N 1)) .nl))))]])
(.ret (.v 4) []))
(.seq
(.st [.asg [(.bin .eql (.v 6) (N 25))] []])
(.cond (.bin .eql (.v 6) (N 25))
(.seq
(.st [.asg [] [(4, (.lst .nl))]])
(.ret (.v 4) []))
.skip))))))))
(.seq
(.st [.asg [] [(4, (.lst (.cn (.bin .add (.v 0) (N 1)) .nl)))]])
(.ret (.v 4) []))))⟩
def v_world_local : VFun := ⟨⟨[.F, .F], .F, true⟩, [],
(.seq
(.st [.asg [(.chk (some 4) (.v 0)), (.chk (some 5) (.v 1))] [(3, (.lp (.cn (fA 1 0) (.cn (fA 1 1) (.cn (fA 1 2) (.cn (fA 1 3) (.cn (fA 1 4) .nl))))))), (2, (.lp (.cn (fA 0 0) (.cn (fA 0 1) (.cn (fA 0 2) (.cn (fA 0 3) .nl))))))], .asg [(.gd (.bin .eql (.len (lA 3 0)) (.len (lA 2 0))) true (.bin .geq (lA 3 2) (N 0))), (.gd (.ite (.bin .eql (.len (lA 3 0)) (.len (lA 2 0))) (.bin .geq (lA 3 2) (N 0)) (.boo false)) true (.bin .leq (lA 3 2) (N 4))), (.gd (.ite (.ite (.bin .eql (.len (lA 3 0)) (.len (lA 2 0))) (.bin .geq (lA 3 2) (N 0)) (.boo false)) (.bin .leq (lA 3 2) (N 4)) (.boo false)) true (.mm false (.cn (lA 3 3) (.cn (lA 3 4) .nl)))), (.gd (.ite (.ite (.bin .eql (.len (lA 3 0)) (.len (lA 2 0))) (.bin .geq (lA 3 2) (N 0)) (.boo false)) (.bin .leq (lA 3 2) (N 4)) (.boo false)) true (.bin .geq (.mm false (.cn (lA 3 3) (.cn (lA 3 4) .nl))) (N 0))), (.gd (.ite (.ite (.ite (.bin .eql (.len (lA 3 0)) (.len (lA 2 0))) (.bin .geq (lA 3 2) (N 0)) (.boo false)) (.bin .leq (lA 3 2) (N 4)) (.boo false)) (.bin .geq (.mm false (.cn (lA 3 3) (.cn (lA 3 4) .nl))) (N 0)) (.boo false)) true (.mm true (.cn (lA 3 3) (.cn (lA 3 4) .nl)))), (.gd (.ite (.ite (.ite (.bin .eql (.len (lA 3 0)) (.len (lA 2 0))) (.bin .geq (lA 3 2) (N 0)) (.boo false)) (.bin .leq (lA 3 2) (N 4)) (.boo false)) (.bin .geq (.mm false (.cn (lA 3 3) (.cn (lA 3 4) .nl))) (N 0)) (.boo false)) true (.bin .leq (.mm true (.cn (lA 3 3) (.cn (lA 3 4) .nl))) (N 2199023255551))), (.gd (.gd (.ite (.ite (.ite (.ite (.bin .eql (.len (lA 3 0)) (.len (lA 2 0))) (.bin .geq (lA 3 2) (N 0)) (.boo false)) (.bin .leq (lA 3 2) (N 4)) (.boo false)) (.bin .geq (.mm false (.cn (lA 3 3) (.cn (lA 3 4) .nl))) (N 0)) (.boo false)) (.bin .leq (.mm true (.cn (lA 3 3) (.cn (lA 3 4) .nl))) (N 2199023255551)) (.boo false)) true (lA 3 1)) true .nl), (.gd (.gd (.ite (.ite (.ite (.ite (.bin .eql (.len (lA 3 0)) (.len (lA 2 0))) (.bin .geq (lA 3 2) (N 0)) (.boo false)) (.bin .leq (lA 3 2) (N 4)) (.boo false)) (.bin .geq (.mm false (.cn (lA 3 3) (.cn (lA 3 4) .nl))) (N 0)) (.boo false)) (.bin .leq (.mm true (.cn (lA 3 3) (.cn (lA 3 4) .nl))) (N 2199023255551)) (.boo false)) true (lA 3 1)) true (.bin .eql (lA 2 2) (N (-1)))), (.gd (.ite (.ite (.ite (.ite (.bin .eql (.len (lA 3 0)) (.len (lA 2 0))) (.bin .geq (lA 3 2) (N 0)) (.boo false)) (.bin .leq (lA 3 2) (N 4)) (.boo false)) (.bin .geq (.mm false (.cn (lA 3 3) (.cn (lA 3 4) .nl))) (N 0)) (.boo false)) (.bin .leq (.mm true (.cn (lA 3 3) (.cn (lA 3 4) .nl))) (N 2199023255551)) (.boo false)) true (.ite (lA 3 1) (.bin .eql (lA 2 2) (N (-1))) (.boo false))), (.gd (.ite (.ite (.ite (.ite (.bin .eql (.len (lA 3 0)) (.len (lA 2 0))) (.bin .geq (lA 3 2) (N 0)) (.boo false)) (.bin .leq (lA 3 2) (N 4)) (.boo false)) (.bin .geq (.mm false (.cn (lA 3 3) (.cn (lA 3 4) .nl))) (N 0)) (.boo false)) (.bin .leq (.mm true (.cn (lA 3 3) (.cn (lA 3 4) .nl))) (N 2199023255551)) (.boo false)) true (.un .not (.ite (lA 3 1) (.bin .eql (lA 2 2) (N (-1))) (.boo false))))] [(4, (.ite (.ite (.ite (.ite (.ite (.bin .eql (.len (lA 3 0)) (.len (lA 2 0))) (.bin .geq (lA 3 2) (N 0)) (.boo false)) (.bin .leq (lA 3 2) (N 4)) (.boo false)) (.bin .geq (.mm false (.cn (lA 3 3) (.cn (lA 3 4) .nl))) (N 0)) (.boo false)) (.bin .leq (.mm true (.cn (lA 3 3) (.cn (lA 3 4) .nl))) (N 2199023255551)) (.boo false)) (.un .not (.ite (lA 3 1) (.bin .eql (lA 2 2) (N (-1))) (.boo false))) (.boo false)))]])
(.ret (.v 4) []))⟩
def v_slices_ContainsFunc_api_Message_api_Message : VFun := ⟨⟨[.F, .Q], .F, true⟩, [],
(.seq
(.st [.call [] none 7 73 [(.v 0), (.v 1)] [], .asg [] [(4, (.bin .geq (.v 7) (N 0)))]])
(.ret (.v 4) []))⟩
def v_world_Fits_1 : VFun := ⟨⟨[.F, (.B true [.F, .F, .F, .F]), (.B true [.F, .F, .F, .F, .F, .F])], .F, true⟩, [],
(.seq
(.st [.asg [(.chk (some 6) (.v 0))] [(3, (.lp (.cn (fA 0 0) (.cn (fA 0 1) (.cn (fA 0 2) (.cn (fA 0 3) (.cn (fA 0 4) (.cn (fA 0 5) .nl)))))))), (4000, (.lp (.cn (lA 1 0) (.cn (lA 1 1) (.cn (lA 1 2) (.cn (lA 1 3) .nl)))))), (4001, (.lp (.cn (lA 2 0) (.cn (lA 2 1) (.cn (lA 2 2) (.cn (lA 2 3) (.cn (lA 2 4) (.cn (lA 2 5) .nl))))))))], .call [] none 8 164 [(.agg (.cn (lA 4000 0) (.cn (lA 4000 1) (.cn (lA 4000 2) (.cn (lA 4000 3) .nl))))), (.agg (.cn (lA 4001 0) (.cn (lA 4001 1) (.cn (lA 4001 2) (.cn (lA 4001 3) (.cn (lA 4001 4) (.cn (lA 4001 5) .nl))))))), (.agg (.cn (lA 3 0) (.cn (lA 3 1) (.cn (lA 3 2) (.cn (lA 3 3) (.cn (lA 3 4) (.cn (lA 3 5) .nl)))))))] [], .asg [] [(4, (.un .not (.v 8)))]])
(.ret (.v 4) []))⟩
def v_world_message : VFun := ⟨⟨[.F, .F, .F], .F, true⟩, [],
(.seq
(.st [.asg [(.chk (some 4) (.v 0)), (.chk (some 6) (.v 1)), (.chk (some 6) (.v 2))] [(5, (.lp (.cn (fA 2 0) (.cn (fA 2 1) (.cn (fA 2 2) (.cn (fA 2 3) (.cn (fA 2 4) (.cn (fA 2 5) .nl)))))))), (4, (.lp (.cn (fA 1 0) (.cn (fA 1 1) (.cn (fA 1 2) (.cn (fA 1 3) (.cn (fA 1 4) (.cn (fA 1 5) .nl)))))))), (3, (.lp (.cn (fA 0 0) (.cn (fA 0 1) (.cn (fA 0 2) (.cn (fA 0 3) .nl))))))]])
(.seq
(.seq
(.st [.call [] none 10 155 [(.agg (.cn (lA 3 0) (.cn (lA 3 1) (.cn (lA 3 2) (.cn (lA 3 3) .nl))))), (.agg (.cn (lA 5 3) (.cn (lA 5 4) (.cn (lA 5 5) .nl))))] [], .asg [(.gd (.bin .neq (.v 10) (N 0)) false (.bin .lss (lA 5 1) (N 0))), (.gd (.ite (.bin .neq (.v 10) (N 0)) (.boo true) (.bin .lss (lA 5 1) (N 0))) false (.bin .lss (lA 5 2) (N 0))), (.gd (.ite (.ite (.bin .neq (.v 10) (N 0)) (.boo true) (.bin .lss (lA 5 1) (N 0))) (.boo true) (.bin .lss (lA 5 2) (N 0))) false (.bin .gtr (lA 5 2) (lA 4 3))), (.gd (.ite (.ite (.ite (.bin .neq (.v 10) (N 0)) (.boo true) (.bin .lss (lA 5 1) (N 0))) (.boo true) (.bin .lss (lA 5 2) (N 0))) (.boo true) (.bin .gtr (lA 5 2) (lA 4 3))) false (.bin .lss (lA 5 0) (N (-1)))), (.gd (.ite (.ite (.ite (.ite (.bin .neq (.v 10) (N 0)) (.boo true) (.bin .lss (lA 5 1) (N 0))) (.boo true) (.bin .lss (lA 5 2) (N 0))) (.boo true) (.bin .gtr (lA 5 2) (lA 4 3))) (.boo true) (.bin .lss (lA 5 0) (N (-1)))) false (.len (lA 4 0))), (.gd (.ite (.ite (.ite (.ite (.bin .neq (.v 10) (N 0)) (.boo true) (.bin .lss (lA 5 1) (N 0))) (.boo true) (.bin .lss (lA 5 2) (N 0))) (.boo true) (.bin .gtr (lA 5 2) (lA 4 3))) (.boo true) (.bin .lss (lA 5 0) (N (-1)))) false (.bin .geq (lA 5 0) (.len (lA 4 0)))), (.ite (.ite (.ite (.ite (.ite (.bin .neq (.v 10) (N 0)) (.boo true) (.bin .lss (lA 5 1) (N 0))) (.boo true) (.bin .lss (lA 5 2) (N 0))) (.boo true) (.bin .gtr (lA 5 2) (lA 4 3))) (.boo true) (.bin .lss (lA 5 0) (N (-1)))) (.boo true) (.bin .geq (lA 5 0) (.len (lA 4 0))))] []])
(.cond (.ite (.ite (.ite (.ite (.ite (.bin .neq (.v 10) (N 0)) (.boo true) (.bin .lss (lA 5 1) (N 0))) (.boo true) (.bin .lss (lA 5 2) (N 0))) (.boo true) (.bin .gtr (lA 5 2) (lA 4 3))) (.boo true) (.bin .lss (lA 5 0) (N (-1)))) (.boo true) (.bin .geq (lA 5 0) (.len (lA 4 0))))
(.seq
(.st [.asg [] [(6, (.boo false))]])
(.ret (.v 6) []))
.skip))
(.seq
(.seq
(.st [.asg [(.bin .eql (lA 5 0) (N (-1)))] []])
(.cond (.bin .eql (lA 5 0) (N (-1)))
(.seq
(.st [.asg [] [(6, (.bin .lss (lA 5 1) (N 16)))]])
(.ret (.v 6) []))
.skip))
(.seq
(.st [.asg [] [(6, (.bin .lss (lA 5 1) (.ld none (.fa (.ia 5 (lA 4 0) (lA 5 0)) 3) 0)))]])
(.ret (.v 6) [])))))⟩
def v_prog_instr : VFun := ⟨⟨[.F, .F, .F], .F, true⟩, [],
(.seq
(.st [.asg [(.chk (some 4) (.v 0)), (.chk (some 2) (.v 1)), (.chk (some 2) (.v 2))] [(5, (.lp (.cn (fA 2 0) (.cn (fA 2 1) .nl)))), (4, (.lp (.cn (fA 1 0) (.cn (fA 1 1) .nl)))), (3, (.lp (.cn (fA 0 0) (.cn (fA 0 1) (.cn (fA 0 2) (.cn (fA 0 3) .nl))))))]])
(.seq
(.seq
(.st [.call [] none 10 189 [(lA 5 0)] [], .asg [] [(7, (.v 10))]])
(.block 0
(.seq
(.seq
(.st [.call [] none 14 190 [(lA 5 0)] [], .asg [] [(11, (.un .not (.v 14)))]])
(.cond (.v 11)
.skip
(.st [.asg [(.gd (.bin .eql (.v 7) (N 0)) true (.bin .neq (lA 5 1) (N 0)))] [(11, (.ite (.bin .eql (.v 7) (N 0)) (.bin .neq (lA 5 1) (N 0)) (.boo false)))]])))
(.cond (.v 11)
(.seq
(.st [.asg [] [(6, (N 1))]])
(.ret (.v 6) []))
(.seq
(.st [.asg [(.gd (.gd (.bin .eql (.v 7) (N 4)) true (.bin .lss (lA 5 1) (N 0))) false (.len (lA 4 1))), (.gd (.gd (.bin .eql (.v 7) (N 4)) true (.bin .lss (lA 5 1) (N 0))) false (.bin .gtr (lA 5 1) (.len (lA 4 1)))), (.gd (.bin .eql (.v 7) (N 4)) true (.ite (.bin .lss (lA 5 1) (N 0)) (.boo true) (.bin .gtr (lA 5 1) (.len (lA 4 1))))), (.ite (.bin .eql (.v 7) (N 4)) (.ite (.bin .lss (lA 5 1) (N 0)) (.boo true) (.bin .gtr (lA 5 1) (.len (lA 4 1)))) (.boo false))] []])
(.cond (.ite (.bin .eql (.v 7) (N 4)) (.ite (.bin .lss (lA 5 1) (N 0)) (.boo true) (.bin .gtr (lA 5 1) (.len (lA 4 1)))) (.boo false))
(.seq
(.st [.asg [] [(6, (N 4))]])
(.ret (.v 6) []))
(.seq
(.seq
(.st [.asg [(.gd (.gd (.bin .eql (.v 7) (N 2)) true (.bin .lss (lA 5 1) (N 0))) false (.bin .geq (lA 5 1) (N 8))), (.gd (.bin .eql (.v 7) (N 2)) true (.ite (.bin .lss (lA 5 1) (N 0)) (.boo true) (.bin .geq (lA 5 1) (N 8))))] [(39, (.ite (.bin .eql (.v 7) (N 2)) (.ite (.bin .lss (lA 5 1) (N 0)) (.boo true) (.bin .geq (lA 5 1) (N 8))) (.boo false)))]])
(.cond (.v 39)
.skip
(.st [.asg [(.gd (.gd (.bin .eql (.v 7) (N 3)) true (.bin .lss (lA 5 1) (N 0))) false (.bin .geq (lA 5 1) (lA 4 0))), (.gd (.bin .eql (.v 7) (N 3)) true (.ite (.bin .lss (lA 5 1) (N 0)) (.boo true) (.bin .geq (lA 5 1) (lA 4 0))))] [(39, (.ite (.bin .eql (.v 7) (N 3)) (.ite (.bin .lss (lA 5 1) (N 0)) (.boo true) (.bin .geq (lA 5 1) (lA 4 0))) (.boo false)))]])))
(.cond (.v 39)
(.seq
(.st [.asg [] [(6, (N 6))]])
(.ret (.v 6) []))
(.seq
(.st [.asg [(.gd (.gd (.bin .eql (.v 7) (N 5)) true (.bin .lss (lA 5 1) (N 0))) false (.len (lA 3 0))), (.gd (.gd (.bin .eql (.v 7) (N 5)) true (.bin .lss (lA 5 1) (N 0))) false (.bin .geq (lA 5 1) (.len (lA 3 0)))), (.gd (.bin .eql (.v 7) (N 5)) true (.ite (.bin .lss (lA 5 1) (N 0)) (.boo true) (.bin .geq (lA 5 1) (.len (lA 3 0))))), (.ite (.bin .eql (.v 7) (N 5)) (.ite (.bin .lss (lA 5 1) (N 0)) (.boo true) (.bin .geq (lA 5 1) (.len (lA 3 0)))) (.boo false))] []])
(.cond (.ite (.bin .eql (.v 7) (N 5)) (.ite (.bin .lss (lA 5 1) (N 0)) (.boo true) (.bin .geq (lA 5 1) (.len (lA 3 0)))) (.boo false))
(.seq
(.st [.asg [] [(6, (N 7))]])
(.ret (.v 6) []))
.skip))))))))))
(.seq
(.st [.asg [] [(6, (N 0))]])
(.ret (.v 6) []))))⟩
def v_ops_Pops : VFun := ⟨⟨[.F], .F, true⟩, [],
(.seq
(.st [])
(.seq
(.block 0
(.seq
(.seq
(.st [.asg [] [(3, (.bin .eql (.v 0) (N 4)))]])
(.cond (.v 3)
.skip
(.seq
(.st [.asg [(.gd (.bin .geq (.v 0) (N 9)) true (.bin .leq (.v 0) (N 13)))] [(3, (.ite (.bin .geq (.v 0) (N 9)) (.bin .leq (.v 0) (N 13)) (.boo false)))]])
(.cond (.v 3)
.skip
(.st [.asg [(.gd (.bin .geq (.v 0) (N 15)) true (.bin .leq (.v 0) (N 18)))] [(3, (.ite (.bin .geq (.v 0) (N 15)) (.bin .leq (.v 0) (N 18)) (.boo false)))]])))))
(.cond (.v 3)
(.seq
(.st [.asg [] [(2, (N 2))]])
(.ret (.v 2) []))
(.seq
(.seq
(.st [.asg [] [(18, (.bin .eql (.v 0) (N 2)))]])
(.cond (.v 18)
.skip
(.seq
(.st [.asg [] [(18, (.bin .eql (.v 0) (N 3)))]])
(.cond (.v 18)
.skip
(.seq
(.st [.asg [] [(18, (.bin .eql (.v 0) (N 6)))]])
(.cond (.v 18)
.skip
(.seq
(.st [.asg [] [(18, (.bin .eql (.v 0) (N 14)))]])
(.cond (.v 18)
.skip
(.seq
(.st [.asg [] [(18, (.bin .eql (.v 0) (N 19)))]])
(.cond (.v 18)
.skip
(.seq
(.st [.asg [] [(18, (.bin .eql (.v 0) (N 21)))]])
(.cond (.v 18)
.skip
(.st [.asg [] [(18, (.bin .eql (.v 0) (N 22)))]])))))))))))))
(.cond (.v 18)
(.seq
(.st [.asg [] [(2, (N 1))]])
(.ret (.v 2) []))
.skip)))))
(.seq
(.st [.asg [] [(2, (N 0))]])
(.ret (.v 2) []))))⟩
def v_ops_Operand : VFun := ⟨⟨[.F], .F, true⟩, [],
(.seq
(.st [])
(.seq
(.seq
(.st [.asg [] [(3, (.v 0))]])
(.block 0
(.seq
(.st [.asg [(.bin .eql (.v 3) (N 1))] []])
(.cond (.bin .eql (.v 3) (N 1))
(.seq
(.st [.asg [] [(2, (N 1))]])
(.ret (.v 2) []))
(.seq
(.seq
(.st [.asg [] [(6, (.bin .eql (.v 3) (N 5)))]])
(.cond (.v 6)
.skip
(.st [.asg [] [(6, (.bin .eql (.v 3) (N 6)))]])))
(.cond (.v 6)
(.seq
(.st [.asg [] [(2, (N 2))]])
(.ret (.v 2) []))
(.seq
(.st [.asg [(.bin .eql (.v 3) (N 7))] []])
(.cond (.bin .eql (.v 3) (N 7))
(.seq
(.st [.asg [] [(2, (N 3))]])
(.ret (.v 2) []))
(.seq
(.seq
(.st [.asg [] [(11, (.bin .eql (.v 3) (N 20)))]])
(.cond (.v 11)
.skip
(.st [.asg [] [(11, (.bin .eql (.v 3) (N 21)))]])))
(.cond (.v 11)
(.seq
(.st [.asg [] [(2, (N 4))]])
(.ret (.v 2) []))
(.seq
(.st [.asg [(.bin .eql (.v 3) (N 22))] []])
(.cond (.bin .eql (.v 3) (N 22))
(.seq
(.st [.asg [] [(2, (N 5))]])
(.ret (.v 2) []))
.skip))))))))))))
(.seq
(.st [.asg [] [(2, (N 0))]])
(.ret (.v 2) []))))⟩
def v_ops_Valid : VFun := ⟨⟨[.F], .F, true⟩, [],
(.seq
(.st [.asg [(.gd (.bin .geq (.v 0) (N 1)) true (.bin .leq (.v 0) (N 25)))] [(2, (.ite (.bin .geq (.v 0) (N 1)) (.bin .leq (.v 0) (N 25)) (.boo false)))]])
(.ret (.v 2) []))⟩
def VTL : List (Option VFun) := [none, none, none, none, none, none, none, none, none, none, none, none, none, none, none, none, none, none, none, none, none, none, none, some v_alike_Round, none, none, none, none, none, none, none, none, some v_mail_Put, none, none, none, none, some v_mail_Sorted, none, some v_mail_Find, none, some v_mail_To, none, none, some v_mail_Copy, none, none, none, none, none, none, none, none, none, none, none, none, none, none, none, none, none, none, none, none, none, none, none, none, none, none, none, none, some v_slices_IndexFunc_api_Message_api_Message, some v_mail_Put_1, some v_ident_Less, some v_slices_Insert_api_Message_api_Message, some v_mail_own, none, none, none, some v_mail_Find_1, none, none, none, none, none, none, none, none, none, none, none, none, none, none, some v_ident_order, none, some v_slices_rotateRight_api_Message, some v_prog_CopyNote, none, none, some v_cmp_Or_int, some v_cmp_Compare_int, some v_slices_rotateLeft_api_Message, some vCl', some v_cmp_isNaN_int, some v_slices_Reverse_api_Message_api_Message, none, none, none, none, none, none, some v_law10_EventOdd, none, none, some v_world_Start, none, none, some yesV, none, some v_event_Is, none, some v_event_May, some v_law10_one, none, none, some v_flow_Check, some v_world_Give, none, some v_event_Left, some v_world_Check, none, none, none, some v_event_Can, some v_event_paid, none, some v_prog_Check, some v_flow_walk, some v_world_Post, none, none, some v_event_less, some v_world_Fits, none, none, none, none, some v_prog_each_api_Handler, some v_prog_handler, some v_prog_each_api_Actor, some v_prog_actor, some v_prog_each_api_Note, some v_prog_Note, some vRep, some v_flow_takes, some v_ops_Puts, some v_flow_next, none, some v_world_local, some v_slices_ContainsFunc_api_Message_api_Message, some v_world_Fits_1, some v_world_message, none, none, none, none, none, none, none, none, none, none, none, some v_prog_instr, none, some v_ops_Pops, none, none, none, none, none, none, none, none, none, none, some v_ops_Operand, some v_ops_Valid]
def tVT : Nat → Option VFun := tabV VTL
def tVS : Nat → Option Sig := fun g => (tVT g).map VFun.sig
end Gv

namespace Gv
open Go
theorem mk23 : EntOk (tabOf FTL) tVS 23 v_alike_Round := .inl ⟨f_alike_Round, rfl, by kernel_rfl⟩
theorem mk32 : EntOk (tabOf FTL) tVS 32 v_mail_Put := .inl ⟨f_mail_Put, rfl, by kernel_rfl⟩
theorem mk37 : EntOk (tabOf FTL) tVS 37 v_mail_Sorted := .inl ⟨f_mail_Sorted, rfl, by kernel_rfl⟩
theorem mk39 : EntOk (tabOf FTL) tVS 39 v_mail_Find := .inl ⟨f_mail_Find, rfl, by kernel_rfl⟩
theorem mk41 : EntOk (tabOf FTL) tVS 41 v_mail_To := .inl ⟨f_mail_To, rfl, by kernel_rfl⟩
theorem mk44 : EntOk (tabOf FTL) tVS 44 v_mail_Copy := .inl ⟨f_mail_Copy, rfl, by kernel_rfl⟩
theorem mk73 : EntOk (tabOf FTL) tVS 73 v_slices_IndexFunc_api_Message_api_Message := .inl ⟨f_slices_IndexFunc_api_Message_api_Message, rfl, by kernel_rfl⟩
theorem mk74 : EntOk (tabOf FTL) tVS 74 v_mail_Put_1 := .inl ⟨f_mail_Put_1, rfl, by kernel_rfl⟩
theorem mk75 : EntOk (tabOf FTL) tVS 75 v_ident_Less := .inl ⟨f_ident_Less, rfl, by kernel_rfl⟩
theorem mk76 : EntOk (tabOf FTL) tVS 76 v_slices_Insert_api_Message_api_Message := .inl ⟨f_slices_Insert_api_Message_api_Message, rfl, by kernel_rfl⟩
theorem mk77 : EntOk (tabOf FTL) tVS 77 v_mail_own := .inl ⟨f_mail_own, rfl, by kernel_rfl⟩
theorem mk81 : EntOk (tabOf FTL) tVS 81 v_mail_Find_1 := .inl ⟨f_mail_Find_1, rfl, by kernel_rfl⟩
theorem mk96 : EntOk (tabOf FTL) tVS 96 v_ident_order := .inl ⟨f_ident_order, rfl, by kernel_rfl⟩
theorem mk98 : EntOk (tabOf FTL) tVS 98 v_slices_rotateRight_api_Message := .inl ⟨f_slices_rotateRight_api_Message, rfl, by kernel_rfl⟩
theorem mk99 : EntOk (tabOf FTL) tVS 99 v_prog_CopyNote := .inl ⟨f_prog_CopyNote, rfl, by kernel_rfl⟩
theorem mk102 : EntOk (tabOf FTL) tVS 102 v_cmp_Or_int := .inl ⟨f_cmp_Or_int, rfl, by kernel_rfl⟩
theorem mk103 : EntOk (tabOf FTL) tVS 103 v_cmp_Compare_int := .inl ⟨f_cmp_Compare_int, rfl, by kernel_rfl⟩
theorem mk104 : EntOk (tabOf FTL) tVS 104 v_slices_rotateLeft_api_Message := .inl ⟨f_slices_rotateLeft_api_Message, rfl, by kernel_rfl⟩
theorem mk106 : EntOk (tabOf FTL) tVS 106 v_cmp_isNaN_int := .inl ⟨f_cmp_isNaN_int, rfl, by kernel_rfl⟩
theorem mk107 : EntOk (tabOf FTL) tVS 107 v_slices_Reverse_api_Message_api_Message := .inl ⟨f_slices_Reverse_api_Message_api_Message, rfl, by kernel_rfl⟩
theorem mk114 : EntOk (tabOf FTL) tVS 114 v_law10_EventOdd := .inl ⟨f_law10_EventOdd, rfl, by kernel_rfl⟩
theorem mk117 : EntOk (tabOf FTL) tVS 117 v_world_Start := .inl ⟨f_world_Start, rfl, by kernel_rfl⟩
theorem mk122 : EntOk (tabOf FTL) tVS 122 v_event_Is := .inl ⟨f_event_Is, rfl, by kernel_rfl⟩
theorem mk124 : EntOk (tabOf FTL) tVS 124 v_event_May := .inl ⟨f_event_May, rfl, by kernel_rfl⟩
theorem mk125 : EntOk (tabOf FTL) tVS 125 v_law10_one := .inl ⟨f_law10_one, rfl, by kernel_rfl⟩
theorem mk128 : EntOk (tabOf FTL) tVS 128 v_flow_Check := .inl ⟨f_flow_Check, rfl, by kernel_rfl⟩
theorem mk129 : EntOk (tabOf FTL) tVS 129 v_world_Give := .inl ⟨f_world_Give, rfl, by kernel_rfl⟩
theorem mk131 : EntOk (tabOf FTL) tVS 131 v_event_Left := .inl ⟨f_event_Left, rfl, by kernel_rfl⟩
theorem mk132 : EntOk (tabOf FTL) tVS 132 v_world_Check := .inl ⟨f_world_Check, rfl, by kernel_rfl⟩
theorem mk136 : EntOk (tabOf FTL) tVS 136 v_event_Can := .inl ⟨f_event_Can, rfl, by kernel_rfl⟩
theorem mk137 : EntOk (tabOf FTL) tVS 137 v_event_paid := .inl ⟨f_event_paid, rfl, by kernel_rfl⟩
theorem mk139 : EntOk (tabOf FTL) tVS 139 v_prog_Check := .inl ⟨f_prog_Check, rfl, by kernel_rfl⟩
theorem mk140 : EntOk (tabOf FTL) tVS 140 v_flow_walk := .inl ⟨f_flow_walk, rfl, by kernel_rfl⟩
theorem mk141 : EntOk (tabOf FTL) tVS 141 v_world_Post := .inl ⟨f_world_Post, rfl, by kernel_rfl⟩
theorem mk144 : EntOk (tabOf FTL) tVS 144 v_event_less := .inl ⟨f_event_less, rfl, by kernel_rfl⟩
theorem mk145 : EntOk (tabOf FTL) tVS 145 v_world_Fits := .inl ⟨f_world_Fits, rfl, by kernel_rfl⟩
theorem mk150 : EntOk (tabOf FTL) tVS 150 v_prog_each_api_Handler := .inl ⟨f_prog_each_api_Handler, rfl, by kernel_rfl⟩
theorem mk151 : EntOk (tabOf FTL) tVS 151 v_prog_handler := .inl ⟨f_prog_handler, rfl, by kernel_rfl⟩
theorem mk152 : EntOk (tabOf FTL) tVS 152 v_prog_each_api_Actor := .inl ⟨f_prog_each_api_Actor, rfl, by kernel_rfl⟩
theorem mk153 : EntOk (tabOf FTL) tVS 153 v_prog_actor := .inl ⟨f_prog_actor, rfl, by kernel_rfl⟩
theorem mk154 : EntOk (tabOf FTL) tVS 154 v_prog_each_api_Note := .inl ⟨f_prog_each_api_Note, rfl, by kernel_rfl⟩
theorem mk155 : EntOk (tabOf FTL) tVS 155 v_prog_Note := .inl ⟨f_prog_Note, rfl, by kernel_rfl⟩
theorem mk157 : EntOk (tabOf FTL) tVS 157 v_flow_takes := .inl ⟨f_flow_takes, rfl, by kernel_rfl⟩
theorem mk158 : EntOk (tabOf FTL) tVS 158 v_ops_Puts := .inl ⟨f_ops_Puts, rfl, by kernel_rfl⟩
theorem mk159 : EntOk (tabOf FTL) tVS 159 v_flow_next := .inl ⟨f_flow_next, rfl, by kernel_rfl⟩
theorem mk161 : EntOk (tabOf FTL) tVS 161 v_world_local := .inl ⟨f_world_local, rfl, by kernel_rfl⟩
theorem mk162 : EntOk (tabOf FTL) tVS 162 v_slices_ContainsFunc_api_Message_api_Message := .inl ⟨f_slices_ContainsFunc_api_Message_api_Message, rfl, by kernel_rfl⟩
theorem mk163 : EntOk (tabOf FTL) tVS 163 v_world_Fits_1 := .inl ⟨f_world_Fits_1, rfl, by kernel_rfl⟩
theorem mk164 : EntOk (tabOf FTL) tVS 164 v_world_message := .inl ⟨f_world_message, rfl, by kernel_rfl⟩
theorem mk176 : EntOk (tabOf FTL) tVS 176 v_prog_instr := .inl ⟨f_prog_instr, rfl, by kernel_rfl⟩
theorem mk178 : EntOk (tabOf FTL) tVS 178 v_ops_Pops := .inl ⟨f_ops_Pops, rfl, by kernel_rfl⟩
theorem mk189 : EntOk (tabOf FTL) tVS 189 v_ops_Operand := .inl ⟨f_ops_Operand, rfl, by kernel_rfl⟩
theorem mk190 : EntOk (tabOf FTL) tVS 190 v_ops_Valid := .inl ⟨f_ops_Valid, rfl, by kernel_rfl⟩
theorem rep_ent156 : EntOk (tabOf FTL) tVS 156 vRep := rep_ent repO
theorem cl_ent105 : EntOk (tabOf FTL) tVS 105 vCl' := cl_ent (by rfl)
end Gv
