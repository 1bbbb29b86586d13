/- What this file proves: one part of the proof that the law answers true for every input, by an interpreter that is proved sound against the given model. -/
import Derived.Test.YtldplidcfhphhaaFb
import Derived.Test.YtldplidcfhphhaaIr
import Derived.KernelRfl
namespace Gv
def q_law11_StepTimers : QF := ⟨f_law11_StepTimers, 303412208654030546730951, [0, 1, 2, 6, 7, 8, 9, 10, 11, 12, 13, 14, 15, 29, 36, 54, 57, 70, 78]⟩
def q_law11_awake : QF := ⟨f_law11_awake, 9223372036854778815, [0, 1, 2, 3, 4, 5, 7, 8, 9, 11, 63]⟩
def q_law11_pair : QF := ⟨f_law11_pair, 13, [0, 2, 3]⟩
def q_world_Start : QF := ⟨f_world_Start, 246879, [0, 1, 2, 3, 4, 6, 10, 14, 15, 16, 17]⟩
def q_step_Do : QF := ⟨f_step_Do, 33791, [0, 1, 2, 3, 4, 5, 6, 7, 8, 9, 15]⟩
def q_alike_Ints : QF := ⟨f_alike_Ints, 33571891, [0, 1, 4, 5, 10, 14, 25]⟩
def q_event_Is : QF := ⟨f_event_Is, 511, [0, 1, 2, 3, 4, 5, 6, 7, 8]⟩
def q_event_May : QF := ⟨f_event_May, 7, [0, 1, 2]⟩
def q_step_Run : QF := ⟨f_step_Run, 68735338463, [0, 1, 2, 3, 4, 6, 7, 8, 9, 10, 17, 20, 21, 22, 23, 36]⟩
def q_step_Notes : QF := ⟨f_step_Notes, 1151, [0, 1, 2, 3, 4, 5, 6, 10]⟩
def q_flow_Check : QF := ⟨f_flow_Check, 537366831, [0, 1, 2, 3, 5, 8, 12, 15, 16, 17, 18, 29]⟩
def q_slices_Clone_int_int : QF := ⟨f_slices_Clone_int_int, 21, [0, 2, 4]⟩
def q_world_Give : QF := ⟨f_world_Give, 140737740019487, [0, 1, 2, 3, 4, 8, 9, 10, 12, 24, 25, 26, 27, 47]⟩
def q_step_Apply : QF := ⟨f_step_Apply, 20769187453482132851336885063127039, [0, 1, 2, 3, 4, 5, 6, 7, 8, 9, 10, 11, 20, 21, 43, 63, 84, 114]⟩
def q_event_Left : QF := ⟨f_event_Left, 31, [0, 1, 2, 3, 4]⟩
def q_world_Check : QF := ⟨f_world_Check, 31, [0, 1, 2, 3, 4]⟩
def q_event_Can : QF := ⟨f_event_Can, 17592186044863, [0, 1, 2, 3, 4, 5, 7, 8, 44]⟩
def q_event_paid : QF := ⟨f_event_paid, 2164855, [0, 1, 2, 4, 5, 6, 11, 16, 21]⟩
def q_step_Would : QF := ⟨f_step_Would, 4398046564863, [0, 1, 2, 3, 4, 5, 6, 7, 8, 12, 14, 15, 42]⟩
def q_prog_Check : QF := ⟨f_prog_Check, 2216203386943, [0, 1, 2, 3, 4, 5, 18, 34, 41]⟩
def q_flow_walk : QF := ⟨f_flow_walk, 79233069053184154360193488895, [0, 1, 2, 3, 4, 5, 6, 7, 8, 9, 10, 12, 24, 34, 57, 72, 73, 74, 75, 82, 96]⟩
def q_world_Post : QF := ⟨f_world_Post, 34376516079, [0, 1, 2, 3, 5, 6, 7, 8, 24, 35]⟩
def q_world_Copy : QF := ⟨f_world_Copy, 122927, [0, 1, 2, 3, 5, 13, 14, 15, 16]⟩
def q_mail_Find : QF := ⟨f_mail_Find, 27, [0, 1, 3, 4]⟩
def q_step_run : QF := ⟨f_step_run, 3135, [0, 1, 2, 3, 4, 5, 10, 11]⟩
def q_event_less : QF := ⟨f_event_less, 19, [0, 1, 4]⟩
def q_world_Fits : QF := ⟨f_world_Fits, 2253895757725823, [0, 1, 2, 3, 4, 5, 6, 35, 37, 38, 39, 40, 51]⟩
def q_cmp_Or_int : QF := ⟨f_cmp_Or_int, 17389, [0, 2, 3, 5, 6, 7, 8, 9, 14]⟩
def q_cmp_Compare_int : QF := ⟨f_cmp_Compare_int, 604275, [0, 1, 4, 5, 6, 11, 12, 13, 16, 19]⟩
def q_ident_order : QF := ⟨f_ident_order, 31, [0, 1, 2, 3, 4]⟩
def q_vm_Go : QF := ⟨f_vm_Go, 18449136611011624127, [0, 1, 2, 3, 4, 5, 7, 10, 11, 12, 13, 14, 47, 51, 64]⟩
def q_prog_each_api_Handler : QF := ⟨f_prog_each_api_Handler, 2113359, [0, 1, 2, 3, 6, 8, 9, 10, 11, 12, 13, 21]⟩
def q_prog_handler : QF := ⟨f_prog_handler, 4326457823, [0, 1, 2, 3, 4, 6, 7, 8, 15, 21, 22, 23, 24, 32]⟩
def q_prog_each_api_Actor : QF := ⟨f_prog_each_api_Actor, 2113359, [0, 1, 2, 3, 6, 8, 9, 10, 11, 12, 13, 21]⟩
def q_prog_actor : QF := ⟨f_prog_actor, 17592186176575, [0, 1, 2, 3, 4, 5, 10, 17, 44]⟩
def q_prog_each_api_Note : QF := ⟨f_prog_each_api_Note, 2113359, [0, 1, 2, 3, 6, 8, 9, 10, 11, 12, 13, 21]⟩
def q_prog_Note : QF := ⟨f_prog_Note, 16777279, [0, 1, 2, 3, 4, 5, 24]⟩
def q_slices_Repeat_int_int : QF := ⟨f_slices_Repeat_int_int, 137506063859, [0, 1, 4, 5, 6, 7, 8, 10, 26, 37]⟩
def q_flow_takes : QF := ⟨f_flow_takes, 2111, [0, 1, 2, 3, 4, 5, 11]⟩
def q_ops_Puts : QF := ⟨f_ops_Puts, 269, [0, 2, 3, 8]⟩
def q_flow_next : QF := ⟨f_flow_next, 528603, [0, 1, 3, 4, 6, 7, 12, 19]⟩
def q_mail_To : QF := ⟨f_mail_To, 133075, [0, 1, 4, 6, 7, 8, 9, 10, 17]⟩
def q_mail_Put : QF := ⟨f_mail_Put, 67707, [0, 1, 3, 4, 5, 6, 11, 16]⟩
def q_mail_Copy : QF := ⟨f_mail_Copy, 501, [0, 2, 4, 5, 6, 7, 8]⟩
def q_world_copyLocal : QF := ⟨f_world_copyLocal, 7, [0, 1, 2]⟩
def q_slices_IndexFunc_api_Message_api_Message : QF := ⟨f_slices_IndexFunc_api_Message_api_Message, 66483, [0, 1, 4, 5, 7, 8, 9, 16]⟩
def q_mail_Find_1 : QF := ⟨f_mail_Find_1, 15, [0, 1, 2, 3]⟩
def q_mail_Sorted : QF := ⟨f_mail_Sorted, 33554669, [0, 2, 3, 5, 6, 7, 25]⟩
def q_world_local : QF := ⟨f_world_local, 31, [0, 1, 2, 3, 4]⟩
def q_slices_ContainsFunc_api_Message_api_Message : QF := ⟨f_slices_ContainsFunc_api_Message_api_Message, 19, [0, 1, 4]⟩
def q_world_Fits_1 : QF := ⟨f_world_Fits_1, 31, [0, 1, 2, 3, 4]⟩
def q_world_message : QF := ⟨f_world_message, 2392537302040703, [0, 1, 2, 3, 4, 5, 6, 47, 51]⟩
def q_cmp_isNaN_int : QF := ⟨f_cmp_isNaN_int, 5, [0, 2]⟩
def q_vm_machine_do : QF := ⟨f_vm_machine_do, 5662298586883109531003371504462535572095099, [0, 1, 3, 4, 5, 6, 15, 20, 27, 31, 48, 59, 65, 78, 87, 94, 98, 104, 110, 136, 142]⟩
def q_prog_instr : QF := ⟨f_prog_instr, 73786976844602411263, [0, 1, 2, 3, 4, 5, 6, 7, 11, 23, 39, 66]⟩
def q_math_bits_Mul : QF := ⟨f_math_bits_Mul, 1011, [0, 1, 4, 5, 6, 7, 8, 9]⟩
def q_ops_Pops : QF := ⟨f_ops_Pops, 262157, [0, 2, 3, 18]⟩
def q_mail_Put_1 : QF := ⟨f_mail_Put_1, 15, [0, 1, 2, 3]⟩
def q_ident_Less : QF := ⟨f_ident_Less, 31, [0, 1, 2, 3, 4]⟩
def q_slices_Insert_api_Message_api_Message : QF := ⟨f_slices_Insert_api_Message_api_Message, 295147905181504570311, [0, 1, 2, 6, 7, 8, 9, 16, 22, 31, 68]⟩
def q_mail_own : QF := ⟨f_mail_own, 7, [0, 1, 2]⟩
def q_vm_machine_push : QF := ⟨f_vm_machine_push, 3, [0, 1]⟩
def q_vm_machine_pop : QF := ⟨f_vm_machine_pop, 13, [0, 2, 3]⟩
def q_vm_machine_register : QF := ⟨f_vm_machine_register, 1116691628059, [0, 1, 3, 4, 17, 34, 40]⟩
def q_vm_machine_send : QF := ⟨f_vm_machine_send, 1048691, [0, 1, 4, 5, 6, 20]⟩
def q_vm_machine_count : QF := ⟨f_vm_machine_count, 263155, [0, 1, 4, 5, 6, 7, 8, 9, 18]⟩
def q_ops_Operand : QF := ⟨f_ops_Operand, 19037, [0, 2, 3, 4, 6, 9, 11, 14]⟩
def q_ops_Valid : QF := ⟨f_ops_Valid, 5, [0, 2]⟩
def q_math_bits_Mul32 : QF := ⟨f_math_bits_Mul32, 115, [0, 1, 4, 5, 6]⟩
def q_math_bits_Mul64 : QF := ⟨f_math_bits_Mul64, 16371, [0, 1, 4, 5, 6, 7, 8, 9, 10, 11, 12, 13]⟩
def q_slices_rotateRight_api_Message : QF := ⟨f_slices_rotateRight_api_Message, 3, [0, 1]⟩
def q_prog_CopyNote : QF := ⟨f_prog_CopyNote, 7, [0, 1, 2]⟩
def q_sums_One : QF := ⟨f_sums_One, 2291, [0, 1, 4, 5, 6, 7, 11]⟩
def q_sums_Two : QF := ⟨f_sums_Two, 18049652692108231, [0, 1, 2, 6, 7, 8, 9, 14, 19, 24, 30, 36, 45, 54]⟩
def q_slices_rotateLeft_api_Message : QF := ⟨f_slices_rotateLeft_api_Message, 3, [0, 1]⟩
def q_sums_Truth : QF := ⟨f_sums_Truth, 13, [0, 2, 3]⟩
def q_sums_parts : QF := ⟨f_sums_parts, 2503, [0, 1, 2, 6, 7, 8, 11]⟩
def q_slices_Reverse_api_Message_api_Message : QF := ⟨f_slices_Reverse_api_Message_api_Message, 525, [0, 2, 3, 9]⟩
def QTL : List (Option QF) := [none, none, none, none, none, none, none, none, none, none, none, none, none, none, none, none, none, none, none, none, none, none, none, none, none, none, none, none, none, none, none, none, some q_mail_Put, none, none, none, none, some q_mail_Sorted, none, some q_mail_Find, none, some q_mail_To, none, none, some q_mail_Copy, none, none, none, none, none, none, none, none, none, none, none, none, none, none, none, none, none, none, none, none, none, none, none, none, none, none, none, none, some q_slices_IndexFunc_api_Message_api_Message, some q_mail_Put_1, some q_ident_Less, some q_slices_Insert_api_Message_api_Message, some q_mail_own, none, none, none, some q_mail_Find_1, none, none, none, none, none, none, none, none, none, none, none, none, none, none, some q_ident_order, none, some q_slices_rotateRight_api_Message, some q_prog_CopyNote, none, none, some q_cmp_Or_int, some q_cmp_Compare_int, some q_slices_rotateLeft_api_Message, some q_slices_Clone_int_int, some q_cmp_isNaN_int, some q_slices_Reverse_api_Message_api_Message, none, none, some q_law11_StepTimers, none, none, none, none, some q_law11_awake, some q_law11_pair, some q_world_Start, some q_step_Do, some q_alike_Ints, none, none, some q_event_Is, none, some q_event_May, none, some q_step_Run, some q_step_Notes, some q_flow_Check, some q_world_Give, some q_step_Apply, some q_event_Left, some q_world_Check, none, none, none, some q_event_Can, some q_event_paid, some q_step_Would, some q_prog_Check, some q_flow_walk, some q_world_Post, some q_world_Copy, some q_step_run, some q_event_less, some q_world_Fits, none, none, none, some q_vm_Go, some q_prog_each_api_Handler, some q_prog_handler, some q_prog_each_api_Actor, some q_prog_actor, some q_prog_each_api_Note, some q_prog_Note, some q_slices_Repeat_int_int, some q_flow_takes, some q_ops_Puts, some q_flow_next, some q_world_copyLocal, some q_world_local, some q_slices_ContainsFunc_api_Message_api_Message, some q_world_Fits_1, some q_world_message, none, none, none, none, none, none, none, none, none, none, some q_vm_machine_do, some q_prog_instr, some q_math_bits_Mul, some q_ops_Pops, none, none, none, none, none, some q_vm_machine_push, some q_vm_machine_pop, some q_vm_machine_register, some q_vm_machine_send, some q_vm_machine_count, some q_ops_Operand, some q_ops_Valid, some q_math_bits_Mul32, some q_math_bits_Mul64, none, some q_sums_One, some q_sums_Two, some q_sums_Truth, some q_sums_parts]
set_option maxRecDepth 100000 in
theorem QTL_map : QTL.map (Option.map QF.F) = FTL := rfl
theorem QTL_ok : okQs QTL = true := by kernel_rfl
end Gv
