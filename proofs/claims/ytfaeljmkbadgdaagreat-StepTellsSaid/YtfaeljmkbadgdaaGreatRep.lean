/- A part of the proof that the law is true of all its inputs, by an interpreter that is proved sound. -/
import Derived.Test.YtfaeljmkbadgdaaGreatVw
import Derived.Test.YtfaeljmkbadgdaaGreatVr
import Derived.KernelRfl
namespace Gv
theorem PZ:de cA 156 false 0:=by unfold de;kernel_rfl
theorem P4:de cA 156 false 1:=by unfold de;kernel_rfl
theorem QH:de cA 156 false 2:=by unfold de;kernel_rfl
theorem OK:de cA 156 false 3:=by unfold de;kernel_rfl
theorem Qy:de cA 156 false 4:=by unfold de;kernel_rfl
theorem PQ:de cA 156 false 5:=by unfold de;kernel_rfl
theorem QJ:de cA 156 false 6:=by unfold de;kernel_rfl
theorem Pd:de cA 156 false 7:=by unfold de;kernel_rfl
theorem PN:de cA 156 false 8:=by unfold de;kernel_rfl
theorem QZ:de cA 156 true 0:=by unfold de;kernel_rfl
theorem Pt:de cA 156 true 1:=by unfold de;kernel_rfl
theorem Pe:de cA 156 true 2:=by unfold de;kernel_rfl
theorem PW:de cA 156 true 3:=by unfold de;kernel_rfl
theorem Qp:de cA 156 true 4:=by unfold de;kernel_rfl
theorem Pf:de cA 156 true 5:=by unfold de;kernel_rfl
theorem Pk:de cA 156 true 6:=by unfold de;kernel_rfl
theorem RA:de cA 156 true 7:=by unfold de;kernel_rfl
theorem PB:de cA 156 true 8:=by unfold de;kernel_rfl
theorem Se:Be cA 156:=EV λb j hj=>by
  cases b
  · match j,hj with
    |0,_=>exact PZ
    |1,_=>exact P4
    |2,_=>exact QH
    |3,_=>exact OK
    |4,_=>exact Qy
    |5,_=>exact PQ
    |6,_=>exact QJ
    |7,_=>exact Pd
    |8,_=>exact PN
  · match j,hj with
    |0,_=>exact QZ
    |1,_=>exact Pt
    |2,_=>exact Pe
    |3,_=>exact PW
    |4,_=>exact Qp
    |5,_=>exact Pf
    |6,_=>exact Pk
    |7,_=>exact RA
    |8,_=>exact PB
theorem QF:aC cA dj 156 vN:=Ly Se
end Gv
