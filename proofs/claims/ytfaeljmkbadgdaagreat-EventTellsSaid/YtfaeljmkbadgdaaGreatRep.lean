/- A part of the proof that the law is true of all its inputs, by an interpreter that is proved sound. -/
import Derived.Test.YtfaeljmkbadgdaaGreatVw
import Derived.Test.YtfaeljmkbadgdaaGreatVn
import Derived.KernelRfl
namespace Gv
theorem MW:cO cw 156 false 0:=by unfold cO;kernel_rfl
theorem MX:cO cw 156 false 1:=by unfold cO;kernel_rfl
theorem L8:cO cw 156 false 2:=by unfold cO;kernel_rfl
theorem Mk:cO cw 156 false 3:=by unfold cO;kernel_rfl
theorem Mq:cO cw 156 false 4:=by unfold cO;kernel_rfl
theorem M6:cO cw 156 false 5:=by unfold cO;kernel_rfl
theorem L7:cO cw 156 false 6:=by unfold cO;kernel_rfl
theorem L5:cO cw 156 false 7:=by unfold cO;kernel_rfl
theorem L4:cO cw 156 false 8:=by unfold cO;kernel_rfl
theorem Mh:cO cw 156 true 0:=by unfold cO;kernel_rfl
theorem K6:cO cw 156 true 1:=by unfold cO;kernel_rfl
theorem Ml:cO cw 156 true 2:=by unfold cO;kernel_rfl
theorem M8:cO cw 156 true 3:=by unfold cO;kernel_rfl
theorem MB:cO cw 156 true 4:=by unfold cO;kernel_rfl
theorem MI:cO cw 156 true 5:=by unfold cO;kernel_rfl
theorem Mr:cO cw 156 true 6:=by unfold cO;kernel_rfl
theorem Nv:cO cw 156 true 7:=by unfold cO;kernel_rfl
theorem Nn:cO cw 156 true 8:=by unfold cO;kernel_rfl
theorem OC:yd cw 156:=Bo λb j hj=>by
  cases b
  · match j,hj with
    |0,_=>exact MW
    |1,_=>exact MX
    |2,_=>exact L8
    |3,_=>exact Mk
    |4,_=>exact Mq
    |5,_=>exact M6
    |6,_=>exact L7
    |7,_=>exact L5
    |8,_=>exact L4
  · match j,hj with
    |0,_=>exact Mh
    |1,_=>exact K6
    |2,_=>exact Ml
    |3,_=>exact M8
    |4,_=>exact MB
    |5,_=>exact MI
    |6,_=>exact Mr
    |7,_=>exact Nv
    |8,_=>exact Nn
theorem KW:az cw dy 156 tM:=H9 OC
end Gv
