/- A part of the proof that the law is true of all its inputs, by an interpreter that is proved sound. -/
import Derived.Test.YtfaeljmkbadgdaaVw
import Derived.Test.YtfaeljmkbadgdaaVn
import Derived.KernelRfl
namespace Gv
theorem JP:cu cV 156 false 0:=by unfold cu;kernel_rfl
theorem Lt:cu cV 156 false 1:=by unfold cu;kernel_rfl
theorem K9:cu cV 156 false 2:=by unfold cu;kernel_rfl
theorem JY:cu cV 156 false 3:=by unfold cu;kernel_rfl
theorem LS:cu cV 156 false 4:=by unfold cu;kernel_rfl
theorem JN:cu cV 156 false 5:=by unfold cu;kernel_rfl
theorem Ku:cu cV 156 false 6:=by unfold cu;kernel_rfl
theorem KP:cu cV 156 false 7:=by unfold cu;kernel_rfl
theorem Ks:cu cV 156 false 8:=by unfold cu;kernel_rfl
theorem Lz:cu cV 156 true 0:=by unfold cu;kernel_rfl
theorem JI:cu cV 156 true 1:=by unfold cu;kernel_rfl
theorem JZ:cu cV 156 true 2:=by unfold cu;kernel_rfl
theorem Jz:cu cV 156 true 3:=by unfold cu;kernel_rfl
theorem LB:cu cV 156 true 4:=by unfold cu;kernel_rfl
theorem LC:cu cV 156 true 5:=by unfold cu;kernel_rfl
theorem Kg:cu cV 156 true 6:=by unfold cu;kernel_rfl
theorem Kx:cu cV 156 true 7:=by unfold cu;kernel_rfl
theorem JJ:cu cV 156 true 8:=by unfold cu;kernel_rfl
theorem Mf:xr cV 156:=AN λb j hj=>by
  cases b
  · match j,hj with
    |0,_=>exact JP
    |1,_=>exact Lt
    |2,_=>exact K9
    |3,_=>exact JY
    |4,_=>exact LS
    |5,_=>exact JN
    |6,_=>exact Ku
    |7,_=>exact KP
    |8,_=>exact Ks
  · match j,hj with
    |0,_=>exact Lz
    |1,_=>exact JI
    |2,_=>exact JZ
    |3,_=>exact Jz
    |4,_=>exact LB
    |5,_=>exact LC
    |6,_=>exact Kg
    |7,_=>exact Kx
    |8,_=>exact JJ
theorem KW:aF cV d9 156 rZ:=Hk Mf
end Gv
