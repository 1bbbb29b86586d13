/- What this file proves: one part of the proof that the law answers true for every input, by an interpreter that is proved sound against the given model. -/
import Derived.Test.YtkjefeclbdjkcaaEc
import Derived.Test.YtkjefeclbdjkcaaIrv
import Derived.KernelRfl
namespace Gv
theorem awakeV : callE (tabOf FTL) 300 10 [] [] = some (.bool true, []) := by kernel_rfl
end Gv
