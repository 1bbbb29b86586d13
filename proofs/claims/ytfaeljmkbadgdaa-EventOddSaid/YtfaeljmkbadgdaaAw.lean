/- What this file proves: one part of the proof that the law answers true for every input, by an interpreter that is proved sound against the given model. -/
import Derived.Test.YtfaeljmkbadgdaaEc
import Derived.Test.YtfaeljmkbadgdaaIro
import Derived.KernelRfl
namespace Gv
theorem awakeO : callE (tabOf FTL) 300 120 [] [] = some (.bool true, []) := by kernel_rfl
end Gv
