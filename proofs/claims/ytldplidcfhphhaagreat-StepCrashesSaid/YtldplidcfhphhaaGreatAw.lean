/- What this file proves: one part of the proof that the law answers true for every input, by an interpreter that is proved sound against the given model. -/
import Derived.Test.YtldplidcfhphhaaGreatFb
import Derived.Test.YtldplidcfhphhaaGreatQi
import Derived.KernelRfl
namespace Gv
open Go
abbrev i6 (n : Int) : PV := .int .i64 n
theorem aw_yes : isYes (runG (tabQ QTL) 115 []) = true := by kernel_rfl
theorem aw_at : tabQ QTL 115 = some q_law11_awake := by kernel_rfl
noncomputable abbrev QTA : Nat → Option QF := memQ (tabQ QTL) 115 q_law11_awake yesO
theorem good_a : Good QTA (tabOf FTL) := (Good.base QTL_map QTL_ok).memYes aw_at aw_yes
end Gv
