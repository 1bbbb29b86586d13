/- What this file proves: one part of the proof that the law answers true for every input, by an interpreter that is proved sound against the given model. -/
import Derived.Test.YtfaeljmkbadgdaaIro
import Derived.Test.YtfaeljmkbadgdaaVn
import Derived.KernelRfl
namespace Gv
theorem rc_f0 : RepCh (tabOf FTL) 156 false 0 := by unfold RepCh; kernel_rfl
theorem rc_t0 : RepCh (tabOf FTL) 156 true 0 := by unfold RepCh; kernel_rfl
theorem repO : RepRuns (tabOf FTL) 156 := repRuns_of fun b j hj => by
  obtain rfl : j = 0 := by omega
  cases b
  · exact rc_f0
  · exact rc_t0
end Gv
