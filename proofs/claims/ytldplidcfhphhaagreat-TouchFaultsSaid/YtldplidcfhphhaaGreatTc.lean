/- What this file proves: one part of the proof that the law answers true for every input, by an interpreter that is proved sound against the given model. -/
import Derived.Test.YtldplidcfhphhaaGreatAw
namespace Gv
open Go
theorem tf_20 : four (fun b => four fun y => isYes (runG QTA 202 [i6 2, i6 b, i6 0, i6 y])) = true := by kernel_rfl
theorem tf_21 : four (fun b => four fun y => isYes (runG QTA 202 [i6 2, i6 b, i6 1, i6 y])) = true := by kernel_rfl
theorem tf_22 : four (fun b => four fun y => isYes (runG QTA 202 [i6 2, i6 b, i6 2, i6 y])) = true := by kernel_rfl
theorem tf_23 : four (fun b => four fun y => isYes (runG QTA 202 [i6 2, i6 b, i6 3, i6 y])) = true := by kernel_rfl
end Gv
