/- What this file proves: one part of the proof that the law answers true for every input, by an interpreter that is proved sound against the given model. -/
import Derived.Test.YtldplidcfhphhaaGreatAw
namespace Gv
open Go
theorem tc_1 : (isYes (runG QTA 204 [i6 1, .bool true]) && isYes (runG QTA 204 [i6 1, .bool false])) = true := by kernel_rfl
theorem tc_2 : (isYes (runG QTA 204 [i6 2, .bool true]) && isYes (runG QTA 204 [i6 2, .bool false])) = true := by kernel_rfl
theorem tc_3 : (isYes (runG QTA 204 [i6 3, .bool true]) && isYes (runG QTA 204 [i6 3, .bool false])) = true := by kernel_rfl
end Gv

namespace Gv
open Go
theorem tc_4 : (isYes (runG QTA 204 [i6 4, .bool true]) && isYes (runG QTA 204 [i6 4, .bool false])) = true := by kernel_rfl
theorem tc_5 : (isYes (runG QTA 204 [i6 5, .bool true]) && isYes (runG QTA 204 [i6 5, .bool false])) = true := by kernel_rfl
theorem tc_6 : (isYes (runG QTA 204 [i6 6, .bool true]) && isYes (runG QTA 204 [i6 6, .bool false])) = true := by kernel_rfl
end Gv
