/- What this file proves: one part of the proof that the law answers true for every input, by an interpreter that is proved sound against the given model. -/
import Derived.Test.YtldplidcfhphhaaGreatAw
namespace Gv
open Go
theorem tc_7 : (isYes (runG QTA 204 [i6 7, .bool true]) && isYes (runG QTA 204 [i6 7, .bool false])) = true := by kernel_rfl
theorem tc_8 : (isYes (runG QTA 204 [i6 8, .bool true]) && isYes (runG QTA 204 [i6 8, .bool false])) = true := by kernel_rfl
end Gv

namespace Gv
open Go
theorem tc_9 : (isYes (runG QTA 204 [i6 9, .bool true]) && isYes (runG QTA 204 [i6 9, .bool false])) = true := by kernel_rfl
theorem tc_10 : (isYes (runG QTA 204 [i6 10, .bool true]) && isYes (runG QTA 204 [i6 10, .bool false])) = true := by kernel_rfl
end Gv
