/- What this file proves: one part of the proof that the law answers true for every input, by an interpreter that is proved sound against the given model. -/
import Derived.Test.YtldplidcfhphhaaAw
namespace Gv
open Go
theorem tut_7 : upto 11 (fun n => isYes (runG QTA 110 [.bool true, i6 n, i6 7])) = true := by kernel_rfl
theorem tut_8 : upto 11 (fun n => isYes (runG QTA 110 [.bool true, i6 n, i6 8])) = true := by kernel_rfl
theorem tut_9 : upto 11 (fun n => isYes (runG QTA 110 [.bool true, i6 n, i6 9])) = true := by kernel_rfl
end Gv
