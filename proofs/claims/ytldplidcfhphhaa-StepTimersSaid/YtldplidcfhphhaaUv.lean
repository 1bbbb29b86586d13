/- What this file proves: one part of the proof that the law answers true for every input, by an interpreter that is proved sound against the given model. -/
import Derived.Test.YtldplidcfhphhaaAw
namespace Gv
open Go
theorem tut_10 : upto 11 (fun n => isYes (runG QTA 110 [.bool true, i6 n, i6 10])) = true := by kernel_rfl
theorem tut_11 : upto 11 (fun n => isYes (runG QTA 110 [.bool true, i6 n, i6 11])) = true := by kernel_rfl
theorem tut_12 : upto 11 (fun n => isYes (runG QTA 110 [.bool true, i6 n, i6 12])) = true := by kernel_rfl
end Gv
