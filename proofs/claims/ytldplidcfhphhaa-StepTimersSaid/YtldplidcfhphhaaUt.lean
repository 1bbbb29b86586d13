/- What this file proves: one part of the proof that the law answers true for every input, by an interpreter that is proved sound against the given model. -/
import Derived.Test.YtldplidcfhphhaaAw
namespace Gv
open Go
theorem tut_0 : upto 11 (fun n => isYes (runG QTA 110 [.bool true, i6 n, i6 0])) = true := by kernel_rfl
theorem tut_1 : upto 11 (fun n => isYes (runG QTA 110 [.bool true, i6 n, i6 1])) = true := by kernel_rfl
theorem tut_2 : upto 11 (fun n => isYes (runG QTA 110 [.bool true, i6 n, i6 2])) = true := by kernel_rfl
theorem tut_3 : upto 11 (fun n => isYes (runG QTA 110 [.bool true, i6 n, i6 3])) = true := by kernel_rfl
end Gv

namespace Gv
open Go
theorem tut_4 : upto 11 (fun n => isYes (runG QTA 110 [.bool true, i6 n, i6 4])) = true := by kernel_rfl
theorem tut_5 : upto 11 (fun n => isYes (runG QTA 110 [.bool true, i6 n, i6 5])) = true := by kernel_rfl
theorem tut_6 : upto 11 (fun n => isYes (runG QTA 110 [.bool true, i6 n, i6 6])) = true := by kernel_rfl
end Gv
