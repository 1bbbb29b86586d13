/- What this file proves: one part of the proof that the law answers true for every input, by an interpreter that is proved sound against the given model. -/
import Derived.Test.YtldplidcfhphhaaAw
namespace Gv
open Go
theorem tuf : upto 13 (fun b => upto 11 (fun n => isYes (runG QTA 110 [.bool false, i6 n, i6 b]))) = true := by kernel_rfl
end Gv
