/- What this file proves: one part of the proof that the law answers true for every input, by an interpreter that is proved sound against the given model. -/
import Derived.Test.YtfaeljmkbadgdaaEc
import Derived.Test.YtfaeljmkbadgdaaIro
import Derived.Test.YtfaeljmkbadgdaaProg
import Derived.KernelRfl
namespace Gv
open Go
theorem tabW : TabOk Go.Proofs.Try.prog fid (tabOf FTL) := TabOk.of_list (by kernel_rfl) (by kernel_rfl)
end Gv
