/- What this file proves: one part of the proof that the law answers true for every input, by an interpreter that is proved sound against the given model. -/
import Derived.Test.YtldplidcfhphhaaFb
import Derived.Test.YtldplidcfhphhaaQi
import Derived.KernelRfl
namespace Gv
open Go
abbrev i6 (n : Int) : PV := .int .i64 n
theorem aw_yes : isYes (runG (tabQ QTL) 115 []) = true := by kernel_rfl
theorem aw_at : tabQ QTL 115 = some q_law11_awake := by kernel_rfl
noncomputable abbrev QTA : Nat → Option QF := memQ (tabQ QTL) 115 q_law11_awake yesO
theorem good_a : Good QTA (tabOf FTL) := (Good.base QTL_map QTL_ok).memYes aw_at aw_yes
end Gv

namespace Gv
open Go
def upto : Nat → (Int → Bool) → Bool
  | 0, _ => true
  | n + 1, p => upto n p && p n
theorem upto_ok {p : Int → Bool} : ∀ {n : Nat}, upto n p = true → ∀ {r : Int}, 0 ≤ r → r < n → p r = true
  | 0, _, r, h0, h1 => by omega
  | n + 1, h, r, h0, h1 => by
    simp only [upto, Bool.and_eq_true] at h
    by_cases hr : r = n
    · rw [hr]; exact h.2
    · exact upto_ok h.1 h0 (by omega)
end Gv
