/- What this file proves: one part of the proof that the law answers true for every input, by an interpreter that is proved sound against the given model. -/
import Derived.Test.YtldplidcfhphhaaGreatAw
import Derived.Test.YtldplidcfhphhaaGreatCa
import Derived.Test.YtldplidcfhphhaaGreatCb
namespace Gv
open Go
abbrev tcS : Tn := [(0, 0), (1, 1), (13, 0), (16, 0)]
theorem tc_ob : obCode tcS (cutC 2 f_law11_StepCrashes.body) = some [.bin .lss 0 (.int .i64 1) true, .bin .gtr 0 (.int .i64 10) true] := by kernel_rfl
theorem tc_out : (isYes (runC QTL 2 204 q_law11_StepCrashes [i6 0, .bool false]) && isYes (runC QTL 2 204 q_law11_StepCrashes [i6 11, .bool false])) = true := by kernel_rfl
theorem tc_off {g : Bool} {a : Int} (a' : Int) (h1 : a < 1 ↔ a' < 1) (h2 : 10 < a ↔ 10 < a') (h : isYes (runC QTL 2 204 q_law11_StepCrashes [i6 a', .bool false]) = true) : ∃ n, callE (tabOf FTL) n 204 [i6 a, .bool g] [] = some (.bool true, []) := by
  refine yes_cut (q := q_law11_StepCrashes) (S := tcS) (args' := [i6 a', .bool false]) 2 QTL_map QTL_ok rfl rfl rfl tc_ob rfl rfl (fun t ht => ?_) (fun ob hob => ?_) h
  · match t, ht with
    | 0, _ => rfl
    | 1, _ => rfl
  · simp only [List.mem_cons, List.not_mem_nil, or_false] at hob
    rcases hob with rfl | rfl
    · exact lt_ob (a := a) (a' := a') rfl rfl h1
    · exact gt_ob (a := a) (a' := a') rfl rfl h2
end Gv

namespace Gv
open Go
theorem tct {n : Int} (g : Bool) (hn : 1 ≤ n) (hn' : n < 11) : isYes (runG QTA 204 [i6 n, .bool g]) = true := by
  have h : n = 1 ∨ n = 2 ∨ n = 3 ∨ n = 4 ∨ n = 5 ∨ n = 6 ∨ n = 7 ∨ n = 8 ∨ n = 9 ∨ n = 10 := by omega
  have pick : ∀ {x y : Bool}, (x && y) = true → x = true ∧ y = true := fun h => by simpa [Bool.and_eq_true] using h
  rcases h with rfl | rfl | rfl | rfl | rfl | rfl | rfl | rfl | rfl | rfl
  · cases g with
    | false => exact (pick tc_1).2
    | true => exact (pick tc_1).1
  · cases g with
    | false => exact (pick tc_2).2
    | true => exact (pick tc_2).1
  · cases g with
    | false => exact (pick tc_3).2
    | true => exact (pick tc_3).1
  · cases g with
    | false => exact (pick tc_4).2
    | true => exact (pick tc_4).1
  · cases g with
    | false => exact (pick tc_5).2
    | true => exact (pick tc_5).1
  · cases g with
    | false => exact (pick tc_6).2
    | true => exact (pick tc_6).1
  · cases g with
    | false => exact (pick tc_7).2
    | true => exact (pick tc_7).1
  · cases g with
    | false => exact (pick tc_8).2
    | true => exact (pick tc_8).1
  · cases g with
    | false => exact (pick tc_9).2
    | true => exact (pick tc_9).1
  · cases g with
    | false => exact (pick tc_10).2
    | true => exact (pick tc_10).1
theorem tc_true (n : Int) (g : Bool) : ∃ m, callE (tabOf FTL) m 204 [i6 n, .bool g] [] = some (.bool true, []) := by
  have o := tc_out
  simp only [Bool.and_eq_true] at o
  by_cases n0 : n < 1
  · exact tc_off 0 (by omega) (by omega) o.1
  by_cases n1 : 10 < n
  · exact tc_off 11 (by omega) (by omega) o.2
  exact good_a.yes (tct g (by omega) (by omega))
end Gv
