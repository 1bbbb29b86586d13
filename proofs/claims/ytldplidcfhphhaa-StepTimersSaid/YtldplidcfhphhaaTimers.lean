/- What this file proves: one part of the proof that the law answers true for every input, by an interpreter that is proved sound against the given model. -/
import Derived.Test.YtldplidcfhphhaaAw
import Derived.Test.YtldplidcfhphhaaUf
import Derived.Test.YtldplidcfhphhaaUt
import Derived.Test.YtldplidcfhphhaaUu
import Derived.Test.YtldplidcfhphhaaUv
namespace Gv
open Go
abbrev tuS : Tn := [(0, 0), (1, 1), (2, 2), (16, 1), (19, 1), (23, 2), (27, 2)]
theorem tu_ob : obCode tuS (cutC 2 f_law11_StepTimers.body) = some [.bin .lss 1 (.int .i64 0) true, .bin .gtr 1 (.int .i64 10) true, .bin .lss 2 (.int .i64 0) true, .bin .gtr 2 (.int .i64 12) true] := by kernel_rfl
theorem tu_out : (isYes (runC QTL 2 110 q_law11_StepTimers [.bool false, i6 (-1), i6 (-1)]) && isYes (runC QTL 2 110 q_law11_StepTimers [.bool false, i6 (-1), i6 (0)]) && isYes (runC QTL 2 110 q_law11_StepTimers [.bool false, i6 (-1), i6 (13)]) && isYes (runC QTL 2 110 q_law11_StepTimers [.bool false, i6 (11), i6 (-1)]) && isYes (runC QTL 2 110 q_law11_StepTimers [.bool false, i6 (11), i6 (0)]) && isYes (runC QTL 2 110 q_law11_StepTimers [.bool false, i6 (11), i6 (13)]) && isYes (runC QTL 2 110 q_law11_StepTimers [.bool false, i6 (0), i6 (-1)]) && isYes (runC QTL 2 110 q_law11_StepTimers [.bool false, i6 (0), i6 (13)])) = true := by kernel_rfl
theorem tu_off {g : Bool} {a b : Int} (a' b' : Int) (h1 : a < 0 ↔ a' < 0) (h2 : 10 < a ↔ 10 < a') (h3 : b < 0 ↔ b' < 0) (h4 : 12 < b ↔ 12 < b') (h : isYes (runC QTL 2 110 q_law11_StepTimers [.bool false, i6 a', i6 b']) = true) : ∃ n, callE (tabOf FTL) n 110 [.bool g, i6 a, i6 b] [] = some (.bool true, []) := by
  refine yes_cut (q := q_law11_StepTimers) (S := tuS) (args' := [.bool false, i6 a', i6 b']) 2 QTL_map QTL_ok rfl rfl rfl tu_ob rfl rfl (fun t ht => ?_) (fun ob hob => ?_) h
  · match t, ht with
    | 0, _ => rfl
    | 1, _ => rfl
    | 2, _ => rfl
  · simp only [List.mem_cons, List.not_mem_nil, or_false] at hob
    rcases hob with rfl | rfl | rfl | rfl
    · exact lt_ob (a := a) (a' := a') rfl rfl h1
    · exact gt_ob (a := a) (a' := a') rfl rfl h2
    · exact lt_ob (a := b) (a' := b') rfl rfl h3
    · exact gt_ob (a := b) (a' := b') rfl rfl h4
end Gv

namespace Gv
open Go
theorem tut {b n : Int} (hb : 0 ≤ b) (hb' : b < 13) (hn : 0 ≤ n) (hn' : n < 11) : isYes (runG QTA 110 [.bool true, i6 n, i6 b]) = true := by
  have h : b = 0 ∨ b = 1 ∨ b = 2 ∨ b = 3 ∨ b = 4 ∨ b = 5 ∨ b = 6 ∨ b = 7 ∨ b = 8 ∨ b = 9 ∨ b = 10 ∨ b = 11 ∨ b = 12 := by omega
  rcases h with rfl | rfl | rfl | rfl | rfl | rfl | rfl | rfl | rfl | rfl | rfl | rfl | rfl
  · exact upto_ok (p := fun n => isYes (runG QTA 110 [.bool true, i6 n, i6 0])) tut_0 hn hn'
  · exact upto_ok (p := fun n => isYes (runG QTA 110 [.bool true, i6 n, i6 1])) tut_1 hn hn'
  · exact upto_ok (p := fun n => isYes (runG QTA 110 [.bool true, i6 n, i6 2])) tut_2 hn hn'
  · exact upto_ok (p := fun n => isYes (runG QTA 110 [.bool true, i6 n, i6 3])) tut_3 hn hn'
  · exact upto_ok (p := fun n => isYes (runG QTA 110 [.bool true, i6 n, i6 4])) tut_4 hn hn'
  · exact upto_ok (p := fun n => isYes (runG QTA 110 [.bool true, i6 n, i6 5])) tut_5 hn hn'
  · exact upto_ok (p := fun n => isYes (runG QTA 110 [.bool true, i6 n, i6 6])) tut_6 hn hn'
  · exact upto_ok (p := fun n => isYes (runG QTA 110 [.bool true, i6 n, i6 7])) tut_7 hn hn'
  · exact upto_ok (p := fun n => isYes (runG QTA 110 [.bool true, i6 n, i6 8])) tut_8 hn hn'
  · exact upto_ok (p := fun n => isYes (runG QTA 110 [.bool true, i6 n, i6 9])) tut_9 hn hn'
  · exact upto_ok (p := fun n => isYes (runG QTA 110 [.bool true, i6 n, i6 10])) tut_10 hn hn'
  · exact upto_ok (p := fun n => isYes (runG QTA 110 [.bool true, i6 n, i6 11])) tut_11 hn hn'
  · exact upto_ok (p := fun n => isYes (runG QTA 110 [.bool true, i6 n, i6 12])) tut_12 hn hn'
theorem tu_true (g : Bool) (n b : Int) : ∃ m, callE (tabOf FTL) m 110 [.bool g, i6 n, i6 b] [] = some (.bool true, []) := by
  have o := tu_out
  simp only [Bool.and_eq_true] at o
  obtain ⟨⟨⟨⟨⟨⟨⟨o1, o2⟩, o3⟩, o4⟩, o5⟩, o6⟩, o7⟩, o8⟩ := o
  by_cases n0 : n < 0
  · by_cases b0 : b < 0
    · exact tu_off (-1) (-1) (by omega) (by omega) (by omega) (by omega) o1
    by_cases b1 : 12 < b
    · exact tu_off (-1) 13 (by omega) (by omega) (by omega) (by omega) o3
    · exact tu_off (-1) 0 (by omega) (by omega) (by omega) (by omega) o2
  by_cases n1 : 10 < n
  · by_cases b0 : b < 0
    · exact tu_off 11 (-1) (by omega) (by omega) (by omega) (by omega) o4
    by_cases b1 : 12 < b
    · exact tu_off 11 13 (by omega) (by omega) (by omega) (by omega) o6
    · exact tu_off 11 0 (by omega) (by omega) (by omega) (by omega) o5
  by_cases b0 : b < 0
  · exact tu_off 0 (-1) (by omega) (by omega) (by omega) (by omega) o7
  by_cases b1 : 12 < b
  · exact tu_off 0 13 (by omega) (by omega) (by omega) (by omega) o8
  cases g with
  | false => exact good_a.yes (upto_ok (p := fun n => isYes (runG QTA 110 [.bool false, i6 n, i6 b])) (upto_ok (p := fun b => upto 11 fun n => isYes (runG QTA 110 [.bool false, i6 n, i6 b])) tuf (by omega) (by omega)) (by omega) (by omega))
  | true => exact good_a.yes (tut (by omega) (by omega) (by omega) (by omega))
end Gv
