/- What this file proves: one part of the proof that the law answers true for every input, by an interpreter that is proved sound against the given model. -/
import Derived.Test.YtldplidcfhphhaaFa
import Derived.Test.YtldplidcfhphhaaIr
import Derived.KernelRfl
namespace Gv
open Go
abbrev i6 (n : Int) : PV := .int .i64 n
theorem dn_all : (isYes (callK (tabOf FTL) 1000 60 113 [i6 0, i6 0] []) && isYes (callK (tabOf FTL) 1000 60 113 [i6 0, i6 1] []) && isYes (callK (tabOf FTL) 1000 60 113 [i6 1, i6 0] []) && isYes (callK (tabOf FTL) 1000 60 113 [i6 1, i6 1] [])
  && isYes (callK (tabOf FTL) 1000 60 113 [i6 2, i6 0] []) && isYes (callK (tabOf FTL) 1000 60 113 [i6 2, i6 1] []) && isYes (callK (tabOf FTL) 1000 60 113 [i6 3, i6 0] []) && isYes (callK (tabOf FTL) 1000 60 113 [i6 3, i6 1] [])
  && isYes (callK (tabOf FTL) 1000 60 113 [i6 4, i6 0] []) && isYes (callK (tabOf FTL) 1000 60 113 [i6 4, i6 1] [])) = true := by kernel_rfl
abbrev dnCut : Nat → Option IFun := setF (tabOf FTL) 113 (cutF 2 f_law10_EventDown)
theorem dn_out : (isYes (callK dnCut 1000 60 113 [i6 (-1), i6 0] []) && isYes (callK dnCut 1000 60 113 [i6 5, i6 0] [])) = true := by kernel_rfl
theorem dn_ob : obCode [(1, 1), (36, 1)] f_law10_EventDown.body = some [.call 23 1 [.int .i64 2]] := by kernel_rfl
theorem dn_obc : obCode [(0, 0), (15, 0), (18, 0), (1, 1)] (cutC 2 f_law10_EventDown.body) = some [.bin .lss 0 (.int .i64 0) true, .bin .gtr 0 (.int .i64 4) true] := by kernel_rfl
theorem dn_in {a b : Int} (h : ∀ r, r = 0 ∨ r = 1 → isYes (callK (tabOf FTL) 1000 60 113 [i6 a, i6 r] []) = true) : ∃ n, callE (tabOf FTL) n 113 [i6 a, i6 b] [] = some (.bool true, []) := by
  obtain ⟨b0, b1⟩ := rnd_bounds b 2 (by decide)
  refine yes_swap (F := f_law10_EventDown) (args' := [i6 a, i6 (rnd b 2)]) rfl rfl dn_ob rfl rfl (fun t ht => ?_) (fun ob hob => ?_) (h _ (by omega))
  · match t, ht with
    | 0, _ => rfl
    | 1, _ => rfl
  · obtain rfl := List.mem_singleton.1 hob
    exact round_ob (a := b) rfl (by decide) (by decide) rfl rfl
theorem dn_off {a b a' : Int} (h1 : a < 0 ↔ a' < 0) (h2 : 4 < a ↔ 4 < a') (h : isYes (callK dnCut 1000 60 113 [i6 a', i6 0] []) = true) : ∃ n, callE (tabOf FTL) n 113 [i6 a, i6 b] [] = some (.bool true, []) := by
  refine yes_cut (F := f_law10_EventDown) (args' := [i6 a', i6 0]) 2 rfl rfl dn_obc rfl rfl (fun t ht => ?_) (fun ob hob => ?_) h
  · match t, ht with
    | 0, _ => rfl
    | 1, _ => rfl
  · simp only [List.mem_cons, List.not_mem_nil, or_false] at hob
    rcases hob with rfl | rfl
    · exact lt_ob (a := a) (a' := a') rfl rfl h1
    · exact gt_ob (a := a) (a' := a') rfl rfl h2
theorem down_true (a b : Int) : ∃ n, callE (tabOf FTL) n 113 [i6 a, i6 b] [] = some (.bool true, []) := by
  have d := dn_all
  have o := dn_out
  simp only [Bool.and_eq_true] at d o
  by_cases h0 : a < 0
  · exact dn_off (a' := -1) (by omega) (by omega) o.1
  by_cases h4 : 4 < a
  · exact dn_off (a' := 5) (by omega) (by omega) o.2
  have : a = 0 ∨ a = 1 ∨ a = 2 ∨ a = 3 ∨ a = 4 := by omega
  obtain ⟨⟨⟨⟨⟨⟨⟨⟨⟨d0, d1⟩, d2⟩, d3⟩, d4⟩, d5⟩, d6⟩, d7⟩, d8⟩, d9⟩ := d
  rcases this with rfl | rfl | rfl | rfl | rfl
  · refine dn_in fun r hr => ?_
    rcases hr with rfl | rfl
    · exact d0
    · exact d1
  · refine dn_in fun r hr => ?_
    rcases hr with rfl | rfl
    · exact d2
    · exact d3
  · refine dn_in fun r hr => ?_
    rcases hr with rfl | rfl
    · exact d4
    · exact d5
  · refine dn_in fun r hr => ?_
    rcases hr with rfl | rfl
    · exact d6
    · exact d7
  · refine dn_in fun r hr => ?_
    rcases hr with rfl | rfl
    · exact d8
    · exact d9
end Gv
