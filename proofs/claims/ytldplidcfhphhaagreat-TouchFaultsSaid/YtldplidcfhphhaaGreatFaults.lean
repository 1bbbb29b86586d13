/- What this file proves: one part of the proof that the law answers true for every input, by an interpreter that is proved sound against the given model. -/
import Derived.Test.YtldplidcfhphhaaGreatTa
import Derived.Test.YtldplidcfhphhaaGreatTb
import Derived.Test.YtldplidcfhphhaaGreatTc
import Derived.Test.YtldplidcfhphhaaGreatTd
namespace Gv
open Go
theorem four_ok {p : Int → Bool} (h : four p = true) {r : Int} (h0 : 0 ≤ r) (h1 : r < 4) : p r = true := by
  unfold four at h
  simp only [Bool.and_eq_true] at h
  obtain ⟨⟨⟨a, b⟩, c⟩, d⟩ := h
  have : r = 0 ∨ r = 1 ∨ r = 2 ∨ r = 3 := by omega
  rcases this with rfl | rfl | rfl | rfl
  · exact a
  · exact b
  · exact c
  · exact d
theorem tf_all {a x : Int} (ha : 0 ≤ a) (ha' : a < 4) (hx : 0 ≤ x) (hx' : x < 4) : four (fun b => four fun y => isYes (runG QTA 202 [i6 a, i6 b, i6 x, i6 y])) = true := by
  have h1 : a = 0 ∨ a = 1 ∨ a = 2 ∨ a = 3 := by omega
  have h2 : x = 0 ∨ x = 1 ∨ x = 2 ∨ x = 3 := by omega
  rcases h1 with rfl | rfl | rfl | rfl <;> rcases h2 with rfl | rfl | rfl | rfl
  · exact tf_00
  · exact tf_01
  · exact tf_02
  · exact tf_03
  · exact tf_10
  · exact tf_11
  · exact tf_12
  · exact tf_13
  · exact tf_20
  · exact tf_21
  · exact tf_22
  · exact tf_23
  · exact tf_30
  · exact tf_31
  · exact tf_32
  · exact tf_33
abbrev tfS : Tn := [(0, 0), (1, 1), (2, 2), (3, 3), (54, 0), (56, 1), (58, 2), (61, 3)]
theorem tf_ob : obCode tfS f_law12_TouchFaults.body = some [.call 23 0 [.int .i64 4], .call 23 1 [.int .i64 4], .call 23 2 [.int .i64 4], .call 23 3 [.int .i64 4]] := by kernel_rfl
theorem tf_true (a b x y : Int) : ∃ n, callE (tabOf FTL) n 202 [i6 a, i6 b, i6 x, i6 y] [] = some (.bool true, []) := by
  obtain ⟨a0, a1⟩ := rnd_bounds a 4 (by decide)
  obtain ⟨b0, b1⟩ := rnd_bounds b 4 (by decide)
  obtain ⟨x0, x1⟩ := rnd_bounds x 4 (by decide)
  obtain ⟨y0, y1⟩ := rnd_bounds y 4 (by decide)
  have key := four_ok (four_ok (tf_all a0 a1 x0 x1) b0 b1) y0 y1
  refine yes_swapE (F := f_law12_TouchFaults) (S := tfS) (args' := [i6 (rnd a 4), i6 (rnd b 4), i6 (rnd x 4), i6 (rnd y 4)]) rfl rfl tf_ob rfl rfl (fun t ht => ?_) (fun ob hob => ?_) (good_a.yes key)
  · match t, ht with
    | 0, _ => rfl
    | 1, _ => rfl
    | 2, _ => rfl
    | 3, _ => rfl
  · simp only [List.mem_cons, List.not_mem_nil, or_false] at hob
    rcases hob with rfl | rfl | rfl | rfl
    · exact round_ob (a := a) rfl (by decide) (by decide) rfl rfl
    · exact round_ob (a := b) rfl (by decide) (by decide) rfl rfl
    · exact round_ob (a := x) rfl (by decide) (by decide) rfl rfl
    · exact round_ob (a := y) rfl (by decide) (by decide) rfl rfl
end Gv
