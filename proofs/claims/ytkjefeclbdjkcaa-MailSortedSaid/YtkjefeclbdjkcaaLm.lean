/- What this file proves: one part of the proof that the law answers true for every input, by an interpreter that is proved sound against the given model. -/
import Derived.Test.YtkjefeclbdjkcaaMt
import Derived.Test.YtkjefeclbdjkcaaEc
import Derived.OpenShut
namespace Gv
open Go Go.ChangeShapes Go.WideShapes Go.RowKit
theorem VT.ct {c : CTy} {x : PV} (h : VT false [c] x) : CT c x := h.at_ 0 _ x rfl (by rw [cells_one (h.one rfl)]; rfl)
theorem ct_i64 {x : PV} (h : CT (.int .i64) x) : ∃ n : Int, x = .int .i64 n ∧ I64 n := by
 cases h with
 | int _ k hw =>
  obtain ⟨a, b⟩ := bounds_i64 hw
  exact ⟨k, rfl, a, b⟩
theorem slice_of {α : Type} {f : α → PV} {P : α → Prop} {ag : Bool} {cs : List CTy} (h : ∀ e, VT ag cs e → ∃ a, nrm e = f a ∧ pl e = true ∧ P a) {x : PV} (hx : CT (.slice ag cs) x) :
  ∃ l : List α, nrm x = .lst (l.map f) false ∧ pl x = true ∧ (∀ a ∈ l, P a) ∧ l.length ≤ maxLen := by
 cases hx with
 | nils => exact ⟨[], rfl, rfl, by simp, by simp⟩
 | lst _ _ es c0 h0 hl h1 h2 =>
  have key : ∀ es : List PV, (∀ e ∈ es, VT ag cs e) → ∃ l : List α, nrmL es = l.map f ∧ plL es = true ∧ (∀ a ∈ l, P a) ∧ l.length = es.length := by
   intro es
   induction es with
   | nil => intro _; exact ⟨[], rfl, rfl, by simp, rfl⟩
   | cons e es ih =>
    intro he
    obtain ⟨a, a1, a2, a3⟩ := h e (he e (by simp))
    obtain ⟨l, b1, b2, b3, b4⟩ := ih fun y hy => he y (by simp [hy])
    refine ⟨a :: l, by simp only [nrmL, List.map_cons, a1, b1], by simp only [plL, a2, b2, Bool.and_self], fun y hy => ?_, by simp [b4]⟩
    rcases List.mem_cons.1 hy with rfl | hy
    ·exact a3
    ·exact b3 y hy
  obtain ⟨l, b1, b2, b3, b4⟩ := key es fun e he => by
   obtain ⟨i, hi⟩ := List.getElem?_of_mem he
   obtain ⟨k1, k2, k3⟩ := h1 i e hi
   exact ⟨k1, k2, k3, fun j c x hj hx => h2 i e j c x hi hj hx⟩
  exact ⟨l, by simp only [nrm, b1], by simp only [pl, b2], b3, by omega⟩
theorem ct_ints {x : PV} (h : CT (.slice false [.int .i64]) x) : ∃ l : List Int, nrm x = eI l ∧ pl x = true ∧ ∀ y ∈ l, I64 y := by
 obtain ⟨l, h1, h2, h3, _⟩ := slice_of (f := fun n : Int => PV.int .i64 n) (P := I64) (fun e he => by
  obtain ⟨n, rfl, hn⟩ := ct_i64 he.ct
  exact ⟨n, rfl, rfl, hn⟩) h
 exact ⟨l, h1, h2, h3⟩
end Gv

namespace Gv
open Go Go.ChangeShapes Go.WideShapes Go.RowKit
theorem mailSorted_true {x0 : PV} (h0 : VT false [.slice false [.int .i64]] x0) : ∃ n, callE FTM n 9 [x0] [] = some (.bool true, []) := by
 obtain ⟨l, a1, a2, _⟩ := ct_ints h0.ct
 refine law_E tVT_ok (m := 13) (F := v_law8_MailSorted) (n := 1) rfl rfl (by simp only [plL, a2]; rfl) rfl ?_
 have e4 : nrmL [x0] = [eI l] := by simp only [nrmL, a1]
 rw [e4]
 exact sorts_V (m := 0) l
end Gv
