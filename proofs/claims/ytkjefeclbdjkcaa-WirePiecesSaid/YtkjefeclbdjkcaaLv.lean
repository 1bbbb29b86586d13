/- What this file proves: one part of the proof that the law answers true for every input, by an interpreter that is proved sound against the given model. -/
import Derived.Test.YtkjefeclbdjkcaaWa
import Derived.Test.YtkjefeclbdjkcaaEc
import Derived.OpenShut
import Derived.Test.YtkjefeclbdjkcaaVw
namespace Gv
open Go Go.ChangeShapes Go.WideShapes Go.RowKit
theorem VT.ct {c : CTy} {x : PV} (h : VT false [c] x) : CT c x := h.at_ 0 _ x rfl (by rw [cells_one (h.one rfl)]; rfl)
theorem ct_i64 {x : PV} (h : CT (.int .i64) x) : ∃ n : Int, x = .int .i64 n ∧ I64 n := by
  cases h with
  | int _ k hw =>
    obtain ⟨a, b⟩ := bounds_i64 hw
    exact ⟨k, rfl, a, b⟩
theorem ct_u8 {x : PV} (h : CT (.int .u8) x) : ∃ n : Nat, x = .int .u8 n ∧ n < 256 := by
  cases h with
  | int _ k hw =>
    obtain ⟨a, b⟩ := bounds_u8 hw
    exact ⟨k.toNat, by congr 1; omega, by omega⟩
theorem ct_bool {x : PV} (h : CT .bool x) : ∃ b : Bool, x = .bool b := by cases h with | bool b => exact ⟨b, rfl⟩
/-- A list of a type, out of its elements. -/
theorem slice_of {α : Type} {f : α → PV} {P : α → Prop} {ag : Bool} {cs : List CTy} (h : ∀ e, VT ag cs e → ∃ a, nrm e = f a ∧ pl e = true ∧ P a) {x : PV} (hx : CT (.slice ag cs) x) :
    ∃ l : List α, nrm x = .lst (l.map f) false ∧ pl x = true ∧ (∀ a ∈ l, P a) ∧ l.length ≤ maxLen := by
  cases hx with
  | nils => exact ⟨[], rfl, rfl, by simp, by simp⟩
  | lst _ _ es c0 h0 hl h1 h2 =>
    have key : ∀ es : List PV, (∀ e ∈ es, VT ag cs e) → ∃ l : List α, nrmL es = l.map f ∧ plL es = true ∧ (∀ a ∈ l, P a) ∧ l.length = es.length := by
      intro es
      induction es with
      | nil => intro _; exact ⟨[], rfl, rfl, by simp, rfl⟩
      | cons e es ih =>
        intro he
        obtain ⟨a, a1, a2, a3⟩ := h e (he e (by simp))
        obtain ⟨l, b1, b2, b3, b4⟩ := ih fun y hy => he y (by simp [hy])
        refine ⟨a :: l, by simp only [nrmL, List.map_cons, a1, b1], by simp only [plL, a2, b2, Bool.and_self], fun y hy => ?_, by simp [b4]⟩
        rcases List.mem_cons.1 hy with rfl | hy
        · exact a3
        · exact b3 y hy
    obtain ⟨l, b1, b2, b3, b4⟩ := key es fun e he => by
      obtain ⟨i, hi⟩ := List.getElem?_of_mem he
      obtain ⟨k1, k2, k3⟩ := h1 i e hi
      exact ⟨k1, k2, k3, fun j c x hj hx => h2 i e j c x hi hj hx⟩
    exact ⟨l, by simp only [nrm, b1], by simp only [pl, b2], b3, by omega⟩
theorem vt_agg {cs : List CTy} {e : PV} (h : VT true cs e) : ∃ xs, e = .agg xs ∧ xs.length = cs.length ∧ ∀ (j : Nat) (c : CTy) (x : PV), cs[j]? = some c → xs[j]? = some x → CT c x := by
  obtain ⟨xs, rfl⟩ := h.agg rfl
  exact ⟨xs, rfl, h.len, h.at_⟩
theorem ct_bytes {x : PV} (h : CT (.slice false [.int .u8]) x) : ∃ b : List Nat, nrm x = eB b ∧ pl x = true ∧ ∀ y ∈ b, y < 256 := by
  obtain ⟨l, h1, h2, h3, _⟩ := slice_of (f := fun n : Nat => PV.int .u8 n) (P := fun n => n < 256) (fun e he => by
    obtain ⟨n, rfl, hn⟩ := ct_u8 he.ct
    exact ⟨n, rfl, rfl, hn⟩) h
  exact ⟨l, h1, h2, h3⟩
theorem vt_event {e : PV} (h : VT true [.int .i64, .int .i64, .int .i64, .int .i64, .int .i64] e) : ∃ a : SEvent, nrm e = eEvent a ∧ pl e = true ∧ a.ok := by
  obtain ⟨xs, rfl, hl, hc⟩ := vt_agg h
  match xs, hl with
  | [x0, x1, x2, x3, x4], _ =>
    obtain ⟨n0, rfl, a0⟩ := ct_i64 (hc 0 _ _ rfl rfl)
    obtain ⟨n1, rfl, a1⟩ := ct_i64 (hc 1 _ _ rfl rfl)
    obtain ⟨n2, rfl, a2⟩ := ct_i64 (hc 2 _ _ rfl rfl)
    obtain ⟨n3, rfl, a3⟩ := ct_i64 (hc 3 _ _ rfl rfl)
    obtain ⟨n4, rfl, a4⟩ := ct_i64 (hc 4 _ _ rfl rfl)
    exact ⟨⟨n0, ⟨n1, n2, n3⟩, n4⟩, rfl, rfl, a0, ⟨a1, a2, a3⟩, a4⟩
theorem ct_events {x : PV} (h : CT (.slice true [.int .i64, .int .i64, .int .i64, .int .i64, .int .i64]) x) : ∃ l : List SEvent, nrm x = eEvents l ∧ pl x = true ∧ ∀ e ∈ l, e.ok := by
  obtain ⟨l, h1, h2, h3, _⟩ := slice_of (f := eEvent) (P := SEvent.ok) (fun e he => vt_event he) h
  exact ⟨l, h1, h2, h3⟩
end Gv

namespace Gv
open Go
theorem wirePieces_true {x0 x1 : PV} (h0 : VT false [.slice true [.int .i64, .int .i64, .int .i64, .int .i64, .int .i64]] x0) (h1 : VT false [.int .i64] x1) : ∃ n, callE (tabOf FTL) n 6 [x0, x1] [] = some (.bool true, []) := by
  obtain ⟨l, a1, a2, a3⟩ := ct_events h0.ct
  obtain ⟨n, rfl, b3⟩ := ct_i64 h1.ct
  refine law_E tVT_ok (m := 7) (F := v_law22_WirePieces) (n := 2) rfl rfl (by simp only [plL, a2]; rfl) rfl ?_
  have e4 : nrmL [x0, .int .i64 n] = [eEvents l, .int .i64 n] := by simp only [nrmL, nrm, a1]
  rw [e4]
  exact wirePieces_V (m := 0) a3
end Gv
