/- What this file proves: one part of the proof that the law answers true for every input, by an interpreter that is proved sound against the given model. -/
import Derived.Test.YtkjefeclbdjkcaaWc
import Derived.Test.YtkjefeclbdjkcaaEc
import Derived.OpenShut
import Derived.Test.YtkjefeclbdjkcaaVw
namespace Gv
open Go Go.ChangeShapes Go.WideShapes Go.RowKit
theorem VT.ct {c : CTy} {x : PV} (h : VT false [c] x) : CT c x := h.at_ 0 _ x rfl (by rw [cells_one (h.one rfl)]; rfl)
theorem ct_i64 {x : PV} (h : CT (.int .i64) x) : ∃ n : Int, x = .int .i64 n ∧ I64 n := by
 cases h with
 | int _ k hw =>
  obtain ⟨a, b⟩ := bounds_i64 hw
  exact ⟨k, rfl, a, b⟩
theorem ct_bool {x : PV} (h : CT .bool x) : ∃ b : Bool, x = .bool b := by cases h with | bool b => exact ⟨b, rfl⟩
theorem slice_of {α : Type} {f : α → PV} {P : α → Prop} {ag : Bool} {cs : List CTy} (h : ∀ e, VT ag cs e → ∃ a, nrm e = f a ∧ pl e = true ∧ P a) {x : PV} (hx : CT (.slice ag cs) x) :
  ∃ l : List α, nrm x = .lst (l.map f) false ∧ pl x = true ∧ (∀ a ∈ l, P a) ∧ l.length ≤ maxLen := by
 cases hx with
 | nils => exact ⟨[], rfl, rfl, by simp, by simp⟩
 | lst _ _ es c0 h0 hl h1 h2 =>
  have key : ∀ es : List PV, (∀ e ∈ es, VT ag cs e) → ∃ l : List α, nrmL es = l.map f ∧ plL es = true ∧ (∀ a ∈ l, P a) ∧ l.length = es.length := by
   intro es
   induction es with
   | nil => intro _; exact ⟨[], rfl, rfl, by simp, rfl⟩
   | cons e es ih =>
    intro he
    obtain ⟨a, a1, a2, a3⟩ := h e (he e (by simp))
    obtain ⟨l, b1, b2, b3, b4⟩ := ih fun y hy => he y (by simp [hy])
    refine ⟨a :: l, by simp only [nrmL, List.map_cons, a1, b1], by simp only [plL, a2, b2, Bool.and_self], fun y hy => ?_, by simp [b4]⟩
    rcases List.mem_cons.1 hy with rfl | hy
    ·exact a3
    ·exact b3 y hy
  obtain ⟨l, b1, b2, b3, b4⟩ := key es fun e he => by
   obtain ⟨i, hi⟩ := List.getElem?_of_mem he
   obtain ⟨k1, k2, k3⟩ := h1 i e hi
   exact ⟨k1, k2, k3, fun j c x hj hx => h2 i e j c x hi hj hx⟩
  exact ⟨l, by simp only [nrm, b1], by simp only [pl, b2], b3, by omega⟩
theorem vt_agg {cs : List CTy} {e : PV} (h : VT true cs e) : ∃ xs, e = .agg xs ∧ xs.length = cs.length ∧ ∀ (j : Nat) (c : CTy) (x : PV), cs[j]? = some c → xs[j]? = some x → CT c x := by
 obtain ⟨xs, rfl⟩ := h.agg rfl
 exact ⟨xs, rfl, h.len, h.at_⟩
theorem cell_slice {ag : Bool} {cs : List CTy} {x : PV} (h : CT (.slice ag cs) x) : x.isCell = true := by cases h <;> rfl
theorem ct_ints {x : PV} (h : CT (.slice false [.int .i64]) x) : ∃ l : List Int, nrm x = eI l ∧ pl x = true ∧ ∀ y ∈ l, I64 y := by
 obtain ⟨l, h1, h2, h3, _⟩ := slice_of (f := fun n : Int => PV.int .i64 n) (P := I64) (fun e he => by
  obtain ⟨n, rfl, hn⟩ := ct_i64 he.ct
  exact ⟨n, rfl, rfl, hn⟩) h
 exact ⟨l, h1, h2, h3⟩
theorem ct_code {x : PV} (h : CT (.slice true [.int .i64, .int .i64]) x) : ∃ l : List SInstr, nrm x = eCode l ∧ pl x = true ∧ ∀ y ∈ l, y.ok := by
 obtain ⟨l, h1, h2, h3, _⟩ := slice_of (f := eInstr) (P := SInstr.ok) (fun e he => by
  obtain ⟨xs, rfl, hl, hc⟩ := vt_agg he
  match xs, hl with
  | [x0, x1], _ =>
   obtain ⟨n0, rfl, a0⟩ := ct_i64 (hc 0 _ _ rfl rfl)
   obtain ⟨n1, rfl, a1⟩ := ct_i64 (hc 1 _ _ rfl rfl)
   exact ⟨⟨n0, n1⟩, rfl, rfl, a0, a1⟩) h
 exact ⟨l, h1, h2, h3⟩
theorem ct_handlers {x : PV} (h : CT (.slice true [.int .i64, .slice true [.int .i64, .int .i64]]) x) : ∃ l : List SHandler, nrm x = eHs l ∧ pl x = true ∧ ∀ y ∈ l, y.ok := by
 obtain ⟨l, h1, h2, h3, _⟩ := slice_of (f := eHandler) (P := SHandler.ok) (fun e he => by
  obtain ⟨xs, rfl, hl, hc⟩ := vt_agg he
  match xs, hl with
  | [x0, x1], _ =>
   obtain ⟨n0, rfl, a0⟩ := ct_i64 (hc 0 _ _ rfl rfl)
   obtain ⟨l1, b1, b2, b3⟩ := ct_code (hc 1 _ _ rfl rfl)
   exact ⟨⟨n0, l1⟩, by simp only [nrm, nrmL, b1, eHandler], by simp only [pl, plL, b2, okCells, cell_slice (hc 1 _ _ rfl rfl), cell_int, Bool.and_self], a0, b3⟩) h
 exact ⟨l, h1, h2, h3⟩
theorem ct_actors {x : PV} (h : CT (.slice true [.slice false [.int .i64], .int .i64, .int .i64, .bool]) x) : ∃ l : List SActor, nrm x = eAs l ∧ pl x = true ∧ ∀ y ∈ l, y.ok := by
 obtain ⟨l, h1, h2, h3, _⟩ := slice_of (f := eActor) (P := SActor.ok) (fun e he => by
  obtain ⟨xs, rfl, hl, hc⟩ := vt_agg he
  match xs, hl with
  | [x0, x1, x2, x3], _ =>
   obtain ⟨l0, b1, b2, b3⟩ := ct_ints (hc 0 _ _ rfl rfl)
   obtain ⟨n1, rfl, a1⟩ := ct_i64 (hc 1 _ _ rfl rfl)
   obtain ⟨n2, rfl, a2⟩ := ct_i64 (hc 2 _ _ rfl rfl)
   obtain ⟨n3, rfl⟩ := ct_bool (hc 3 _ _ rfl rfl)
   exact ⟨⟨l0, n1, n2, n3⟩, by simp only [nrm, nrmL, b1, eActor], by simp only [pl, plL, b2, okCells, cell_slice (hc 0 _ _ rfl rfl), cell_int, cell_bool, Bool.and_self], b3, a1, a2⟩) h
 exact ⟨l, h1, h2, h3⟩
theorem ct_notes {x : PV} (h : CT (.slice true [.int .i64, .int .i64, .slice false [.int .i64]]) x) : ∃ l : List SNote, nrm x = eNs l ∧ pl x = true ∧ ∀ y ∈ l, y.ok := by
 obtain ⟨l, h1, h2, h3, _⟩ := slice_of (f := eNote) (P := SNote.ok) (fun e he => by
  obtain ⟨xs, rfl, hl, hc⟩ := vt_agg he
  match xs, hl with
  | [x0, x1, x2], _ =>
   obtain ⟨n0, rfl, a0⟩ := ct_i64 (hc 0 _ _ rfl rfl)
   obtain ⟨n1, rfl, a1⟩ := ct_i64 (hc 1 _ _ rfl rfl)
   obtain ⟨l2, b1, b2, b3⟩ := ct_ints (hc 2 _ _ rfl rfl)
   exact ⟨⟨n0, n1, l2⟩, by simp only [nrm, nrmL, b1, eNote], by simp only [pl, plL, b2, okCells, cell_slice (hc 2 _ _ rfl rfl), cell_int, Bool.and_self], a0, a1, b3⟩) h
 exact ⟨l, h1, h2, h3⟩
theorem ct_watches {x : PV} (h : CT (.slice false [.slice true [.int .i64, .int .i64]]) x) : ∃ l : List (List SInstr), nrm x = eWs l ∧ pl x = true ∧ ∀ y ∈ l, ∀ i ∈ y, i.ok := by
 obtain ⟨l, h1, h2, h3, _⟩ := slice_of (f := eCode) (P := fun w => ∀ i ∈ w, i.ok) (fun e he => ct_code he.ct) h
 exact ⟨l, h1, h2, h3⟩
theorem vt_task {e : PV} (h : VT true [.slice true [.int .i64, .slice true [.int .i64, .int .i64]], .slice true [.slice false [.int .i64], .int .i64, .int .i64, .bool], .slice true [.int .i64, .int .i64, .slice false [.int .i64]], .int .i64, .slice false [.slice true [.int .i64, .int .i64]], .int .i64, .int .i64, .int .i64, .int .i64, .int .i64, .int .i64] e) : ∃ t : STask, nrm e = eTask t ∧ pl e = true ∧ t.ok := by
 obtain ⟨xs, rfl, hl, hc⟩ := vt_agg h
 match xs, hl with
 | [x0, x1, x2, x3, x4, x5, x6, x7, x8, x9, x10], _ =>
  obtain ⟨hs, a1, a2, a3⟩ := ct_handlers (hc 0 _ _ rfl rfl)
  obtain ⟨as, b1, b2, b3⟩ := ct_actors (hc 1 _ _ rfl rfl)
  obtain ⟨ns, c1, c2, c3⟩ := ct_notes (hc 2 _ _ rfl rfl)
  obtain ⟨n3, rfl, k3⟩ := ct_i64 (hc 3 _ _ rfl rfl)
  obtain ⟨ws, d1, d2, d3⟩ := ct_watches (hc 4 _ _ rfl rfl)
  obtain ⟨n5, rfl, k5⟩ := ct_i64 (hc 5 _ _ rfl rfl)
  obtain ⟨n6, rfl, k6⟩ := ct_i64 (hc 6 _ _ rfl rfl)
  obtain ⟨n7, rfl, k7⟩ := ct_i64 (hc 7 _ _ rfl rfl)
  obtain ⟨n8, rfl, k8⟩ := ct_i64 (hc 8 _ _ rfl rfl)
  obtain ⟨n9, rfl, k9⟩ := ct_i64 (hc 9 _ _ rfl rfl)
  obtain ⟨n10, rfl, k10⟩ := ct_i64 (hc 10 _ _ rfl rfl)
  exact ⟨⟨⟨hs, as, ns, n3⟩, ws, ⟨n5, n6, n7, n8⟩, ⟨n9, n10⟩⟩, by simp only [nrm, nrmL, a1, b1, c1, d1, eTask_eq], by simp only [pl, plL, a2, b2, c2, d2, okCells, cell_slice (hc 0 _ _ rfl rfl), cell_slice (hc 1 _ _ rfl rfl), cell_slice (hc 2 _ _ rfl rfl), cell_slice (hc 4 _ _ rfl rfl), cell_int, Bool.and_self], ⟨a3, b3, c3, k3⟩, d3, ⟨k5, k6, k7, k8⟩, k9, k10⟩
end Gv

namespace Gv
open Go
theorem wireBack_true {x0 x1 x2 x3 : PV} (h0 : VT true [.slice true [.int .i64, .slice true [.int .i64, .int .i64]], .slice true [.slice false [.int .i64], .int .i64, .int .i64, .bool], .slice true [.int .i64, .int .i64, .slice false [.int .i64]], .int .i64, .slice false [.slice true [.int .i64, .int .i64]], .int .i64, .int .i64, .int .i64, .int .i64, .int .i64, .int .i64] x0) (h1 : VT false [.int .i64] x1) (h2 : VT false [.int .i64] x2) (h3 : VT false [.int .i64] x3) : ∃ n, callE (tabOf FTL) n 2 [x0, x1, x2, x3] [] = some (.bool true, []) := by
 obtain ⟨t, a1, a2, a3⟩ := vt_task h0
 obtain ⟨n1, rfl, _⟩ := ct_i64 h1.ct
 obtain ⟨n2, rfl, _⟩ := ct_i64 h2.ct
 obtain ⟨n3, rfl, _⟩ := ct_i64 h3.ct
 refine law_E tVT_ok (m := 7) (F := v_law22_WireBack) (n := 4) rfl rfl (by simp only [plL, a2]; rfl) rfl ?_
 have e4 : nrmL [x0, .int .i64 n1, .int .i64 n2, .int .i64 n3] = [eTask t, .int .i64 n1, .int .i64 n2, .int .i64 n3] := by simp only [nrmL, a1, nrm]
 rw [e4]
 exact wireBack_V (m := 0) a3 (fun n => rfl)
end Gv
