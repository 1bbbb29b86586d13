/- What this file proves: one part of the proof that the law answers true for every input, by an interpreter that is proved sound against the given model. -/
import Derived.Test.YtkjefeclbdjkcaaWb
/- What this file proves: one part of the proof that the law answers true for every input, by an interpreter that is proved sound against the given model. -/
namespace Gv
open Go
variable {C : CallV} {V : Nat → List PV → List PV → Bool}

end Gv

namespace Gv
open Go
variable {C : CallV} {V : Nat → List PV → List PV → Bool}
end Gv

namespace Gv
open Go
variable {C : CallV} {V : Nat → List PV → List PV → Bool}
theorem mem_flat_le {α : Type} {f : α → List Nat} {l : List α} {x : α} (h : x ∈ l) : (f x).length ≤ (l.flatMap f).length := by
 induction l with
 | nil => cases h
 | cons y l ih =>
  rw [List.flatMap_cons, List.length_append]
  rcases List.mem_cons.1 h with rfl | h
  ·omega
  ·have := ih h; omega
theorem len_flat_le {α : Type} {f : α → List Nat} (hf : ∀ x, 1 ≤ (f x).length) {l : List α} : l.length ≤ (l.flatMap f).length := by
 induction l with
 | nil => simp
 | cons y l ih => rw [List.flatMap_cons, List.length_append, List.length_cons]; have := hf y; omega
end Gv

namespace Gv
open Go
variable {C : CallV} {V : Nat → List PV → List PV → Bool}
theorem neqI' (x y : Int) : binI .neq .i64 x .i64 y = some (.bool (!decide (x = y))) := by
 rw [neqI]; congr 2
theorem eqlI' (x y : Int) : binI .eql .i64 x .i64 y = some (.bool (decide (x = y))) := by
 rw [eqlI]; congr 2
theorem neqLn (a b : Nat) : binI .neq .i64 (a : Int) .i64 (b : Int) = some (.bool (!decide (a = b))) := by
 rw [neqI']
 have : decide ((a : Int) = (b : Int)) = decide (a = b) := by rw [decide_eq_decide]; omega
 rw [this]
theorem get_eq' {α : Type} [DecidableEq α] {a b : List α} (hl : a.length = b.length) : (∀ k, k < a.length → decide (a[k]? = b[k]?) = true) ↔ a = b := by
 simp only [decide_eq_true_eq]
 constructor
 ·intro h
  apply List.ext_getElem?
  intro i
  by_cases hi : i < a.length
  ·exact h i hi
  ·rw [List.getElem?_eq_none (by omega), List.getElem?_eq_none (by omega)]
 ·rintro rfl k _; rfl
theorem eqInts_V {m : Nat} (a b : List Int) (ha : a.length < 1000000000) : callV tVT (m + 1) 100 [eI a, eI b] = some (.bool (decide (a = b)), []) := by
 refine callV_of (F := v_slices_Equal_int_int) rfl rfl rfl ?_ (.inr rfl)
 generalize callV tVT m = C
 generalize vTab tVT = V
 refine nx (by simp only [vw0]; rfl) ?_
 by_cases hl : a.length = b.length
 ·refine nx (by simp only [vw0, vw1, vw2, vw3, vw4, ↓reduceIte, Env.ofArgs_at, Option.getD_some, len_eI, neqLn, hl, decide_true, Bool.not_true]; rfl) ?_
  rw [ras]
  refine nx (by simp only [vw0, vw1, vw2, vw4, ↓reduceIte, Env.ofArgs_at, Option.getD_some, len_eI]; rfl) ?_
  refine all_seqA (n := a.length) (by omega) (fun k => decide (a[k]? = b[k]?)) (.bool false) (fun _ e => e 0 = eI a ∧ e 1 = eI b ∧ e 12 = .int .i64 a.length) (a = b) (fun k e v h => by simpa using h) (fun k e h => h.2.2)
   (fun k e hk h hv => by
    obtain ⟨x, hx, _⟩ := get_lt hk
    obtain ⟨y, hy, _⟩ := get_lt (l := b) (k := k) (by omega)
    by_cases hxy : x = y
    ·refine ⟨_, by simp only [vw0, vw1, vw2, vw3, vw4, ↓reduceIte, Nat.reduceEqDiff, reduceCtorEq, h.1, h.2.1, hv, ia_eI hx, ia_eI hy, neqI', hxy, decide_true, Bool.not_true]; rfl, ?_⟩
     simp [hx, hy, hxy, h.1, h.2, hv]
    ·refine ⟨_, by simp only [vw0, vw1, vw2, vw3, vw4, ↓reduceIte, Nat.reduceEqDiff, reduceCtorEq, h.1, h.2.1, hv, ia_eI hx, ia_eI hy, neqI', hxy, decide_false, Bool.not_false]; rfl, ?_⟩
     simp [hx, hy, hxy])
   (get_eq' hl) (fun hab e _ => by simp only [vw0, vw2, ↓reduceIte, hab, decide_true]) (fun hab => by simp [hab]) ⟨by simp [Env.ofArgs_at], by simp [Env.ofArgs_at], by simp⟩ (by simp)
 ·have hab : a ≠ b := fun h => hl (by rw [h])
  refine den_seq_ret ?_
  simp only [vw0, vw1, vw2, vw3, vw4, ↓reduceIte, Env.ofArgs_at, Option.getD_some, len_eI, neqLn, hl, hab, decide_false, Bool.not_false]
theorem eqs_ins (n : Bool) (x y : SInstr) : eqsV n [false, false] (.agg [.int .i64 x.op, .int .i64 x.a]) (.agg [.int .i64 y.op, .int .i64 y.a]) = some (.bool (if n then !decide (x = y) else decide (x = y))) := by
 obtain ⟨a, b⟩ := x
 obtain ⟨c, d⟩ := y
 cases n <;> simp [eqsV, eqCells, Bool.beq_eq_decide_eq]
theorem eqCode_V {m : Nat} (a b : List SInstr) (ha : a.length < 1000000000) : callV tVT (m + 1) 101 [eCode a, eCode b] = some (.bool (decide (a = b)), []) := by
 refine callV_of (F := v_slices_Equal_api_Instr_api_Instr) rfl rfl rfl ?_ (.inr rfl)
 generalize callV tVT m = C
 generalize vTab tVT = V
 refine nx (by simp only [vw0]; rfl) ?_
 by_cases hl : a.length = b.length
 ·refine nx (by simp only [vw0, vw1, vw2, vw3, vw4, ↓reduceIte, Env.ofArgs_at, Option.getD_some, len_eCode, neqLn, hl, decide_true, Bool.not_true]; rfl) ?_
  rw [ras]
  refine nx (by simp only [vw0, vw1, vw2, vw4, ↓reduceIte, Env.ofArgs_at, Option.getD_some, len_eCode]; rfl) ?_
  refine all_seqA (n := a.length) (by omega) (fun k => decide (a[k]? = b[k]?)) (.bool false) (fun _ e => e 0 = eCode a ∧ e 1 = eCode b ∧ e 12 = .int .i64 a.length) (a = b) (fun k e v h => by simpa using h) (fun k e h => h.2.2)
   (fun k e hk h hv => by
    obtain ⟨x, hx, _⟩ := get_lt hk
    obtain ⟨y, hy, _⟩ := get_lt (l := b) (k := k) (by omega)
    by_cases hxy : x = y
    ·refine ⟨_, by simp only [vw0, vw1, vw2, vw3, vw4, ↓reduceIte, Nat.reduceEqDiff, reduceCtorEq, Nat.reduceAdd, beq_self_eq_true, h.1, h.2.1, hv, ia_eCode hx, ia_eCode hy, eqs_ins, hxy, decide_true, Bool.not_true]; rfl, ?_⟩
     simp [hx, hy, hxy, h.1, h.2, hv]
    ·refine ⟨_, by simp only [vw0, vw1, vw2, vw3, vw4, ↓reduceIte, Nat.reduceEqDiff, reduceCtorEq, Nat.reduceAdd, beq_self_eq_true, h.1, h.2.1, hv, ia_eCode hx, ia_eCode hy, eqs_ins, hxy, decide_false, Bool.not_false]; rfl, ?_⟩
     simp [hx, hy, hxy])
   (get_eq' hl) (fun hab e _ => by simp only [vw0, vw2, ↓reduceIte, hab, decide_true]) (fun hab => by simp [hab]) ⟨by simp [Env.ofArgs_at], by simp [Env.ofArgs_at], by simp⟩ (by simp)
 ·have hab : a ≠ b := fun h => hl (by rw [h])
  refine den_seq_ret ?_
  simp only [vw0, vw1, vw2, vw3, vw4, ↓reduceIte, Env.ofArgs_at, Option.getD_some, len_eCode, neqLn, hl, hab, decide_false, Bool.not_false]
theorem eqWatch_V {m : Nat} (a b : List SInstr) (ha : a.length < 1000000000) : callV tVT (m + 1) 67 [eCode a, eCode b] = some (.bool (decide (a = b)), []) := by
 refine callV_of (F := v_slices_Equal_api_Watch_api_Instr) rfl rfl rfl ?_ (.inr rfl)
 generalize callV tVT m = C
 generalize vTab tVT = V
 refine nx (by simp only [vw0]; rfl) ?_
 by_cases hl : a.length = b.length
 ·refine nx (by simp only [vw0, vw1, vw2, vw3, vw4, ↓reduceIte, Env.ofArgs_at, Option.getD_some, len_eCode, neqLn, hl, decide_true, Bool.not_true]; rfl) ?_
  rw [ras]
  refine nx (by simp only [vw0, vw1, vw2, vw4, ↓reduceIte, Env.ofArgs_at, Option.getD_some, len_eCode]; rfl) ?_
  refine all_seqA (n := a.length) (by omega) (fun k => decide (a[k]? = b[k]?)) (.bool false) (fun _ e => e 0 = eCode a ∧ e 1 = eCode b ∧ e 12 = .int .i64 a.length) (a = b) (fun k e v h => by simpa using h) (fun k e h => h.2.2)
   (fun k e hk h hv => by
    obtain ⟨x, hx, _⟩ := get_lt hk
    obtain ⟨y, hy, _⟩ := get_lt (l := b) (k := k) (by omega)
    by_cases hxy : x = y
    ·refine ⟨_, by simp only [vw0, vw1, vw2, vw3, vw4, ↓reduceIte, Nat.reduceEqDiff, reduceCtorEq, Nat.reduceAdd, beq_self_eq_true, h.1, h.2.1, hv, ia_eCode hx, ia_eCode hy, eqs_ins, hxy, decide_true, Bool.not_true]; rfl, ?_⟩
     simp [hx, hy, hxy, h.1, h.2, hv]
    ·refine ⟨_, by simp only [vw0, vw1, vw2, vw3, vw4, ↓reduceIte, Nat.reduceEqDiff, reduceCtorEq, Nat.reduceAdd, beq_self_eq_true, h.1, h.2.1, hv, ia_eCode hx, ia_eCode hy, eqs_ins, hxy, decide_false, Bool.not_false]; rfl, ?_⟩
     simp [hx, hy, hxy])
   (get_eq' hl) (fun hab e _ => by simp only [vw0, vw2, ↓reduceIte, hab, decide_true]) (fun hab => by simp [hab]) ⟨by simp [Env.ofArgs_at], by simp [Env.ofArgs_at], by simp⟩ (by simp)
 ·have hab : a ≠ b := fun h => hl (by rw [h])
  refine den_seq_ret ?_
  simp only [vw0, vw1, vw2, vw3, vw4, ↓reduceIte, Env.ofArgs_at, Option.getD_some, len_eCode, neqLn, hl, hab, decide_false, Bool.not_false]
theorem same1_V {m : Nat} (a b : List SInstr) (ha : a.length < 1000000000) : callV tVT (m + 2) 66 [eCode a, eCode b] = some (.bool (decide (a = b)), []) := by
 refine callV_of (F := v_wire_Same_1) rfl rfl rfl ?_ (.inr rfl)
 have h := eqWatch_V (m := m) a b ha
 generalize callV tVT (m + 1) = C at h
 generalize vTab tVT = V
 simp only [vw0, vw1, vw2, vw4, ↓reduceIte, v_wire_Same_1, Env.ofArgs_at, Option.getD_some, h]
end Gv

namespace Gv
open Go
variable {C : CallV} {V : Nat → List PV → List PV → Bool}
theorem eqfW {m fn : Nat} (a b : List (List SInstr)) (ha : a.length < 1000000000) (hC : ∀ x ∈ a, ∀ y, callV tVT m fn [eCode x, eCode y] = some (.bool (decide (x = y)), [])) (hV : ∀ x y, vTab tVT fn [x, y] [] = true) : callV tVT (m + 1) 69 [eWs a, eWs b, .fn fn []] = some (.bool (decide (a = b)), []) := by
 refine callV_of (F := v_slices_EqualFunc_api_Watch_api_Watch_api_Watch_api_Watch) rfl rfl rfl ?_ (.inr rfl)
 generalize callV tVT m = C at hC
 generalize vTab tVT = V at hV
 have la : lenV (eWs a) = some (.int .i64 a.length) := len_ws
 have lb : lenV (eWs b) = some (.int .i64 b.length) := len_ws
 refine nx (by simp only [vw0]; rfl) ?_
 by_cases hl : a.length = b.length
 ·refine nx (by simp only [vw0, vw1, vw2, vw3, vw4, ↓reduceIte, Env.ofArgs_at, Option.getD_some, la, lb, neqLn, hl, decide_true, Bool.not_true]; rfl) ?_
  rw [ras]
  refine nx (by simp only [vw0, vw1, vw2, vw4, ↓reduceIte, Env.ofArgs_at, Option.getD_some, la]; rfl) ?_
  refine all_seqA (n := a.length) (by omega) (fun k => decide (a[k]? = b[k]?)) (.bool false) (fun _ e => e 15 = eWs a ∧ e 1 = eWs b ∧ e 2 = .fn fn [] ∧ e 16 = .int .i64 a.length) (a = b) (fun k e v h => by simpa using h) (fun k e h => h.2.2.2)
   (fun k e hk ⟨h1, h2, h3, h4⟩ hv => by
    obtain ⟨x, hx, hm⟩ := get_lt hk
    obtain ⟨y, hy, _⟩ := get_lt (l := b) (k := k) (by omega)
    have hc := hC x hm y
    have ix : indexAddrPV 1 (eWs a) (.int .i64 (k : Nat)) = some (.lptr [eCode x]) := ia_ws hx
    have iy : indexAddrPV 1 (eWs b) (.int .i64 (k : Nat)) = some (.lptr [eCode y]) := ia_ws hy
    skip
    by_cases hxy : x = y
    ·simp only [hxy, decide_true] at hc ix
     refine ⟨_, by simp only [vw0, vw1, vw2, vw3, vw4, ↓reduceIte, Nat.reduceEqDiff, h1, h2, h3, hv, ix, iy, hV, List.append_nil, hc, un, Bool.not_true]; rfl, ?_⟩
     simp [hx, hy, hxy, h1, h2, h3, h4, hv]
    ·simp only [decide_eq_false hxy] at hc
     refine ⟨_, by simp only [vw0, vw1, vw2, vw3, vw4, ↓reduceIte, Nat.reduceEqDiff, h1, h2, h3, hv, ix, iy, hV, List.append_nil, hc, un, Bool.not_false]; rfl, ?_⟩
     simp [hx, hy, hxy])
   (get_eq' hl) (fun hab e _ => by simp only [vw0, vw2, ↓reduceIte, hab, decide_true]) (fun hab => by simp [hab]) ⟨by simp [], by simp [Env.ofArgs_at], by simp [Env.ofArgs_at], by simp⟩ (by simp)
 ·have hab : a ≠ b := fun h => hl (by rw [h])
  refine den_seq_ret ?_
  simp only [vw0, vw1, vw2, vw3, vw4, ↓reduceIte, Env.ofArgs_at, Option.getD_some, la, lb, neqLn, hl, hab, decide_false, Bool.not_false]
theorem eqfH {m fn : Nat} (a b : List SHandler) (ha : a.length < 1000000000) (hC : ∀ x ∈ a, ∀ y, callV tVT m fn [eHandler x, eHandler y] = some (.bool (decide (x = y)), [])) (hV : ∀ x y, vTab tVT fn [x, y] [] = true) : callV tVT (m + 1) 91 [eHs a, eHs b, .fn fn []] = some (.bool (decide (a = b)), []) := by
 refine callV_of (F := v_slices_EqualFunc_api_Handler_api_Handler_api_Handler_api_Handler) rfl rfl rfl ?_ (.inr rfl)
 generalize callV tVT m = C at hC
 generalize vTab tVT = V at hV
 have la : lenV (eHs a) = some (.int .i64 a.length) := len_hs
 have lb : lenV (eHs b) = some (.int .i64 b.length) := len_hs
 refine nx (by simp only [vw0]; rfl) ?_
 by_cases hl : a.length = b.length
 ·refine nx (by simp only [vw0, vw1, vw2, vw3, vw4, ↓reduceIte, Env.ofArgs_at, Option.getD_some, la, lb, neqLn, hl, decide_true, Bool.not_true]; rfl) ?_
  rw [ras]
  refine nx (by simp only [vw0, vw1, vw2, vw4, ↓reduceIte, Env.ofArgs_at, Option.getD_some, la]; rfl) ?_
  refine all_seqA (n := a.length) (by omega) (fun k => decide (a[k]? = b[k]?)) (.bool false) (fun _ e => e 15 = eHs a ∧ e 1 = eHs b ∧ e 2 = .fn fn [] ∧ e 16 = .int .i64 a.length) (a = b) (fun k e v h => by simpa using h) (fun k e h => h.2.2.2)
   (fun k e hk ⟨h1, h2, h3, h4⟩ hv => by
    obtain ⟨x, hx, hm⟩ := get_lt hk
    obtain ⟨y, hy, _⟩ := get_lt (l := b) (k := k) (by omega)
    have hc := hC x hm y
    have ix : indexAddrPV 2 (eHs a) (.int .i64 (k : Nat)) = some (.lptr [.int .i64 x.args, eCode x.code]) := ia_hs hx
    have iy : indexAddrPV 2 (eHs b) (.int .i64 (k : Nat)) = some (.lptr [.int .i64 y.args, eCode y.code]) := ia_hs hy
    simp only [eHandler] at hc
    by_cases hxy : x = y
    ·simp only [hxy, decide_true] at hc ix
     refine ⟨_, by simp only [vw0, vw1, vw2, vw3, vw4, ↓reduceIte, Nat.reduceEqDiff, Nat.reduceAdd, beq_self_eq_true, h1, h2, h3, hv, ix, iy, hV, List.append_nil, hc, un, Bool.not_true]; rfl, ?_⟩
     simp [hx, hy, hxy, h1, h2, h3, h4, hv]
    ·simp only [decide_eq_false hxy] at hc
     refine ⟨_, by simp only [vw0, vw1, vw2, vw3, vw4, ↓reduceIte, Nat.reduceEqDiff, Nat.reduceAdd, beq_self_eq_true, h1, h2, h3, hv, ix, iy, hV, List.append_nil, hc, un, Bool.not_false]; rfl, ?_⟩
     simp [hx, hy, hxy])
   (get_eq' hl) (fun hab e _ => by simp only [vw0, vw2, ↓reduceIte, hab, decide_true]) (fun hab => by simp [hab]) ⟨by simp [], by simp [Env.ofArgs_at], by simp [Env.ofArgs_at], by simp⟩ (by simp)
 ·have hab : a ≠ b := fun h => hl (by rw [h])
  refine den_seq_ret ?_
  simp only [vw0, vw1, vw2, vw3, vw4, ↓reduceIte, Env.ofArgs_at, Option.getD_some, la, lb, neqLn, hl, hab, decide_false, Bool.not_false]
theorem eqfA {m fn : Nat} (a b : List SActor) (ha : a.length < 1000000000) (hC : ∀ x ∈ a, ∀ y, callV tVT m fn [eActor x, eActor y] = some (.bool (decide (x = y)), [])) (hV : ∀ x y, vTab tVT fn [x, y] [] = true) : callV tVT (m + 1) 93 [eAs a, eAs b, .fn fn []] = some (.bool (decide (a = b)), []) := by
 refine callV_of (F := v_slices_EqualFunc_api_Actor_api_Actor_api_Actor_api_Actor) rfl rfl rfl ?_ (.inr rfl)
 generalize callV tVT m = C at hC
 generalize vTab tVT = V at hV
 have la : lenV (eAs a) = some (.int .i64 a.length) := len_as
 have lb : lenV (eAs b) = some (.int .i64 b.length) := len_as
 refine nx (by simp only [vw0]; rfl) ?_
 by_cases hl : a.length = b.length
 ·refine nx (by simp only [vw0, vw1, vw2, vw3, vw4, ↓reduceIte, Env.ofArgs_at, Option.getD_some, la, lb, neqLn, hl, decide_true, Bool.not_true]; rfl) ?_
  rw [ras]
  refine nx (by simp only [vw0, vw1, vw2, vw4, ↓reduceIte, Env.ofArgs_at, Option.getD_some, la]; rfl) ?_
  refine all_seqA (n := a.length) (by omega) (fun k => decide (a[k]? = b[k]?)) (.bool false) (fun _ e => e 15 = eAs a ∧ e 1 = eAs b ∧ e 2 = .fn fn [] ∧ e 16 = .int .i64 a.length) (a = b) (fun k e v h => by simpa using h) (fun k e h => h.2.2.2)
   (fun k e hk ⟨h1, h2, h3, h4⟩ hv => by
    obtain ⟨x, hx, hm⟩ := get_lt hk
    obtain ⟨y, hy, _⟩ := get_lt (l := b) (k := k) (by omega)
    have hc := hC x hm y
    have ix : indexAddrPV 4 (eAs a) (.int .i64 (k : Nat)) = some (.lptr [eI x.regs, .int .i64 x.cap, .int .i64 x.timer, .bool x.armed]) := ia_as hx
    have iy : indexAddrPV 4 (eAs b) (.int .i64 (k : Nat)) = some (.lptr [eI y.regs, .int .i64 y.cap, .int .i64 y.timer, .bool y.armed]) := ia_as hy
    simp only [eActor] at hc
    by_cases hxy : x = y
    ·simp only [hxy, decide_true] at hc ix
     refine ⟨_, by simp only [vw0, vw1, vw2, vw3, vw4, ↓reduceIte, Nat.reduceEqDiff, Nat.reduceAdd, beq_self_eq_true, h1, h2, h3, hv, ix, iy, hV, List.append_nil, hc, un, Bool.not_true]; rfl, ?_⟩
     simp [hx, hy, hxy, h1, h2, h3, h4, hv]
    ·simp only [decide_eq_false hxy] at hc
     refine ⟨_, by simp only [vw0, vw1, vw2, vw3, vw4, ↓reduceIte, Nat.reduceEqDiff, Nat.reduceAdd, beq_self_eq_true, h1, h2, h3, hv, ix, iy, hV, List.append_nil, hc, un, Bool.not_false]; rfl, ?_⟩
     simp [hx, hy, hxy])
   (get_eq' hl) (fun hab e _ => by simp only [vw0, vw2, ↓reduceIte, hab, decide_true]) (fun hab => by simp [hab]) ⟨by simp [], by simp [Env.ofArgs_at], by simp [Env.ofArgs_at], by simp⟩ (by simp)
 ·have hab : a ≠ b := fun h => hl (by rw [h])
  refine den_seq_ret ?_
  simp only [vw0, vw1, vw2, vw3, vw4, ↓reduceIte, Env.ofArgs_at, Option.getD_some, la, lb, neqLn, hl, hab, decide_false, Bool.not_false]
theorem eqfN {m fn : Nat} (a b : List SNote) (ha : a.length < 1000000000) (hC : ∀ x ∈ a, ∀ y, callV tVT m fn [eNote x, eNote y] = some (.bool (decide (x = y)), [])) (hV : ∀ x y, vTab tVT fn [x, y] [] = true) : callV tVT (m + 1) 95 [eNs a, eNs b, .fn fn []] = some (.bool (decide (a = b)), []) := by
 refine callV_of (F := v_slices_EqualFunc_api_Note_api_Note_api_Note_api_Note) rfl rfl rfl ?_ (.inr rfl)
 generalize callV tVT m = C at hC
 generalize vTab tVT = V at hV
 have la : lenV (eNs a) = some (.int .i64 a.length) := len_ns
 have lb : lenV (eNs b) = some (.int .i64 b.length) := len_ns
 refine nx (by simp only [vw0]; rfl) ?_
 by_cases hl : a.length = b.length
 ·refine nx (by simp only [vw0, vw1, vw2, vw3, vw4, ↓reduceIte, Env.ofArgs_at, Option.getD_some, la, lb, neqLn, hl, decide_true, Bool.not_true]; rfl) ?_
  rw [ras]
  refine nx (by simp only [vw0, vw1, vw2, vw4, ↓reduceIte, Env.ofArgs_at, Option.getD_some, la]; rfl) ?_
  refine all_seqA (n := a.length) (by omega) (fun k => decide (a[k]? = b[k]?)) (.bool false) (fun _ e => e 15 = eNs a ∧ e 1 = eNs b ∧ e 2 = .fn fn [] ∧ e 16 = .int .i64 a.length) (a = b) (fun k e v h => by simpa using h) (fun k e h => h.2.2.2)
   (fun k e hk ⟨h1, h2, h3, h4⟩ hv => by
    obtain ⟨x, hx, hm⟩ := get_lt hk
    obtain ⟨y, hy, _⟩ := get_lt (l := b) (k := k) (by omega)
    have hc := hC x hm y
    have ix : indexAddrPV 3 (eNs a) (.int .i64 (k : Nat)) = some (.lptr [.int .i64 x.to, .int .i64 x.handler, eI x.args]) := ia_ns hx
    have iy : indexAddrPV 3 (eNs b) (.int .i64 (k : Nat)) = some (.lptr [.int .i64 y.to, .int .i64 y.handler, eI y.args]) := ia_ns hy
    simp only [eNote] at hc
    by_cases hxy : x = y
    ·simp only [hxy, decide_true] at hc ix
     refine ⟨_, by simp only [vw0, vw1, vw2, vw3, vw4, ↓reduceIte, Nat.reduceEqDiff, Nat.reduceAdd, beq_self_eq_true, h1, h2, h3, hv, ix, iy, hV, List.append_nil, hc, un, Bool.not_true]; rfl, ?_⟩
     simp [hx, hy, hxy, h1, h2, h3, h4, hv]
    ·simp only [decide_eq_false hxy] at hc
     refine ⟨_, by simp only [vw0, vw1, vw2, vw3, vw4, ↓reduceIte, Nat.reduceEqDiff, Nat.reduceAdd, beq_self_eq_true, h1, h2, h3, hv, ix, iy, hV, List.append_nil, hc, un, Bool.not_false]; rfl, ?_⟩
     simp [hx, hy, hxy])
   (get_eq' hl) (fun hab e _ => by simp only [vw0, vw2, ↓reduceIte, hab, decide_true]) (fun hab => by simp [hab]) ⟨by simp [], by simp [Env.ofArgs_at], by simp [Env.ofArgs_at], by simp⟩ (by simp)
 ·have hab : a ≠ b := fun h => hl (by rw [h])
  refine den_seq_ret ?_
  simp only [vw0, vw1, vw2, vw3, vw4, ↓reduceIte, Env.ofArgs_at, Option.getD_some, la, lb, neqLn, hl, hab, decide_false, Bool.not_false]
theorem sameH_V {m : Nat} (x y : SHandler) (hx : x.code.length < 1000000000) : callV tVT (m + 2) 92 [eHandler x, eHandler y] = some (.bool (decide (x = y)), []) := by
 refine callV_of (F := v_prog_sameHandler) rfl rfl rfl ?_ (.inr rfl)
 have h := eqCode_V (m := m) x.code y.code hx
 generalize callV tVT (m + 1) = C at h
 generalize vTab tVT = V
 obtain ⟨a, b⟩ := x
 obtain ⟨c, d⟩ := y
 simp only [eHandler] at *
 by_cases h1 : a = c
 ·subst h1
  simp only [vw0, vw1, vw2, vw3, vw4, ↓reduceIte, Nat.reduceEqDiff, Nat.reduceAdd, beq_self_eq_true, v_prog_sameHandler, Env.ofArgs_at, Option.getD_some, eqlI', decide_true, h, SHandler.mk.injEq, true_and]
 ·simp only [vw0, vw1, vw2, vw3, vw4, ↓reduceIte, Nat.reduceEqDiff, Nat.reduceAdd, beq_self_eq_true, v_prog_sameHandler, Env.ofArgs_at, Option.getD_some, eqlI', h1, decide_false, show (false == true) = false from rfl, SHandler.mk.injEq, false_and]
theorem sameN_V {m : Nat} (x y : SNote) (hx : x.args.length < 1000000000) : callV tVT (m + 2) 84 [eNote x, eNote y] = some (.bool (decide (x = y)), []) := by
 refine callV_of (F := v_prog_SameNote) rfl rfl rfl ?_ (.inr rfl)
 have h := eqInts_V (m := m) x.args y.args hx
 generalize callV tVT (m + 1) = C at h
 generalize vTab tVT = V
 obtain ⟨a, b, c⟩ := x
 obtain ⟨a', b', c'⟩ := y
 simp only [eNote] at *
 by_cases h1 : a = a'
 ·subst h1
  by_cases h2 : b = b'
  ·subst h2
   simp only [vw0, vw1, vw2, vw3, vw4, ↓reduceIte, Nat.reduceEqDiff, Nat.reduceAdd, beq_self_eq_true, v_prog_SameNote, Env.ofArgs_at, Option.getD_some, eqlI', decide_true, h, SNote.mk.injEq, true_and]
  ·simp only [vw0, vw1, vw2, vw3, vw4, ↓reduceIte, Nat.reduceEqDiff, Nat.reduceAdd, beq_self_eq_true, v_prog_SameNote, Env.ofArgs_at, Option.getD_some, eqlI', decide_true, h2, decide_false, show (false == true) = false from rfl, SNote.mk.injEq, true_and, false_and]
 ·simp only [vw0, vw1, vw2, vw3, vw4, ↓reduceIte, Nat.reduceEqDiff, Nat.reduceAdd, beq_self_eq_true, v_prog_SameNote, Env.ofArgs_at, Option.getD_some, eqlI', h1, decide_false, show (false == true) = false from rfl, SNote.mk.injEq, false_and]
theorem eqbB (x y : Bool) : eqb false (.bool x) (.bool y) = some (.bool (decide (x = y))) := by cases x <;> cases y <;> rfl
theorem sameA_V {m : Nat} (x y : SActor) (hx : x.regs.length < 1000000000) : callV tVT (m + 2) 94 [eActor x, eActor y] = some (.bool (decide (x = y)), []) := by
 refine callV_of (F := v_prog_sameActor) rfl rfl rfl ?_ (.inr rfl)
 have h := eqInts_V (m := m) x.regs y.regs hx
 generalize callV tVT (m + 1) = C at h
 generalize vTab tVT = V
 obtain ⟨a, b, c, d⟩ := x
 obtain ⟨a', b', c', d'⟩ := y
 simp only [eActor] at *
 by_cases h1 : a = a'
 ·subst h1
  by_cases h2 : b = b'
  ·subst h2
   by_cases h3 : c = c'
   ·subst h3
    simp only [vw0, vw1, vw2, vw3, vw4, ↓reduceIte, Nat.reduceEqDiff, Nat.reduceAdd, beq_self_eq_true, v_prog_sameActor, Env.ofArgs_at, Option.getD_some, eqlI', decide_true, h, eqbB, SActor.mk.injEq, true_and]
   ·simp only [vw0, vw1, vw2, vw3, vw4, ↓reduceIte, Nat.reduceEqDiff, Nat.reduceAdd, beq_self_eq_true, v_prog_sameActor, Env.ofArgs_at, Option.getD_some, eqlI', decide_true, h, h3, decide_false, SActor.mk.injEq, true_and, false_and]
  ·simp only [vw0, vw1, vw2, vw3, vw4, ↓reduceIte, Nat.reduceEqDiff, Nat.reduceAdd, beq_self_eq_true, v_prog_sameActor, Env.ofArgs_at, Option.getD_some, eqlI', decide_true, h, h2, decide_false, SActor.mk.injEq, true_and, false_and]
 ·have h' := h
  rw [decide_eq_false h1] at h'
  simp only [vw0, vw1, vw2, vw3, vw4, ↓reduceIte, Nat.reduceEqDiff, Nat.reduceAdd, beq_self_eq_true, v_prog_sameActor, Env.ofArgs_at, Option.getD_some, eqlI', h', h1, decide_false, SActor.mk.injEq, false_and]
end Gv

namespace Gv
open Go
theorem dec_en {t : STask} (ht : okTask t) (hb : BOk (enTask t)) : decTask (enTask t) = some t := (decTask_iff hb).2 ⟨rfl, ht⟩
end Gv

namespace Gv
open Go
variable {C : CallV} {V : Nat → List PV → List PV → Bool}
def smlP (p : SProg) : Prop := (p.handlers.length < 1000000000 ∧ ∀ x ∈ p.handlers, x.code.length < 1000000000) ∧ (p.actors.length < 1000000000 ∧ ∀ x ∈ p.actors, x.regs.length < 1000000000) ∧ (p.boot.length < 1000000000 ∧ ∀ x ∈ p.boot, x.args.length < 1000000000)
theorem mfn0 (n : Nat) : mfn n (.tup []) = some (.fn n []) := rfl
theorem ff : (false == true) = false := rfl
theorem progSame_V {m : Nat} (p q : SProg) (hp : smlP p) : callV tVT (m + 4) 68 [eProg p, eProg q] = some (.bool (decide (p = q)), []) := by
 refine callV_of (F := v_prog_Same) rfl rfl rfl ?_ (.inr rfl)
 have hH := eqfH (m := m + 2) (fn := 92) p.handlers q.handlers hp.1.1 (fun x hx y => sameH_V (m := m) x y (hp.1.2 x hx)) (fun _ _ => rfl)
 have hA := eqfA (m := m + 2) (fn := 94) p.actors q.actors hp.2.1.1 (fun x hx y => sameA_V (m := m) x y (hp.2.1.2 x hx)) (fun _ _ => rfl)
 have hN := eqfN (m := m + 2) (fn := 84) p.boot q.boot hp.2.2.1 (fun x hx y => sameN_V (m := m) x y (hp.2.2.2 x hx)) (fun _ _ => rfl)
 generalize callV tVT (m + 2 + 1) = C at hH hA hN
 generalize vTab tVT = V
 obtain ⟨a, b, c, d⟩ := p
 obtain ⟨a', b', c', d'⟩ := q
 simp only at hH hA hN
 rw [eProg_eq, eProg_eq]
 simp only
 by_cases h1 : a = a'
 ·subst h1
  rw [decide_eq_true rfl] at hH
  by_cases h2 : b = b'
  ·subst h2
   rw [decide_eq_true rfl] at hA
   by_cases h3 : c = c'
   ·subst h3
    rw [decide_eq_true rfl] at hN
    simp only [vw0, vw1, vw2, vw3, vw4, ↓reduceIte, Nat.reduceEqDiff, Nat.reduceAdd, beq_self_eq_true, v_prog_Same, vw5, mfn0, Env.ofArgs_at, Option.getD_some, hH, hA, hN, eqlI', SProg.mk.injEq, true_and]
   ·rw [decide_eq_false h3] at hN
    simp only [vw0, vw1, vw2, vw3, vw4, ↓reduceIte, Nat.reduceEqDiff, Nat.reduceAdd, beq_self_eq_true, v_prog_Same, vw5, mfn0, Env.ofArgs_at, Option.getD_some, hH, hA, hN, eqlI', h3, SProg.mk.injEq, true_and, false_and, decide_false]
  ·rw [decide_eq_false h2] at hA
   simp only [vw0, vw1, vw2, vw3, vw4, ↓reduceIte, Nat.reduceEqDiff, Nat.reduceAdd, beq_self_eq_true, v_prog_Same, vw5, mfn0, Env.ofArgs_at, Option.getD_some, hH, hA, ff, eqlI', h2, SProg.mk.injEq, true_and, false_and, decide_false]
 ·rw [decide_eq_false h1] at hH
  simp only [vw0, vw1, vw2, vw3, vw4, ↓reduceIte, Nat.reduceEqDiff, Nat.reduceAdd, beq_self_eq_true, v_prog_Same, vw5, mfn0, Env.ofArgs_at, Option.getD_some, hH, ff, eqlI', h1, SProg.mk.injEq, false_and, decide_false]
theorem eqs4 (x y : SBudget) : eqsV false [false, false, false, false] (.agg [.int .i64 x.drop, .int .i64 x.dup, .int .i64 x.time, .int .i64 x.crash]) (.agg [.int .i64 y.drop, .int .i64 y.dup, .int .i64 y.time, .int .i64 y.crash]) = some (.bool (decide (x = y))) := by
 obtain ⟨a, b, c, d⟩ := x
 obtain ⟨a', b', c', d'⟩ := y
 simp [eqsV, eqCells, Bool.beq_eq_decide_eq]
theorem eqs2L (x y : SLimits) : eqsV false [false, false] (.agg [.int .i64 x.depth, .int .i64 x.runs]) (.agg [.int .i64 y.depth, .int .i64 y.runs]) = some (.bool (decide (x = y))) := by
 obtain ⟨a, b⟩ := x
 obtain ⟨a', b'⟩ := y
 simp [eqsV, eqCells, Bool.beq_eq_decide_eq]
theorem wireSame_V {m : Nat} (t u : STask) (hp : smlP t.prog) (hw : t.watch.length < 1000000000 ∧ ∀ x ∈ t.watch, x.length < 1000000000) : callV tVT (m + 5) 22 [eTask t, eTask u] = some (.bool (decide (t = u)), []) := by
 refine callV_of (F := v_wire_Same) rfl rfl rfl ?_ (.inr rfl)
 have hP := progSame_V (m := m) t.prog u.prog hp
 have hW := eqfW (m := m + 3) (fn := 66) t.watch u.watch hw.1 (fun x hx y => same1_V (m := m + 1) x y (hw.2 x hx)) (fun _ _ => rfl)
 have h4 := eqs4 t.budget u.budget
 have h2 := eqs2L t.limits u.limits
 generalize callV tVT (m + 3 + 1) = C at hP hW
 generalize vTab tVT = V
 obtain ⟨p, w, b, l⟩ := t
 obtain ⟨p', w', b', l'⟩ := u
 rw [eTask_eq, eTask_eq]
 rw [eProg_eq, eProg_eq] at hP
 simp only at hP hW h4 h2 ⊢
 by_cases k1 : p = p'
 ·subst k1
  rw [decide_eq_true rfl] at hP
  by_cases k2 : w = w'
  ·subst k2
   rw [decide_eq_true rfl] at hW
   by_cases k3 : b = b'
   ·subst k3
    rw [decide_eq_true rfl] at h4
    simp only [vw0, vw1, vw2, vw3, vw4, ↓reduceIte, Nat.reduceEqDiff, Nat.reduceAdd, beq_self_eq_true, v_wire_Same, vw5, mfn0, Env.ofArgs_at, Option.getD_some, hP, hW, h4, h2, STask.mk.injEq, true_and]
   ·rw [decide_eq_false k3] at h4
    simp only [vw0, vw1, vw2, vw3, vw4, ↓reduceIte, Nat.reduceEqDiff, Nat.reduceAdd, beq_self_eq_true, v_wire_Same, vw5, mfn0, Env.ofArgs_at, Option.getD_some, hP, hW, h4, h2, k3, STask.mk.injEq, true_and, false_and, decide_false]
  ·rw [decide_eq_false k2] at hW
   simp only [vw0, vw1, vw2, vw3, vw4, ↓reduceIte, Nat.reduceEqDiff, Nat.reduceAdd, beq_self_eq_true, v_wire_Same, vw5, mfn0, Env.ofArgs_at, Option.getD_some, hP, hW, k2, STask.mk.injEq, true_and, false_and, decide_false]
 ·rw [decide_eq_false k1] at hP
  simp only [vw0, vw1, vw2, vw3, vw4, ↓reduceIte, Nat.reduceEqDiff, Nat.reduceAdd, beq_self_eq_true, v_wire_Same, vw5, mfn0, Env.ofArgs_at, Option.getD_some, hP, ff, k1, STask.mk.injEq, false_and, decide_false]
end Gv

namespace Gv
open Go
variable {C : CallV} {V : Nat → List PV → List PV → Bool}
theorem round_V {m : Nat} (k : Int) {n : Nat} (h0 : 0 < n) (h1 : n < 1000000000) : ∃ r : Nat, r < n ∧ callV tVT (m + 1) 23 [.int .i64 k, .int .i64 n] = some (.int .i64 r, []) := by
 have hn : ¬ (n : Int) = 0 := by omega
 have e1 : ∀ k : Int, binI .rem .i64 k .i64 n = some (.int .i64 (k.tmod n)) := fun k => by simp only [binI]; rw [if_neg (by decide), if_neg hn]
 have b1 : (k.tmod n) < n := Int.tmod_lt_of_pos k (by omega)
 have b2 : -(n : Int) < k.tmod n := Int.lt_tmod_of_pos k (by omega)
 have e2 : binI .add .i64 (k.tmod n) .i64 n = some (.int .i64 (k.tmod n + n)) := by
  simp only [binI]; rw [if_neg (by decide), i64_of (by omega) (by omega)]
 have b3 : 0 ≤ (k.tmod n + n).tmod n := Int.tmod_nonneg _ (by omega)
 have b4 : (k.tmod n + n).tmod n < n := Int.tmod_lt_of_pos _ (by omega)
 refine ⟨((k.tmod n + n).tmod n).toNat, by omega, ?_⟩
 rw [show (((k.tmod n + n).tmod n).toNat : Int) = (k.tmod n + n).tmod n by omega]
 refine callV_of (F := v_alike_Round) rfl rfl rfl ?_ (.inr rfl)
 simp only [vw0, vw1, vw2, vw4, ↓reduceIte, v_alike_Round, Env.ofArgs_at, Option.getD_some, e1, e2]
end Gv

namespace Gv
open Go
variable {C : CallV} {V : Nat → List PV → List PV → Bool}
end Gv

namespace Gv
open Go
variable {C : CallV} {V : Nat → List PV → List PV → Bool}
end Gv

namespace Gv
open Go
variable {C : CallV} {V : Nat → List PV → List PV → Bool}
theorem sml_len {t : STask} (h : (enTask t).length < 1000000000) : smlP t.prog ∧ (t.watch.length < 1000000000 ∧ ∀ x ∈ t.watch, x.length < 1000000000) := by
 obtain ⟨⟨hs, as, ns, fuel⟩, ws, bu, li⟩ := t
 simp only [enTask, enProg, List.length_append] at h
 have q1 := len_flat_le (l := hs) handler_pos
 have q2 := len_flat_le (l := as) actor_pos
 have q3 := len_flat_le (l := ns) note_pos
 have q4 := len_flat_le (l := ws) code_pos
 refine ⟨⟨⟨by simp only; omega, fun x hx => ?_⟩, ⟨by simp only; omega, fun x hx => ?_⟩, ⟨by simp only; omega, fun x hx => ?_⟩⟩, by simp only; omega, fun x hx => ?_⟩
 ·have h1 := mem_flat_le (f := enHandler) (l := hs) hx
  rw [enHandler, List.length_append, enCode, List.length_append] at h1
  have := len_flat_le (l := x.code) instr_pos
  omega
 ·have h1 := mem_flat_le (f := enActor) (l := as) hx
  rw [enActor, List.length_append, enNums, List.length_append, enN] at h1
  have := len_flat_le (l := x.regs) num_pos
  omega
 ·have h1 := mem_flat_le (f := enNote) (l := ns) hx
  rw [enNote, List.length_append, List.length_append, enNums, List.length_append, enN] at h1
  have := len_flat_le (l := x.args) num_pos
  omega
 ·have h1 := mem_flat_le (f := enCode) (l := ws) hx
  rw [enCode, List.length_append] at h1
  have := len_flat_le (l := x) instr_pos
  omega
theorem outEnc_ok {t : STask} (h : (enTask t).length ≤ 65536) : outEnc t = .tup [eB (enTask t), .int .i64 0] := by rw [outEnc, if_neg (by omega)]
end Gv
