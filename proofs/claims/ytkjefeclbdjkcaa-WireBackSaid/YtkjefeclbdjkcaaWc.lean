/- What this file proves: one part of the proof that the law answers true for every input, by an interpreter that is proved sound against the given model. -/
import Derived.Test.YtkjefeclbdjkcaaWb
namespace Gv
open Go
variable {C : CallV} {V : Nat → List PV → List PV → Bool}
theorem neqLen {a : Nat} : binI .neq .i64 (a : Int) .i64 (a : Int) = some (.bool false) := by simp [binI]
theorem neqSame {a : Int} : binI .neq .i64 a .i64 a = some (.bool false) := by simp [binI]
theorem eqlSame {a : Int} : binI .eql .i64 a .i64 a = some (.bool true) := by simp [binI]
theorem rInts_refl {m : Nat} {l : List Int} (hl : l.length < 1000000000) : callV tVT (m + 1) 90 [eI l, eI l] = some (.bool true, []) := by
 refine callV_of (F := v_ref1_Ints) rfl rfl rfl ?_ (.inr rfl)
 refine nx (by simp only [vw0]; rfl) ?_
 refine nx (by simp only [vw0, vw1, vw2, vw3, vw4, ↓reduceIte, Env.ofArgs_at, Option.getD_some, len_eI, neqLen]; rfl) ?_
 rw [ras]
 refine nx (by simp only [vw0, vw2, ↓reduceIte]; rfl) ?_
 refine seq_of (for_run (St := fun _ e => e 0 = eI l ∧ e 1 = eI l) (n := l.length) (by omega) (fun k e v h => by simpa using h) (fun k e hk h hv => by simp only [vw0, vw1, vw2, h.1, hv, len_eI, lss_cast]) (fun k e hk h hv => ?_) ⟨by simp [Env.ofArgs_at], by simp [Env.ofArgs_at]⟩ (by simp)) fun e h => ?_
 ·obtain ⟨x, hx, hm⟩ := get_lt hk
  exact ⟨_, by simp only [vw0, vw1, vw2, vw3, vw4, ↓reduceIte, h.1, h.2, hv, ia_eI hx, neqSame], h, hv⟩
 simp only [vw0, vw2, ↓reduceIte]
theorem eqs2_same {a b : Int} : eqsV true [false, false] (.agg [.int .i64 a, .int .i64 b]) (.agg [.int .i64 a, .int .i64 b]) = some (.bool false) := by
 simp [eqsV, eqCells]
theorem rCode_refl {m : Nat} {l : List SInstr} (hl : l.length < 1000000000) : callV tVT (m + 1) 65 [eCode l, eCode l] = some (.bool true, []) := by
 refine callV_of (F := v_ref1_Code) rfl rfl rfl ?_ (.inr rfl)
 refine nx (by simp only [vw0]; rfl) ?_
 refine nx (by simp only [vw0, vw1, vw2, vw3, vw4, ↓reduceIte, Env.ofArgs_at, Option.getD_some, len_eCode, neqLen]; rfl) ?_
 rw [ras]
 refine nx (by simp only [vw0, vw2, ↓reduceIte]; rfl) ?_
 refine seq_of (for_run (St := fun _ e => e 0 = eCode l ∧ e 1 = eCode l) (n := l.length) (by omega) (fun k e v h => by simpa using h) (fun k e hk h hv => by simp only [vw0, vw1, vw2, h.1, hv, len_eCode, lss_cast]) (fun k e hk h hv => ?_) ⟨by simp [Env.ofArgs_at], by simp [Env.ofArgs_at]⟩ (by simp)) fun e h => ?_
 ·obtain ⟨x, hx, hm⟩ := get_lt hk
  exact ⟨_, by simp only [vw0, vw1, vw2, vw3, vw4, ↓reduceIte, Nat.reduceAdd, beq_self_eq_true, h.1, h.2, hv, ia_eCode hx, eqs2_same], h, hv⟩
 simp only [vw0, vw2, ↓reduceIte]
theorem rNote_refl {m : Nat} {x : SNote} (hl : x.args.length < 1000000000) : callV tVT (m + 2) 80 [eNote x, eNote x] = some (.bool true, []) := by
 refine callV_of (F := v_ref1_SameNote) rfl rfl rfl ?_ (.inr rfl)
 have hI := rInts_refl (m := m) hl
 generalize callV tVT (m + 1) = C at hI
 generalize vTab tVT = V
 simp only [eNote]
 simp only [vw0, vw1, vw2, vw3, vw4, ↓reduceIte, Nat.reduceEqDiff, Nat.reduceAdd, beq_self_eq_true, v_ref1_SameNote, Env.ofArgs_at, Option.getD_some, eqlSame, hI]
theorem rNotes_refl {m : Nat} {l : List SNote} (hl : l.length < 1000000000) (he : ∀ x ∈ l, x.args.length < 1000000000) : callV tVT (m + 3) 89 [eNs l, eNs l] = some (.bool true, []) := by
 refine callV_of (F := v_ref1_SameNotes) rfl rfl rfl ?_ (.inr rfl)
 have hI : ∀ x ∈ l, callV tVT (m + 2) 80 [eNote x, eNote x] = some (.bool true, []) := fun x hx => rNote_refl (he x hx)
 generalize callV tVT (m + 2) = C at hI
 generalize vTab tVT = V
 refine nx (by simp only [vw0]; rfl) ?_
 refine nx (by simp only [vw0, vw1, vw2, vw3, vw4, ↓reduceIte, Env.ofArgs_at, Option.getD_some, eNs, len_ns, neqLen]; rfl) ?_
 rw [ras]
 refine nx (by simp only [vw0, vw2, ↓reduceIte]; rfl) ?_
 refine seq_of (for_run (St := fun _ e => e 0 = .lst (l.map eNote) false ∧ e 1 = .lst (l.map eNote) false) (n := l.length) (by omega) (fun k e v h => by simpa using h) (fun k e hk h hv => by simp only [vw0, vw1, vw2, h.1, hv, len_ns, lss_cast]) (fun k e hk h hv => ?_) ⟨by simp [Env.ofArgs_at], by simp [Env.ofArgs_at]⟩ (by simp)) fun e h => ?_
 ·obtain ⟨x, hx, hm⟩ := get_lt hk
  have hc := hI x hm
  simp only [eNote] at hc
  exact ⟨_, by simp only [vw0, vw1, vw2, vw3, vw4, ↓reduceIte, Nat.reduceAdd, beq_self_eq_true, h.1, h.2, hv, ia_ns hx, hc, un, Bool.not_true]; rfl, by simpa using h, by simpa using hv⟩
 simp only [vw0, vw2, ↓reduceIte]

theorem neqB (x : Bool) : eqb true (.bool x) (.bool x) = some (.bool false) := by cases x <;> rfl
theorem rProg_refl {m : Nat} {p : SProg} (h1 : p.handlers.length < 1000000000) (h2 : p.actors.length < 1000000000) (h3 : p.boot.length < 1000000000) (e1 : ∀ x ∈ p.handlers, x.code.length < 1000000000) (e2 : ∀ x ∈ p.actors, x.regs.length < 1000000000) (e3 : ∀ x ∈ p.boot, x.args.length < 1000000000) : callV tVT (m + 4) 64 [eProg p, eProg p] = some (.bool true, []) := by
 refine callV_of (F := v_ref1_SameProg) rfl rfl rfl ?_ (.inr rfl)
 have hN := rNotes_refl (m := m) h3 e3
 have hK : ∀ x ∈ p.handlers, callV tVT (m + 3) 65 [eCode x.code, eCode x.code] = some (.bool true, []) := fun x hx => rCode_refl (m := m + 2) (e1 x hx)
 have hI : ∀ x ∈ p.actors, callV tVT (m + 3) 90 [eI x.regs, eI x.regs] = some (.bool true, []) := fun x hx => rInts_refl (m := m + 2) (e2 x hx)
 generalize callV tVT (m + 3) = C at hN hK hI
 generalize vTab tVT = V
 obtain ⟨hs, as, ns, fuel⟩ := p
 simp only at *
 have hlen : lenV (eHs hs) = some (.int .i64 hs.length) := len_hs
 have alen : lenV (eAs as) = some (.int .i64 as.length) := len_as
 rw [eProg_eq]
 simp only
 refine nx (by simp only [vw0, vw1, vw2, vw3, vw4, ↓reduceIte, Nat.reduceAdd, beq_self_eq_true, vw5, Env.ofArgs_at, Option.getD_some]; rfl) ?_
 refine nx (by simp only [vw0, vw1, vw2, vw3, vw4, ↓reduceIte, Nat.reduceEqDiff, beq_self_eq_true, vw5, hlen, alen, neqSame, hN, un, Bool.not_true]; rfl) ?_
 rw [ras]
 refine nx (by simp only [vw0, vw2, ↓reduceIte]; rfl) ?_
 refine seq_of (for_run (St := fun _ e => e 2 = .lptr [eHs hs, eAs as, eNs ns, .int .i64 fuel] ∧ e 3 = .lptr [eHs hs, eAs as, eNs ns, .int .i64 fuel]) (n := hs.length) (by omega) (fun k e v h => by simpa using h) (fun k e hk h hv => by simp only [vw0, vw1, vw2, vw4, ↓reduceIte, vw5, h.1, hv, hlen, lss_cast]) (fun k e hk h hv => ?_) ⟨by simp, by simp⟩ (by simp)) fun e ⟨g2, g3⟩ => ?_
 ·obtain ⟨x, hx, hm⟩ := get_lt hk
  have hi : indexAddrPV 2 (eHs hs) (.int .i64 (k : Nat)) = some (.lptr [.int .i64 x.args, eCode x.code]) := ia_hs hx
  exact ⟨_, by simp only [vw0, vw1, vw2, vw3, vw4, ↓reduceIte, Nat.reduceEqDiff, beq_self_eq_true, vw5, h.1, h.2, hv, hi, neqSame, hK x hm, un, Bool.not_true]; rfl, by simpa using h, by simpa using hv⟩
 rw [ras]
 refine nx (by simp only [vw0, vw2, ↓reduceIte]; rfl) ?_
 refine seq_of (for_run (St := fun _ e => e 2 = .lptr [eHs hs, eAs as, eNs ns, .int .i64 fuel] ∧ e 3 = .lptr [eHs hs, eAs as, eNs ns, .int .i64 fuel]) (n := as.length) (by omega) (fun k e v h => by simpa using h) (fun k e hk h hv => by simp only [vw0, vw1, vw2, vw4, ↓reduceIte, vw5, h.1, hv, alen, lss_cast]) (fun k e hk h hv => ?_) ⟨by simp [g2], by simp [g3]⟩ (by simp)) fun e h => ?_
 ·obtain ⟨x, hx, hm⟩ := get_lt hk
  have hi : indexAddrPV 4 (eAs as) (.int .i64 (k : Nat)) = some (.lptr [eI x.regs, .int .i64 x.cap, .int .i64 x.timer, .bool x.armed]) := ia_as hx
  exact ⟨_, by simp only [vw0, vw1, vw2, vw3, vw4, ↓reduceIte, Nat.reduceEqDiff, Nat.reduceAdd, beq_self_eq_true, vw5, h.1, h.2, hv, hi, neqSame, hI x hm, un, Bool.not_true, neqB]; rfl, by simpa using h, by simpa using hv⟩
 simp only [vw0, vw2, ↓reduceIte]
theorem rTask_refl {m : Nat} {t : STask} (h1 : t.prog.handlers.length < 1000000000) (h2 : t.prog.actors.length < 1000000000) (h3 : t.prog.boot.length < 1000000000) (e1 : ∀ x ∈ t.prog.handlers, x.code.length < 1000000000) (e2 : ∀ x ∈ t.prog.actors, x.regs.length < 1000000000) (e3 : ∀ x ∈ t.prog.boot, x.args.length < 1000000000) (h4 : t.watch.length < 1000000000) (e4 : ∀ x ∈ t.watch, x.length < 1000000000) : callV tVT (m + 5) 21 [eTask t, eTask t] = some (.bool true, []) := by
 refine callV_of (F := v_ref20_SameTask) rfl rfl rfl ?_ (.inr rfl)
 have hP := rProg_refl (m := m) h1 h2 h3 e1 e2 e3
 have hK : ∀ x ∈ t.watch, callV tVT (m + 4) 65 [eCode x, eCode x] = some (.bool true, []) := fun x hx => rCode_refl (m := m + 3) (e4 x hx)
 generalize callV tVT (m + 4) = C at hP hK
 generalize vTab tVT = V
 obtain ⟨⟨hs, as, ns, fuel⟩, ws, ⟨b1, b2, b3, b4⟩, ⟨l1, l2⟩⟩ := t
 simp only at *
 have wlen : lenV (eWs ws) = some (.int .i64 ws.length) := len_ws
 have q4 : ∀ a b c d : Int, eqsV true [false, false, false, false] (.agg [.int .i64 a, .int .i64 b, .int .i64 c, .int .i64 d]) (.agg [.int .i64 a, .int .i64 b, .int .i64 c, .int .i64 d]) = some (.bool false) := fun a b c d => by simp [eqsV, eqCells]
 rw [eTask_eq]
 rw [eProg_eq] at hP
 simp only at hP ⊢
 refine nx (by simp only [vw0, vw1, vw2, vw3, vw4, ↓reduceIte, Nat.reduceAdd, beq_self_eq_true, vw5, Env.ofArgs_at, Option.getD_some]; rfl) ?_
 refine nx (by simp only [vw0, vw1, vw2, vw3, vw4, ↓reduceIte, Nat.reduceEqDiff, vw5, wlen, neqLen, hP, un, Bool.not_true, q4, eqs2_same]; rfl) ?_
 rw [ras]
 refine nx (by simp only [vw0, vw2, ↓reduceIte]; rfl) ?_
 refine seq_of (for_run (St := fun _ e => e 2 = .lptr [eHs hs, eAs as, eNs ns, .int .i64 fuel, eWs ws, .int .i64 b1, .int .i64 b2, .int .i64 b3, .int .i64 b4, .int .i64 l1, .int .i64 l2] ∧ e 3 = .lptr [eHs hs, eAs as, eNs ns, .int .i64 fuel, eWs ws, .int .i64 b1, .int .i64 b2, .int .i64 b3, .int .i64 b4, .int .i64 l1, .int .i64 l2]) (n := ws.length) (by omega) (fun k e v h => by simpa using h) (fun k e hk h hv => by simp only [vw0, vw1, vw2, vw4, ↓reduceIte, vw5, h.1, hv, wlen, lss_cast]) (fun k e hk h hv => ?_) ⟨by simp, by simp⟩ (by simp)) fun e h => ?_
 ·obtain ⟨x, hx, hm⟩ := get_lt hk
  have hi : indexAddrPV 1 (eWs ws) (.int .i64 (k : Nat)) = some (.lptr [eCode x]) := ia_ws hx
  exact ⟨_, by simp only [vw0, vw1, vw2, vw3, vw4, ↓reduceIte, vw5, h.1, h.2, hv, hi, hK x hm, un, Bool.not_true]; rfl, by simpa using h, by simpa using hv⟩
 simp only [vw0, vw2, ↓reduceIte]
end Gv

namespace Gv
open Go
variable {C : CallV} {V : Nat → List PV → List PV → Bool}
theorem leqI {a b : Int} : binI .leq .i64 a .i64 b = some (.bool (decide (a ≤ b))) := by simp [binI]
theorem all_mem {α : Type} {l : List α} {q : α → Bool} : (∀ k, k < l.length → (l[k]?).all q = true) ↔ ∀ x ∈ l, q x = true := by
 constructor
 ·intro h x hx
  obtain ⟨k, hk, rfl⟩ := List.mem_iff_getElem.1 hx
  have := h k hk
  rw [List.getElem?_eq_getElem hk] at this
  simpa using this
 ·intro h k hk
  rw [List.getElem?_eq_getElem hk]
  simpa using h _ (List.getElem_mem hk)
def smP (p : SProg) : Bool := decide (p.handlers.length ≤ 18 ∧ p.actors.length ≤ 10 ∧ p.boot.length ≤ 18) && (decide (∀ x ∈ p.handlers, decide (x.code.length ≤ 70) = true) && (decide (∀ x ∈ p.actors, decide (x.regs.length ≤ 10) = true) && decide (∀ x ∈ p.boot, decide (x.args.length ≤ 6) = true)))
def smW (l : List (List SInstr)) : Bool := decide (∀ x ∈ l.take 12, decide (x.length ≤ 70) = true) && decide (l.length ≤ 10)
theorem smallP_V {m : Nat} {p : SProg} : callV tVT (m + 1) 46 [eProg p] = some (.bool (smP p), []) := by
 refine callV_of (F := v_alike_Small) rfl rfl rfl ?_ (.inr rfl)
 generalize callV tVT m = C
 generalize vTab tVT = V
 obtain ⟨hs, as, ns, fuel⟩ := p
 have hlen : lenV (eHs hs) = some (.int .i64 hs.length) := len_hs
 have alen : lenV (eAs as) = some (.int .i64 as.length) := len_as
 have nlen : lenV (eNs ns) = some (.int .i64 ns.length) := len_ns
 rw [eProg_eq]
 simp only
 refine nx (by simp only [vw0, vw1, vw2, vw3, vw4, ↓reduceIte, Nat.reduceAdd, beq_self_eq_true, vw5, Env.ofArgs_at, Option.getD_some]; rfl) ?_
 by_cases hc : hs.length ≤ 18 ∧ as.length ≤ 10 ∧ ns.length ≤ 18
 ·obtain ⟨c1, c2, c3⟩ := hc
  refine nx (by simp only [vw0, vw1, vw2, vw3, vw4, ↓reduceIte, vw5, hlen, alen, nlen, gtrI, show ¬ (18 : Int) < hs.length by omega, show ¬ (10 : Int) < as.length by omega, show ¬ (18 : Int) < ns.length by omega, decide_false]; rfl) ?_
  have hr : smP ⟨hs, as, ns, fuel⟩ = (decide (∀ x ∈ hs, decide (x.code.length ≤ 70) = true) && (decide (∀ x ∈ as, decide (x.regs.length ≤ 10) = true) && decide (∀ x ∈ ns, decide (x.args.length ≤ 6) = true))) := by
   simp only [smP, c1, c2, c3, and_self, decide_true, Bool.true_and]
  rw [hr]
  rw [ras]
  refine nx (by simp only [vw0, vw2, ↓reduceIte]; rfl) ?_
  let St : Nat → Env → Prop := fun _ e => e 1 = .lptr [eHs hs, eAs as, eNs ns, .int .i64 fuel]
  refine all_seq (n := hs.length) (by omega) (fun k => (hs[k]?).all fun x => decide (x.code.length ≤ 70)) (.bool false) St _ (fun k e v h => by simpa [St] using h)
   (fun k e hk h hv => by have h : e 1 = _ := h; by_cases hkn : k < hs.length <;> simp only [vw0, vw1, vw2, vw3, vw4, ↓reduceIte, vw5, h, hv, hlen, lss_idx, hkn, decide_true, decide_false])
   (fun k e hk h hv => by
    obtain ⟨x, hx, _⟩ := get_lt hk
    have h : e 1 = _ := h
    have hi : indexAddrPV 2 (eHs hs) (.int .i64 (k : Nat)) = some (.lptr [.int .i64 x.args, eCode x.code]) := ia_hs hx
    by_cases hxy : x.code.length ≤ 70
    ·refine ⟨_, by simp only [vw0, vw1, vw2, vw3, vw4, ↓reduceIte, vw5, h, hv, hi, len_eCode, gtrI, show ¬ (70 : Int) < x.code.length by omega, decide_false]; rfl, ?_⟩
     simp [hx, hxy, h, hv, St]
    ·refine ⟨_, by simp only [vw0, vw1, vw2, vw3, vw4, ↓reduceIte, vw5, h, hv, hi, len_eCode, gtrI, show (70 : Int) < x.code.length by omega, decide_true]; rfl, ?_⟩
     simp [hx, hxy]) all_mem (fun hP e h => ?_) (fun hP => by rw [decide_eq_false hP, Bool.false_and]) (by simp [St]) (by simp)
  have h : e 1 = _ := h
  rw [decide_eq_true hP, Bool.true_and]
  rw [ras]
  refine nx (by simp only [vw0, vw2, ↓reduceIte]; rfl) ?_
  refine all_seq (n := as.length) (by omega) (fun k => (as[k]?).all fun x => decide (x.regs.length ≤ 10)) (.bool false) St _ (fun k e v h => by simpa [St] using h)
   (fun k e hk h hv => by have h : e 1 = _ := h; by_cases hkn : k < as.length <;> simp only [vw0, vw1, vw2, vw3, vw4, ↓reduceIte, vw5, h, hv, alen, lss_idx, hkn, decide_true, decide_false])
   (fun k e hk h hv => by
    obtain ⟨x, hx, _⟩ := get_lt hk
    have h : e 1 = _ := h
    have hi : indexAddrPV 4 (eAs as) (.int .i64 (k : Nat)) = some (.lptr [eI x.regs, .int .i64 x.cap, .int .i64 x.timer, .bool x.armed]) := ia_as hx
    by_cases hxy : x.regs.length ≤ 10
    ·refine ⟨_, by simp only [vw0, vw1, vw2, vw3, vw4, ↓reduceIte, vw5, h, hv, hi, len_eI, gtrI, show ¬ (10 : Int) < x.regs.length by omega, decide_false]; rfl, ?_⟩
     simp [hx, hxy, h, hv, St]
    ·refine ⟨_, by simp only [vw0, vw1, vw2, vw3, vw4, ↓reduceIte, vw5, h, hv, hi, len_eI, gtrI, show (10 : Int) < x.regs.length by omega, decide_true]; rfl, ?_⟩
     simp [hx, hxy]) all_mem (fun hP e h => ?_) (fun hP => by rw [decide_eq_false hP, Bool.false_and]) (by simp [St, h]) (by simp)
  have h : e 1 = _ := h
  rw [decide_eq_true hP, Bool.true_and]
  rw [ras]
  refine nx (by simp only [vw0, vw2, ↓reduceIte]; rfl) ?_
  refine all_seq (n := ns.length) (by omega) (fun k => (ns[k]?).all fun x => decide (x.args.length ≤ 6)) (.bool false) St _ (fun k e v h => by simpa [St] using h)
   (fun k e hk h hv => by have h : e 1 = _ := h; by_cases hkn : k < ns.length <;> simp only [vw0, vw1, vw2, vw3, vw4, ↓reduceIte, vw5, h, hv, nlen, lss_idx, hkn, decide_true, decide_false])
   (fun k e hk h hv => by
    obtain ⟨x, hx, _⟩ := get_lt hk
    have h : e 1 = _ := h
    have hi : indexAddrPV 3 (eNs ns) (.int .i64 (k : Nat)) = some (.lptr [.int .i64 x.to, .int .i64 x.handler, eI x.args]) := ia_ns hx
    by_cases hxy : x.args.length ≤ 6
    ·refine ⟨_, by simp only [vw0, vw1, vw2, vw3, vw4, ↓reduceIte, vw5, h, hv, hi, len_eI, gtrI, show ¬ (6 : Int) < x.args.length by omega, decide_false]; rfl, ?_⟩
     simp [hx, hxy, h, hv, St]
    ·refine ⟨_, by simp only [vw0, vw1, vw2, vw3, vw4, ↓reduceIte, vw5, h, hv, hi, len_eI, gtrI, show (6 : Int) < x.args.length by omega, decide_true]; rfl, ?_⟩
     simp [hx, hxy]) all_mem (fun hP e h => ?_) (fun hP => by rw [decide_eq_false hP]) (by simp [St, h]) (by simp)
  rw [decide_eq_true hP]
  simp only [vw0, vw2, ↓reduceIte]
 ·have hr : smP ⟨hs, as, ns, fuel⟩ = false := by
   simp only [smP, decide_eq_false hc, Bool.false_and]
  rw [hr]
  refine den_seq_ret ?_
  by_cases c1 : (18 : Int) < hs.length
  ·simp only [vw0, vw1, vw2, vw3, vw4, ↓reduceIte, reduceCtorEq, vw5, hlen, alen, nlen, gtrI, c1, decide_true]
  ·by_cases c2 : (10 : Int) < as.length
   ·simp only [vw0, vw1, vw2, vw3, vw4, ↓reduceIte, reduceCtorEq, vw5, hlen, alen, nlen, gtrI, c1, c2, decide_true, decide_false]
   ·have c3 : (18 : Int) < ns.length := by omega
    simp only [vw0, vw1, vw2, vw3, vw4, ↓reduceIte, vw5, hlen, alen, nlen, gtrI, c1, c2, c3, decide_true, decide_false]
theorem smallW_V {m : Nat} {l : List (List SInstr)} : callV tVT (m + 1) 47 [eWs l] = some (.bool (smW l), []) := by
 refine callV_of (F := v_alike_Watches) rfl rfl rfl ?_ (.inr rfl)
 generalize callV tVT m = C
 generalize vTab tVT = V
 have wlen : lenV (eWs l) = some (.int .i64 l.length) := len_ws
 have tl : (l.take 12).length = min 12 l.length := List.length_take
 refine nx (by simp only [vw0]; rfl) ?_
 rw [ras]
 refine nx (by simp only [vw0, vw2, ↓reduceIte]; rfl) ?_
 let St : Nat → Env → Prop := fun _ e => e 0 = eWs l
 refine all_seq (n := (l.take 12).length) (by omega) (fun k => ((l.take 12)[k]?).all fun x => decide (x.length ≤ 70)) (.bool false) St _ (fun k e v h => by simpa [St] using h)
  (fun k e hk h hv => by
   have h : e 0 = _ := h
   by_cases hkn : k < (l.take 12).length
   ·simp only [vw0, vw1, vw2, vw3, vw4, ↓reduceIte, h, hv, wlen, lssI, hkn, show (k : Int) < l.length by omega, show (k : Int) < 12 by omega, decide_true]
   ·by_cases h12 : k < l.length
    ·simp only [vw0, vw1, vw2, vw3, vw4, ↓reduceIte, h, hv, wlen, lssI, hkn, show (k : Int) < l.length by omega, show ¬ (k : Int) < 12 by omega, decide_true, decide_false]
    ·simp only [vw0, vw1, vw2, vw3, vw4, ↓reduceIte, h, hv, wlen, lssI, hkn, show ¬ (k : Int) < l.length by omega, decide_false])
  (fun k e hk h hv => by
   obtain ⟨x, hx, _⟩ := get_lt hk
   have h : e 0 = _ := h
   have hx' : l[k]? = some x := by rw [List.getElem?_take] at hx; split at hx; exact hx; cases hx
   have hi : indexAddrPV 1 (eWs l) (.int .i64 (k : Nat)) = some (.lptr [eCode x]) := ia_ws hx'
   by_cases hxy : x.length ≤ 70
   ·refine ⟨_, by simp only [vw0, vw1, vw2, vw3, vw4, ↓reduceIte, h, hv, hi, len_eCode, gtrI, show ¬ (70 : Int) < x.length by omega, decide_false]; rfl, ?_⟩
    simp only [hx, Option.all_some, hxy, decide_true, if_true]
    exact ⟨e, rfl, h, hv⟩
   ·refine ⟨_, by simp only [vw0, vw1, vw2, vw3, vw4, ↓reduceIte, h, hv, hi, len_eCode, gtrI, show (70 : Int) < x.length by omega, decide_true]; rfl, ?_⟩
    simp only [hx, Option.all_some, hxy, decide_false, Bool.false_eq_true, if_false]) all_mem (fun hP e h => ?_) (fun hP => by rw [smW, decide_eq_false hP, Bool.false_and]) (by simp [St, Env.ofArgs_at]) (by simp)
 have h : e 0 = _ := h
 have hd : decide ((l.length : Int) ≤ 10) = decide (l.length ≤ 10) := by simp; omega
 rw [smW, decide_eq_true hP, Bool.true_and]
 simp only [vw0, vw1, vw2, ↓reduceIte, h, wlen, leqI, hd]
theorem small_V {m : Nat} {t : STask} : callV tVT (m + 2) 15 [eTask t] = some (.bool (smP t.prog && smW t.watch), []) := by
 refine callV_of (F := v_law22_small) rfl rfl rfl ?_ (.inr rfl)
 have h1 := smallP_V (m := m) (p := t.prog)
 have h2 := smallW_V (m := m) (l := t.watch)
 generalize callV tVT (m + 1) = C at h1 h2
 generalize vTab tVT = V
 rw [eTask_eq]
 rw [eProg_eq] at h1
 cases hq : smP t.prog <;> rw [hq] at h1
 ·simp only [vw0, vw1, vw2, vw3, vw4, ↓reduceIte, Nat.reduceEqDiff, Nat.reduceAdd, beq_self_eq_true, v_law22_small, vw5, Env.ofArgs_at, Option.getD_some, h1, show (false == true) = false from rfl]
 ·simp only [vw0, vw1, vw2, vw3, vw4, ↓reduceIte, Nat.reduceEqDiff, Nat.reduceAdd, beq_self_eq_true, v_law22_small, vw5, Env.ofArgs_at, Option.getD_some, h1, h2]
theorem task_V {m : Nat} {t : STask} : callV tVT (m + 1) 18 [eTask t] = some (eTask t, []) := by
 refine callV_of (F := v_law22_task) rfl rfl rfl ?_ (.inl rfl)
 rw [eTask_eq]
 simp only [vw0, vw1, vw2, vw3, vw4, ↓reduceIte, Nat.reduceAdd, beq_self_eq_true, v_law22_task, vw5, Env.ofArgs_at, Option.getD_some]
end Gv

namespace Gv
open Go
variable {C : CallV} {V : Nat → List PV → List PV → Bool}
theorem flat_le {α : Type} {f : α → List Nat} {l : List α} {c : Nat} (h : ∀ x ∈ l, (f x).length ≤ c) : (l.flatMap f).length ≤ l.length * c := by
 induction l with
 | nil => simp
 | cons x l ih =>
  have h1 := h x (by simp)
  have h2 := ih (fun y hy => h y (by simp [hy]))
  simp only [List.flatMap_cons, List.length_append, List.length_cons, Nat.add_mul, Nat.one_mul]
  omega
theorem enN_le (l : List Int) : (enN l).length ≤ l.length * 10 := flat_le fun _ _ => nbl _
theorem enCode_le (l : List SInstr) : (enCode l).length ≤ 10 + l.length * 20 := by
 have h : (l.flatMap enInstr).length ≤ l.length * 20 := flat_le fun x _ => by
  rw [enInstr, List.length_append]; have := nbl x.op; have := nbl x.a; omega
 have := nbl (l.length : Int)
 rw [enCode, List.length_append]; omega
theorem enNums_le (l : List Int) : (enNums l).length ≤ 10 + l.length * 10 := by
 have := nbl (l.length : Int)
 have := enN_le l
 rw [enNums, List.length_append]; omega
theorem small_len {t : STask} (hp : smP t.prog = true) (hw : smW t.watch = true) : (enTask t).length < 50000 := by
 obtain ⟨⟨hs, as, ns, fuel⟩, ws, bu, li⟩ := t
 simp only [smP, smW, Bool.and_eq_true, decide_eq_true_eq] at hp hw
 obtain ⟨⟨c1, c2, c3⟩, p1, p2, p3⟩ := hp
 obtain ⟨w1, w2⟩ := hw
 have l1 : (hs.flatMap enHandler).length ≤ hs.length * 1420 := flat_le fun x hx => by
  rw [enHandler, List.length_append]; have := nbl x.args; have := enCode_le x.code; have := p1 x hx; omega
 have l2 : (as.flatMap enActor).length ≤ as.length * 140 := flat_le fun x hx => by
  simp only [enActor, List.length_append]; have := nbl x.cap; have := nbl x.timer; have := nbl (flagI x.armed); have := enNums_le x.regs; have := p2 x hx; omega
 have l3 : (ns.flatMap enNote).length ≤ ns.length * 90 := flat_le fun x hx => by
  simp only [enNote, List.length_append]; have := nbl x.to; have := nbl x.handler; have := enNums_le x.args; have := p3 x hx; omega
 have l4 : (ws.flatMap enCode).length ≤ ws.length * 1410 := flat_le fun x hx => by
  have := enCode_le x; have := w1 x (by rw [List.take_of_length_le (by omega)]; exact hx); omega
 have e1 : hs.length * 1420 ≤ 18 * 1420 := Nat.mul_le_mul_right _ c1
 have e2 : as.length * 140 ≤ 10 * 140 := Nat.mul_le_mul_right _ c2
 have e3 : ns.length * 90 ≤ 18 * 90 := Nat.mul_le_mul_right _ c3
 have e4 : ws.length * 1410 ≤ 10 * 1410 := Nat.mul_le_mul_right _ w2
 have n1 := nbl (hs.length : Int)
 have n2 := nbl (as.length : Int)
 have n3 := nbl (ns.length : Int)
 have n4 := nbl fuel
 have n5 := nbl (ws.length : Int)
 have n6 := enN_le [bu.drop, bu.dup, bu.time, bu.crash, li.depth, li.runs]
 have n7 : enSign.length = 4 := rfl
 simp only [List.length_cons, List.length_nil] at n6
 simp only [enTask, enProg, List.length_append]
 omega
theorem mem_flat_le {α : Type} {f : α → List Nat} {l : List α} {x : α} (h : x ∈ l) : (f x).length ≤ (l.flatMap f).length := by
 induction l with
 | nil => cases h
 | cons y l ih =>
  rw [List.flatMap_cons, List.length_append]
  rcases List.mem_cons.1 h with rfl | h
  ·omega
  ·have := ih h; omega
theorem len_flat_le {α : Type} {f : α → List Nat} (hf : ∀ x, 1 ≤ (f x).length) {l : List α} : l.length ≤ (l.flatMap f).length := by
 induction l with
 | nil => simp
 | cons y l ih => rw [List.flatMap_cons, List.length_append, List.length_cons]; have := hf y; omega
theorem same_refl {m : Nat} {t : STask} (h : (enTask t).length < 1000000000) : callV tVT (m + 5) 21 [eTask t, eTask t] = some (.bool true, []) := by
 obtain ⟨⟨hs, as, ns, fuel⟩, ws, bu, li⟩ := t
 simp only [enTask, enProg, List.length_append] at h
 have q1 := len_flat_le (l := hs) handler_pos
 have q2 := len_flat_le (l := as) actor_pos
 have q3 := len_flat_le (l := ns) note_pos
 have q4 := len_flat_le (l := ws) code_pos
 refine rTask_refl (by simp only; omega) (by simp only; omega) (by simp only; omega) (fun x hx => ?_) (fun x hx => ?_) (fun x hx => ?_) (by simp only; omega) (fun x hx => ?_)
 ·have h1 := mem_flat_le (f := enHandler) (l := hs) hx
  rw [enHandler, List.length_append, enCode, List.length_append] at h1
  have := len_flat_le (l := x.code) instr_pos
  omega
 ·have h1 := mem_flat_le (f := enActor) (l := as) hx
  rw [enActor, List.length_append, enNums, List.length_append, enN] at h1
  have := len_flat_le (l := x.regs) num_pos
  omega
 ·have h1 := mem_flat_le (f := enNote) (l := ns) hx
  rw [enNote, List.length_append, List.length_append, enNums, List.length_append, enN] at h1
  have := len_flat_le (l := x.args) num_pos
  omega
 ·have h1 := mem_flat_le (f := enCode) (l := ws) hx
  rw [enCode, List.length_append] at h1
  have := len_flat_le (l := x) instr_pos
  omega
def zT : STask := ⟨⟨[], [], [], 0⟩, [], ⟨0, 0, 0, 0⟩, ⟨0, 0⟩⟩
end Gv

namespace Gv
open Go
variable {C : CallV} {V : Nat → List PV → List PV → Bool}
theorem neqI' (x y : Int) : binI .neq .i64 x .i64 y = some (.bool (!decide (x = y))) := by
 rw [neqI]; congr 2
theorem eqlI' (x y : Int) : binI .eql .i64 x .i64 y = some (.bool (decide (x = y))) := by
 rw [eqlI]; congr 2
theorem neqLn (a b : Nat) : binI .neq .i64 (a : Int) .i64 (b : Int) = some (.bool (!decide (a = b))) := by
 rw [neqI']
 have : decide ((a : Int) = (b : Int)) = decide (a = b) := by rw [decide_eq_decide]; omega
 rw [this]
theorem get_eq' {α : Type} [DecidableEq α] {a b : List α} (hl : a.length = b.length) : (∀ k, k < a.length → decide (a[k]? = b[k]?) = true) ↔ a = b := by
 simp only [decide_eq_true_eq]
 constructor
 ·intro h
  apply List.ext_getElem?
  intro i
  by_cases hi : i < a.length
  ·exact h i hi
  ·rw [List.getElem?_eq_none (by omega), List.getElem?_eq_none (by omega)]
 ·rintro rfl k _; rfl
theorem eqInts_V {m : Nat} (a b : List Int) (ha : a.length < 1000000000) : callV tVT (m + 1) 100 [eI a, eI b] = some (.bool (decide (a = b)), []) := by
 refine callV_of (F := v_slices_Equal_int_int) rfl rfl rfl ?_ (.inr rfl)
 generalize callV tVT m = C
 generalize vTab tVT = V
 refine nx (by simp only [vw0]; rfl) ?_
 by_cases hl : a.length = b.length
 ·refine nx (by simp only [vw0, vw1, vw2, vw3, vw4, ↓reduceIte, Env.ofArgs_at, Option.getD_some, len_eI, neqLn, hl, decide_true, Bool.not_true]; rfl) ?_
  rw [ras]
  refine nx (by simp only [vw0, vw1, vw2, vw4, ↓reduceIte, Env.ofArgs_at, Option.getD_some, len_eI]; rfl) ?_
  refine all_seqA (n := a.length) (by omega) (fun k => decide (a[k]? = b[k]?)) (.bool false) (fun _ e => e 0 = eI a ∧ e 1 = eI b ∧ e 12 = .int .i64 a.length) (a = b) (fun k e v h => by simpa using h) (fun k e h => h.2.2)
   (fun k e hk h hv => by
    obtain ⟨x, hx, _⟩ := get_lt hk
    obtain ⟨y, hy, _⟩ := get_lt (l := b) (k := k) (by omega)
    by_cases hxy : x = y
    ·refine ⟨_, by simp only [vw0, vw1, vw2, vw3, vw4, ↓reduceIte, Nat.reduceEqDiff, reduceCtorEq, h.1, h.2.1, hv, ia_eI hx, ia_eI hy, neqI', hxy, decide_true, Bool.not_true]; rfl, ?_⟩
     simp [hx, hy, hxy, h.1, h.2, hv]
    ·refine ⟨_, by simp only [vw0, vw1, vw2, vw3, vw4, ↓reduceIte, Nat.reduceEqDiff, reduceCtorEq, h.1, h.2.1, hv, ia_eI hx, ia_eI hy, neqI', hxy, decide_false, Bool.not_false]; rfl, ?_⟩
     simp [hx, hy, hxy])
   (get_eq' hl) (fun hab e _ => by simp only [vw0, vw2, ↓reduceIte, hab, decide_true]) (fun hab => by simp [hab]) ⟨by simp [Env.ofArgs_at], by simp [Env.ofArgs_at], by simp⟩ (by simp)
 ·have hab : a ≠ b := fun h => hl (by rw [h])
  refine den_seq_ret ?_
  simp only [vw0, vw1, vw2, vw3, vw4, ↓reduceIte, Env.ofArgs_at, Option.getD_some, len_eI, neqLn, hl, hab, decide_false, Bool.not_false]
theorem eqs_ins (n : Bool) (x y : SInstr) : eqsV n [false, false] (.agg [.int .i64 x.op, .int .i64 x.a]) (.agg [.int .i64 y.op, .int .i64 y.a]) = some (.bool (if n then !decide (x = y) else decide (x = y))) := by
 obtain ⟨a, b⟩ := x
 obtain ⟨c, d⟩ := y
 cases n <;> simp [eqsV, eqCells, Bool.beq_eq_decide_eq]
theorem eqCode_V {m : Nat} (a b : List SInstr) (ha : a.length < 1000000000) : callV tVT (m + 1) 101 [eCode a, eCode b] = some (.bool (decide (a = b)), []) := by
 refine callV_of (F := v_slices_Equal_api_Instr_api_Instr) rfl rfl rfl ?_ (.inr rfl)
 generalize callV tVT m = C
 generalize vTab tVT = V
 refine nx (by simp only [vw0]; rfl) ?_
 by_cases hl : a.length = b.length
 ·refine nx (by simp only [vw0, vw1, vw2, vw3, vw4, ↓reduceIte, Env.ofArgs_at, Option.getD_some, len_eCode, neqLn, hl, decide_true, Bool.not_true]; rfl) ?_
  rw [ras]
  refine nx (by simp only [vw0, vw1, vw2, vw4, ↓reduceIte, Env.ofArgs_at, Option.getD_some, len_eCode]; rfl) ?_
  refine all_seqA (n := a.length) (by omega) (fun k => decide (a[k]? = b[k]?)) (.bool false) (fun _ e => e 0 = eCode a ∧ e 1 = eCode b ∧ e 12 = .int .i64 a.length) (a = b) (fun k e v h => by simpa using h) (fun k e h => h.2.2)
   (fun k e hk h hv => by
    obtain ⟨x, hx, _⟩ := get_lt hk
    obtain ⟨y, hy, _⟩ := get_lt (l := b) (k := k) (by omega)
    by_cases hxy : x = y
    ·refine ⟨_, by simp only [vw0, vw1, vw2, vw3, vw4, ↓reduceIte, Nat.reduceEqDiff, reduceCtorEq, Nat.reduceAdd, beq_self_eq_true, h.1, h.2.1, hv, ia_eCode hx, ia_eCode hy, eqs_ins, hxy, decide_true, Bool.not_true]; rfl, ?_⟩
     simp [hx, hy, hxy, h.1, h.2, hv]
    ·refine ⟨_, by simp only [vw0, vw1, vw2, vw3, vw4, ↓reduceIte, Nat.reduceEqDiff, reduceCtorEq, Nat.reduceAdd, beq_self_eq_true, h.1, h.2.1, hv, ia_eCode hx, ia_eCode hy, eqs_ins, hxy, decide_false, Bool.not_false]; rfl, ?_⟩
     simp [hx, hy, hxy])
   (get_eq' hl) (fun hab e _ => by simp only [vw0, vw2, ↓reduceIte, hab, decide_true]) (fun hab => by simp [hab]) ⟨by simp [Env.ofArgs_at], by simp [Env.ofArgs_at], by simp⟩ (by simp)
 ·have hab : a ≠ b := fun h => hl (by rw [h])
  refine den_seq_ret ?_
  simp only [vw0, vw1, vw2, vw3, vw4, ↓reduceIte, Env.ofArgs_at, Option.getD_some, len_eCode, neqLn, hl, hab, decide_false, Bool.not_false]
theorem eqWatch_V {m : Nat} (a b : List SInstr) (ha : a.length < 1000000000) : callV tVT (m + 1) 67 [eCode a, eCode b] = some (.bool (decide (a = b)), []) := by
 refine callV_of (F := v_slices_Equal_api_Watch_api_Instr) rfl rfl rfl ?_ (.inr rfl)
 generalize callV tVT m = C
 generalize vTab tVT = V
 refine nx (by simp only [vw0]; rfl) ?_
 by_cases hl : a.length = b.length
 ·refine nx (by simp only [vw0, vw1, vw2, vw3, vw4, ↓reduceIte, Env.ofArgs_at, Option.getD_some, len_eCode, neqLn, hl, decide_true, Bool.not_true]; rfl) ?_
  rw [ras]
  refine nx (by simp only [vw0, vw1, vw2, vw4, ↓reduceIte, Env.ofArgs_at, Option.getD_some, len_eCode]; rfl) ?_
  refine all_seqA (n := a.length) (by omega) (fun k => decide (a[k]? = b[k]?)) (.bool false) (fun _ e => e 0 = eCode a ∧ e 1 = eCode b ∧ e 12 = .int .i64 a.length) (a = b) (fun k e v h => by simpa using h) (fun k e h => h.2.2)
   (fun k e hk h hv => by
    obtain ⟨x, hx, _⟩ := get_lt hk
    obtain ⟨y, hy, _⟩ := get_lt (l := b) (k := k) (by omega)
    by_cases hxy : x = y
    ·refine ⟨_, by simp only [vw0, vw1, vw2, vw3, vw4, ↓reduceIte, Nat.reduceEqDiff, reduceCtorEq, Nat.reduceAdd, beq_self_eq_true, h.1, h.2.1, hv, ia_eCode hx, ia_eCode hy, eqs_ins, hxy, decide_true, Bool.not_true]; rfl, ?_⟩
     simp [hx, hy, hxy, h.1, h.2, hv]
    ·refine ⟨_, by simp only [vw0, vw1, vw2, vw3, vw4, ↓reduceIte, Nat.reduceEqDiff, reduceCtorEq, Nat.reduceAdd, beq_self_eq_true, h.1, h.2.1, hv, ia_eCode hx, ia_eCode hy, eqs_ins, hxy, decide_false, Bool.not_false]; rfl, ?_⟩
     simp [hx, hy, hxy])
   (get_eq' hl) (fun hab e _ => by simp only [vw0, vw2, ↓reduceIte, hab, decide_true]) (fun hab => by simp [hab]) ⟨by simp [Env.ofArgs_at], by simp [Env.ofArgs_at], by simp⟩ (by simp)
 ·have hab : a ≠ b := fun h => hl (by rw [h])
  refine den_seq_ret ?_
  simp only [vw0, vw1, vw2, vw3, vw4, ↓reduceIte, Env.ofArgs_at, Option.getD_some, len_eCode, neqLn, hl, hab, decide_false, Bool.not_false]
theorem same1_V {m : Nat} (a b : List SInstr) (ha : a.length < 1000000000) : callV tVT (m + 2) 66 [eCode a, eCode b] = some (.bool (decide (a = b)), []) := by
 refine callV_of (F := v_wire_Same_1) rfl rfl rfl ?_ (.inr rfl)
 have h := eqWatch_V (m := m) a b ha
 generalize callV tVT (m + 1) = C at h
 generalize vTab tVT = V
 simp only [vw0, vw1, vw2, vw4, ↓reduceIte, v_wire_Same_1, Env.ofArgs_at, Option.getD_some, h]
end Gv

namespace Gv
open Go
variable {C : CallV} {V : Nat → List PV → List PV → Bool}
theorem eqfW {m fn : Nat} (a b : List (List SInstr)) (ha : a.length < 1000000000) (hC : ∀ x ∈ a, ∀ y, callV tVT m fn [eCode x, eCode y] = some (.bool (decide (x = y)), [])) (hV : ∀ x y, vTab tVT fn [x, y] [] = true) : callV tVT (m + 1) 69 [eWs a, eWs b, .fn fn []] = some (.bool (decide (a = b)), []) := by
 refine callV_of (F := v_slices_EqualFunc_api_Watch_api_Watch_api_Watch_api_Watch) rfl rfl rfl ?_ (.inr rfl)
 generalize callV tVT m = C at hC
 generalize vTab tVT = V at hV
 have la : lenV (eWs a) = some (.int .i64 a.length) := len_ws
 have lb : lenV (eWs b) = some (.int .i64 b.length) := len_ws
 refine nx (by simp only [vw0]; rfl) ?_
 by_cases hl : a.length = b.length
 ·refine nx (by simp only [vw0, vw1, vw2, vw3, vw4, ↓reduceIte, Env.ofArgs_at, Option.getD_some, la, lb, neqLn, hl, decide_true, Bool.not_true]; rfl) ?_
  rw [ras]
  refine nx (by simp only [vw0, vw1, vw2, vw4, ↓reduceIte, Env.ofArgs_at, Option.getD_some, la]; rfl) ?_
  refine all_seqA (n := a.length) (by omega) (fun k => decide (a[k]? = b[k]?)) (.bool false) (fun _ e => e 15 = eWs a ∧ e 1 = eWs b ∧ e 2 = .fn fn [] ∧ e 16 = .int .i64 a.length) (a = b) (fun k e v h => by simpa using h) (fun k e h => h.2.2.2)
   (fun k e hk ⟨h1, h2, h3, h4⟩ hv => by
    obtain ⟨x, hx, hm⟩ := get_lt hk
    obtain ⟨y, hy, _⟩ := get_lt (l := b) (k := k) (by omega)
    have hc := hC x hm y
    have ix : indexAddrPV 1 (eWs a) (.int .i64 (k : Nat)) = some (.lptr [eCode x]) := ia_ws hx
    have iy : indexAddrPV 1 (eWs b) (.int .i64 (k : Nat)) = some (.lptr [eCode y]) := ia_ws hy
    skip
    by_cases hxy : x = y
    ·simp only [hxy, decide_true] at hc ix
     refine ⟨_, by simp only [vw0, vw1, vw2, vw3, vw4, ↓reduceIte, Nat.reduceEqDiff, h1, h2, h3, hv, ix, iy, hV, List.append_nil, hc, un, Bool.not_true]; rfl, ?_⟩
     simp [hx, hy, hxy, h1, h2, h3, h4, hv]
    ·simp only [decide_eq_false hxy] at hc
     refine ⟨_, by simp only [vw0, vw1, vw2, vw3, vw4, ↓reduceIte, Nat.reduceEqDiff, h1, h2, h3, hv, ix, iy, hV, List.append_nil, hc, un, Bool.not_false]; rfl, ?_⟩
     simp [hx, hy, hxy])
   (get_eq' hl) (fun hab e _ => by simp only [vw0, vw2, ↓reduceIte, hab, decide_true]) (fun hab => by simp [hab]) ⟨by simp [], by simp [Env.ofArgs_at], by simp [Env.ofArgs_at], by simp⟩ (by simp)
 ·have hab : a ≠ b := fun h => hl (by rw [h])
  refine den_seq_ret ?_
  simp only [vw0, vw1, vw2, vw3, vw4, ↓reduceIte, Env.ofArgs_at, Option.getD_some, la, lb, neqLn, hl, hab, decide_false, Bool.not_false]
theorem eqfH {m fn : Nat} (a b : List SHandler) (ha : a.length < 1000000000) (hC : ∀ x ∈ a, ∀ y, callV tVT m fn [eHandler x, eHandler y] = some (.bool (decide (x = y)), [])) (hV : ∀ x y, vTab tVT fn [x, y] [] = true) : callV tVT (m + 1) 91 [eHs a, eHs b, .fn fn []] = some (.bool (decide (a = b)), []) := by
 refine callV_of (F := v_slices_EqualFunc_api_Handler_api_Handler_api_Handler_api_Handler) rfl rfl rfl ?_ (.inr rfl)
 generalize callV tVT m = C at hC
 generalize vTab tVT = V at hV
 have la : lenV (eHs a) = some (.int .i64 a.length) := len_hs
 have lb : lenV (eHs b) = some (.int .i64 b.length) := len_hs
 refine nx (by simp only [vw0]; rfl) ?_
 by_cases hl : a.length = b.length
 ·refine nx (by simp only [vw0, vw1, vw2, vw3, vw4, ↓reduceIte, Env.ofArgs_at, Option.getD_some, la, lb, neqLn, hl, decide_true, Bool.not_true]; rfl) ?_
  rw [ras]
  refine nx (by simp only [vw0, vw1, vw2, vw4, ↓reduceIte, Env.ofArgs_at, Option.getD_some, la]; rfl) ?_
  refine all_seqA (n := a.length) (by omega) (fun k => decide (a[k]? = b[k]?)) (.bool false) (fun _ e => e 15 = eHs a ∧ e 1 = eHs b ∧ e 2 = .fn fn [] ∧ e 16 = .int .i64 a.length) (a = b) (fun k e v h => by simpa using h) (fun k e h => h.2.2.2)
   (fun k e hk ⟨h1, h2, h3, h4⟩ hv => by
    obtain ⟨x, hx, hm⟩ := get_lt hk
    obtain ⟨y, hy, _⟩ := get_lt (l := b) (k := k) (by omega)
    have hc := hC x hm y
    have ix : indexAddrPV 2 (eHs a) (.int .i64 (k : Nat)) = some (.lptr [.int .i64 x.args, eCode x.code]) := ia_hs hx
    have iy : indexAddrPV 2 (eHs b) (.int .i64 (k : Nat)) = some (.lptr [.int .i64 y.args, eCode y.code]) := ia_hs hy
    simp only [eHandler] at hc
    by_cases hxy : x = y
    ·simp only [hxy, decide_true] at hc ix
     refine ⟨_, by simp only [vw0, vw1, vw2, vw3, vw4, ↓reduceIte, Nat.reduceEqDiff, Nat.reduceAdd, beq_self_eq_true, h1, h2, h3, hv, ix, iy, hV, List.append_nil, hc, un, Bool.not_true]; rfl, ?_⟩
     simp [hx, hy, hxy, h1, h2, h3, h4, hv]
    ·simp only [decide_eq_false hxy] at hc
     refine ⟨_, by simp only [vw0, vw1, vw2, vw3, vw4, ↓reduceIte, Nat.reduceEqDiff, Nat.reduceAdd, beq_self_eq_true, h1, h2, h3, hv, ix, iy, hV, List.append_nil, hc, un, Bool.not_false]; rfl, ?_⟩
     simp [hx, hy, hxy])
   (get_eq' hl) (fun hab e _ => by simp only [vw0, vw2, ↓reduceIte, hab, decide_true]) (fun hab => by simp [hab]) ⟨by simp [], by simp [Env.ofArgs_at], by simp [Env.ofArgs_at], by simp⟩ (by simp)
 ·have hab : a ≠ b := fun h => hl (by rw [h])
  refine den_seq_ret ?_
  simp only [vw0, vw1, vw2, vw3, vw4, ↓reduceIte, Env.ofArgs_at, Option.getD_some, la, lb, neqLn, hl, hab, decide_false, Bool.not_false]
theorem eqfA {m fn : Nat} (a b : List SActor) (ha : a.length < 1000000000) (hC : ∀ x ∈ a, ∀ y, callV tVT m fn [eActor x, eActor y] = some (.bool (decide (x = y)), [])) (hV : ∀ x y, vTab tVT fn [x, y] [] = true) : callV tVT (m + 1) 93 [eAs a, eAs b, .fn fn []] = some (.bool (decide (a = b)), []) := by
 refine callV_of (F := v_slices_EqualFunc_api_Actor_api_Actor_api_Actor_api_Actor) rfl rfl rfl ?_ (.inr rfl)
 generalize callV tVT m = C at hC
 generalize vTab tVT = V at hV
 have la : lenV (eAs a) = some (.int .i64 a.length) := len_as
 have lb : lenV (eAs b) = some (.int .i64 b.length) := len_as
 refine nx (by simp only [vw0]; rfl) ?_
 by_cases hl : a.length = b.length
 ·refine nx (by simp only [vw0, vw1, vw2, vw3, vw4, ↓reduceIte, Env.ofArgs_at, Option.getD_some, la, lb, neqLn, hl, decide_true, Bool.not_true]; rfl) ?_
  rw [ras]
  refine nx (by simp only [vw0, vw1, vw2, vw4, ↓reduceIte, Env.ofArgs_at, Option.getD_some, la]; rfl) ?_
  refine all_seqA (n := a.length) (by omega) (fun k => decide (a[k]? = b[k]?)) (.bool false) (fun _ e => e 15 = eAs a ∧ e 1 = eAs b ∧ e 2 = .fn fn [] ∧ e 16 = .int .i64 a.length) (a = b) (fun k e v h => by simpa using h) (fun k e h => h.2.2.2)
   (fun k e hk ⟨h1, h2, h3, h4⟩ hv => by
    obtain ⟨x, hx, hm⟩ := get_lt hk
    obtain ⟨y, hy, _⟩ := get_lt (l := b) (k := k) (by omega)
    have hc := hC x hm y
    have ix : indexAddrPV 4 (eAs a) (.int .i64 (k : Nat)) = some (.lptr [eI x.regs, .int .i64 x.cap, .int .i64 x.timer, .bool x.armed]) := ia_as hx
    have iy : indexAddrPV 4 (eAs b) (.int .i64 (k : Nat)) = some (.lptr [eI y.regs, .int .i64 y.cap, .int .i64 y.timer, .bool y.armed]) := ia_as hy
    simp only [eActor] at hc
    by_cases hxy : x = y
    ·simp only [hxy, decide_true] at hc ix
     refine ⟨_, by simp only [vw0, vw1, vw2, vw3, vw4, ↓reduceIte, Nat.reduceEqDiff, Nat.reduceAdd, beq_self_eq_true, h1, h2, h3, hv, ix, iy, hV, List.append_nil, hc, un, Bool.not_true]; rfl, ?_⟩
     simp [hx, hy, hxy, h1, h2, h3, h4, hv]
    ·simp only [decide_eq_false hxy] at hc
     refine ⟨_, by simp only [vw0, vw1, vw2, vw3, vw4, ↓reduceIte, Nat.reduceEqDiff, Nat.reduceAdd, beq_self_eq_true, h1, h2, h3, hv, ix, iy, hV, List.append_nil, hc, un, Bool.not_false]; rfl, ?_⟩
     simp [hx, hy, hxy])
   (get_eq' hl) (fun hab e _ => by simp only [vw0, vw2, ↓reduceIte, hab, decide_true]) (fun hab => by simp [hab]) ⟨by simp [], by simp [Env.ofArgs_at], by simp [Env.ofArgs_at], by simp⟩ (by simp)
 ·have hab : a ≠ b := fun h => hl (by rw [h])
  refine den_seq_ret ?_
  simp only [vw0, vw1, vw2, vw3, vw4, ↓reduceIte, Env.ofArgs_at, Option.getD_some, la, lb, neqLn, hl, hab, decide_false, Bool.not_false]
theorem eqfN {m fn : Nat} (a b : List SNote) (ha : a.length < 1000000000) (hC : ∀ x ∈ a, ∀ y, callV tVT m fn [eNote x, eNote y] = some (.bool (decide (x = y)), [])) (hV : ∀ x y, vTab tVT fn [x, y] [] = true) : callV tVT (m + 1) 95 [eNs a, eNs b, .fn fn []] = some (.bool (decide (a = b)), []) := by
 refine callV_of (F := v_slices_EqualFunc_api_Note_api_Note_api_Note_api_Note) rfl rfl rfl ?_ (.inr rfl)
 generalize callV tVT m = C at hC
 generalize vTab tVT = V at hV
 have la : lenV (eNs a) = some (.int .i64 a.length) := len_ns
 have lb : lenV (eNs b) = some (.int .i64 b.length) := len_ns
 refine nx (by simp only [vw0]; rfl) ?_
 by_cases hl : a.length = b.length
 ·refine nx (by simp only [vw0, vw1, vw2, vw3, vw4, ↓reduceIte, Env.ofArgs_at, Option.getD_some, la, lb, neqLn, hl, decide_true, Bool.not_true]; rfl) ?_
  rw [ras]
  refine nx (by simp only [vw0, vw1, vw2, vw4, ↓reduceIte, Env.ofArgs_at, Option.getD_some, la]; rfl) ?_
  refine all_seqA (n := a.length) (by omega) (fun k => decide (a[k]? = b[k]?)) (.bool false) (fun _ e => e 15 = eNs a ∧ e 1 = eNs b ∧ e 2 = .fn fn [] ∧ e 16 = .int .i64 a.length) (a = b) (fun k e v h => by simpa using h) (fun k e h => h.2.2.2)
   (fun k e hk ⟨h1, h2, h3, h4⟩ hv => by
    obtain ⟨x, hx, hm⟩ := get_lt hk
    obtain ⟨y, hy, _⟩ := get_lt (l := b) (k := k) (by omega)
    have hc := hC x hm y
    have ix : indexAddrPV 3 (eNs a) (.int .i64 (k : Nat)) = some (.lptr [.int .i64 x.to, .int .i64 x.handler, eI x.args]) := ia_ns hx
    have iy : indexAddrPV 3 (eNs b) (.int .i64 (k : Nat)) = some (.lptr [.int .i64 y.to, .int .i64 y.handler, eI y.args]) := ia_ns hy
    simp only [eNote] at hc
    by_cases hxy : x = y
    ·simp only [hxy, decide_true] at hc ix
     refine ⟨_, by simp only [vw0, vw1, vw2, vw3, vw4, ↓reduceIte, Nat.reduceEqDiff, Nat.reduceAdd, beq_self_eq_true, h1, h2, h3, hv, ix, iy, hV, List.append_nil, hc, un, Bool.not_true]; rfl, ?_⟩
     simp [hx, hy, hxy, h1, h2, h3, h4, hv]
    ·simp only [decide_eq_false hxy] at hc
     refine ⟨_, by simp only [vw0, vw1, vw2, vw3, vw4, ↓reduceIte, Nat.reduceEqDiff, Nat.reduceAdd, beq_self_eq_true, h1, h2, h3, hv, ix, iy, hV, List.append_nil, hc, un, Bool.not_false]; rfl, ?_⟩
     simp [hx, hy, hxy])
   (get_eq' hl) (fun hab e _ => by simp only [vw0, vw2, ↓reduceIte, hab, decide_true]) (fun hab => by simp [hab]) ⟨by simp [], by simp [Env.ofArgs_at], by simp [Env.ofArgs_at], by simp⟩ (by simp)
 ·have hab : a ≠ b := fun h => hl (by rw [h])
  refine den_seq_ret ?_
  simp only [vw0, vw1, vw2, vw3, vw4, ↓reduceIte, Env.ofArgs_at, Option.getD_some, la, lb, neqLn, hl, hab, decide_false, Bool.not_false]
theorem sameH_V {m : Nat} (x y : SHandler) (hx : x.code.length < 1000000000) : callV tVT (m + 2) 92 [eHandler x, eHandler y] = some (.bool (decide (x = y)), []) := by
 refine callV_of (F := v_prog_sameHandler) rfl rfl rfl ?_ (.inr rfl)
 have h := eqCode_V (m := m) x.code y.code hx
 generalize callV tVT (m + 1) = C at h
 generalize vTab tVT = V
 obtain ⟨a, b⟩ := x
 obtain ⟨c, d⟩ := y
 simp only [eHandler] at *
 by_cases h1 : a = c
 ·subst h1
  simp only [vw0, vw1, vw2, vw3, vw4, ↓reduceIte, Nat.reduceEqDiff, Nat.reduceAdd, beq_self_eq_true, v_prog_sameHandler, Env.ofArgs_at, Option.getD_some, eqlI', decide_true, h, SHandler.mk.injEq, true_and]
 ·simp only [vw0, vw1, vw2, vw3, vw4, ↓reduceIte, Nat.reduceEqDiff, Nat.reduceAdd, beq_self_eq_true, v_prog_sameHandler, Env.ofArgs_at, Option.getD_some, eqlI', h1, decide_false, show (false == true) = false from rfl, SHandler.mk.injEq, false_and]
theorem sameN_V {m : Nat} (x y : SNote) (hx : x.args.length < 1000000000) : callV tVT (m + 2) 84 [eNote x, eNote y] = some (.bool (decide (x = y)), []) := by
 refine callV_of (F := v_prog_SameNote) rfl rfl rfl ?_ (.inr rfl)
 have h := eqInts_V (m := m) x.args y.args hx
 generalize callV tVT (m + 1) = C at h
 generalize vTab tVT = V
 obtain ⟨a, b, c⟩ := x
 obtain ⟨a', b', c'⟩ := y
 simp only [eNote] at *
 by_cases h1 : a = a'
 ·subst h1
  by_cases h2 : b = b'
  ·subst h2
   simp only [vw0, vw1, vw2, vw3, vw4, ↓reduceIte, Nat.reduceEqDiff, Nat.reduceAdd, beq_self_eq_true, v_prog_SameNote, Env.ofArgs_at, Option.getD_some, eqlI', decide_true, h, SNote.mk.injEq, true_and]
  ·simp only [vw0, vw1, vw2, vw3, vw4, ↓reduceIte, Nat.reduceEqDiff, Nat.reduceAdd, beq_self_eq_true, v_prog_SameNote, Env.ofArgs_at, Option.getD_some, eqlI', decide_true, h2, decide_false, show (false == true) = false from rfl, SNote.mk.injEq, true_and, false_and]
 ·simp only [vw0, vw1, vw2, vw3, vw4, ↓reduceIte, Nat.reduceEqDiff, Nat.reduceAdd, beq_self_eq_true, v_prog_SameNote, Env.ofArgs_at, Option.getD_some, eqlI', h1, decide_false, show (false == true) = false from rfl, SNote.mk.injEq, false_and]
theorem eqbB (x y : Bool) : eqb false (.bool x) (.bool y) = some (.bool (decide (x = y))) := by cases x <;> cases y <;> rfl
theorem sameA_V {m : Nat} (x y : SActor) (hx : x.regs.length < 1000000000) : callV tVT (m + 2) 94 [eActor x, eActor y] = some (.bool (decide (x = y)), []) := by
 refine callV_of (F := v_prog_sameActor) rfl rfl rfl ?_ (.inr rfl)
 have h := eqInts_V (m := m) x.regs y.regs hx
 generalize callV tVT (m + 1) = C at h
 generalize vTab tVT = V
 obtain ⟨a, b, c, d⟩ := x
 obtain ⟨a', b', c', d'⟩ := y
 simp only [eActor] at *
 by_cases h1 : a = a'
 ·subst h1
  by_cases h2 : b = b'
  ·subst h2
   by_cases h3 : c = c'
   ·subst h3
    simp only [vw0, vw1, vw2, vw3, vw4, ↓reduceIte, Nat.reduceEqDiff, Nat.reduceAdd, beq_self_eq_true, v_prog_sameActor, Env.ofArgs_at, Option.getD_some, eqlI', decide_true, h, eqbB, SActor.mk.injEq, true_and]
   ·simp only [vw0, vw1, vw2, vw3, vw4, ↓reduceIte, Nat.reduceEqDiff, Nat.reduceAdd, beq_self_eq_true, v_prog_sameActor, Env.ofArgs_at, Option.getD_some, eqlI', decide_true, h, h3, decide_false, SActor.mk.injEq, true_and, false_and]
  ·simp only [vw0, vw1, vw2, vw3, vw4, ↓reduceIte, Nat.reduceEqDiff, Nat.reduceAdd, beq_self_eq_true, v_prog_sameActor, Env.ofArgs_at, Option.getD_some, eqlI', decide_true, h, h2, decide_false, SActor.mk.injEq, true_and, false_and]
 ·have h' := h
  rw [decide_eq_false h1] at h'
  simp only [vw0, vw1, vw2, vw3, vw4, ↓reduceIte, Nat.reduceEqDiff, Nat.reduceAdd, beq_self_eq_true, v_prog_sameActor, Env.ofArgs_at, Option.getD_some, eqlI', h', h1, decide_false, SActor.mk.injEq, false_and]
end Gv

namespace Gv
open Go
theorem okTask_of {t : STask} (ht : t.ok) (h : (enTask t).length < 1000000000) : okTask t := by
 obtain ⟨⟨hs, as, ns, fuel⟩, ws, bu, li⟩ := t
 obtain ⟨⟨k1, k2, k3, k4⟩, k5, k6, k7⟩ := ht
 simp only at k1 k2 k3 k4 k5 k6 k7
 simp only [enTask, enProg, List.length_append] at h
 have q1 := len_flat_le (l := hs) handler_pos
 have q2 := len_flat_le (l := as) actor_pos
 have q3 := len_flat_le (l := ns) note_pos
 have q4 := len_flat_le (l := ws) code_pos
 refine ⟨⟨⟨fun x hx => ⟨(k1 x hx).1, (k1 x hx).2, ?_⟩, by simp only; omega⟩, ⟨fun x hx => ⟨⟨(k2 x hx).1, ?_⟩, (k2 x hx).2⟩, by simp only; omega⟩, ⟨fun x hx => ⟨(k3 x hx).1, (k3 x hx).2.1, (k3 x hx).2.2, ?_⟩, by simp only; omega⟩, k4⟩, ⟨fun x hx => ⟨k5 x hx, ?_⟩, by simp only; omega⟩, k6, k7⟩
 ·have h1 := mem_flat_le (f := enHandler) (l := hs) hx
  rw [enHandler, List.length_append, enCode, List.length_append] at h1
  have := len_flat_le (l := x.code) instr_pos
  omega
 ·have h1 := mem_flat_le (f := enActor) (l := as) hx
  rw [enActor, List.length_append, enNums, List.length_append, enN] at h1
  have := len_flat_le (l := x.regs) num_pos
  omega
 ·have h1 := mem_flat_le (f := enNote) (l := ns) hx
  rw [enNote, List.length_append, List.length_append, enNums, List.length_append, enN] at h1
  have := len_flat_le (l := x.args) num_pos
  omega
 ·have h1 := mem_flat_le (f := enCode) (l := ws) hx
  rw [enCode, List.length_append] at h1
  have := len_flat_le (l := x) instr_pos
  omega
theorem enTask_pre {t u : STask} (ht : okTask t) (hu : okTask u) {r : List Nat} (h : enTask t = enTask u ++ r) : r = [] := by
 rw [enTask_body, enTask_body, List.append_assoc] at h
 have h := List.append_cancel_left h
 have h1 := rTask_dec.cpl t [] ht
 have h2 := rTask_dec.cpl u r hu
 rw [List.append_nil, h] at h1
 rw [h1] at h2
 exact (congrArg (fun p : STask × RS => p.2.1) h2).symm
theorem dec_en {t : STask} (ht : okTask t) (hb : BOk (enTask t)) : decTask (enTask t) = some t := (decTask_iff hb).2 ⟨rfl, ht⟩
theorem dec_cut {t : STask} (ht : okTask t) {b r : List Nat} (hb : BOk b) (h : enTask t = b ++ r) (hr : r ≠ []) : decTask b = none := by
 cases hd : decTask b with
 | none => rfl
 | some u =>
  obtain ⟨h1, h2⟩ := (decTask_iff hb).1 hd
  rw [← h1] at h
  exact absurd (enTask_pre ht h2 h) hr
theorem dec_more {t : STask} (ht : okTask t) {r : List Nat} (hb : BOk (enTask t ++ r)) (hr : r ≠ []) : decTask (enTask t ++ r) = none := by
 cases hd : decTask (enTask t ++ r) with
 | none => rfl
 | some u =>
  obtain ⟨h1, h2⟩ := (decTask_iff hb).1 hd
  exact absurd (enTask_pre h2 ht h1) hr
end Gv

namespace Gv
open Go
variable {C : CallV} {V : Nat → List PV → List PV → Bool}
def smlP (p : SProg) : Prop := (p.handlers.length < 1000000000 ∧ ∀ x ∈ p.handlers, x.code.length < 1000000000) ∧ (p.actors.length < 1000000000 ∧ ∀ x ∈ p.actors, x.regs.length < 1000000000) ∧ (p.boot.length < 1000000000 ∧ ∀ x ∈ p.boot, x.args.length < 1000000000)
theorem mfn0 (n : Nat) : mfn n (.tup []) = some (.fn n []) := rfl
theorem ff : (false == true) = false := rfl
theorem progSame_V {m : Nat} (p q : SProg) (hp : smlP p) : callV tVT (m + 4) 68 [eProg p, eProg q] = some (.bool (decide (p = q)), []) := by
 refine callV_of (F := v_prog_Same) rfl rfl rfl ?_ (.inr rfl)
 have hH := eqfH (m := m + 2) (fn := 92) p.handlers q.handlers hp.1.1 (fun x hx y => sameH_V (m := m) x y (hp.1.2 x hx)) (fun _ _ => rfl)
 have hA := eqfA (m := m + 2) (fn := 94) p.actors q.actors hp.2.1.1 (fun x hx y => sameA_V (m := m) x y (hp.2.1.2 x hx)) (fun _ _ => rfl)
 have hN := eqfN (m := m + 2) (fn := 84) p.boot q.boot hp.2.2.1 (fun x hx y => sameN_V (m := m) x y (hp.2.2.2 x hx)) (fun _ _ => rfl)
 generalize callV tVT (m + 2 + 1) = C at hH hA hN
 generalize vTab tVT = V
 obtain ⟨a, b, c, d⟩ := p
 obtain ⟨a', b', c', d'⟩ := q
 simp only at hH hA hN
 rw [eProg_eq, eProg_eq]
 simp only
 by_cases h1 : a = a'
 ·subst h1
  rw [decide_eq_true rfl] at hH
  by_cases h2 : b = b'
  ·subst h2
   rw [decide_eq_true rfl] at hA
   by_cases h3 : c = c'
   ·subst h3
    rw [decide_eq_true rfl] at hN
    simp only [vw0, vw1, vw2, vw3, vw4, ↓reduceIte, Nat.reduceEqDiff, Nat.reduceAdd, beq_self_eq_true, v_prog_Same, vw5, mfn0, Env.ofArgs_at, Option.getD_some, hH, hA, hN, eqlI', SProg.mk.injEq, true_and]
   ·rw [decide_eq_false h3] at hN
    simp only [vw0, vw1, vw2, vw3, vw4, ↓reduceIte, Nat.reduceEqDiff, Nat.reduceAdd, beq_self_eq_true, v_prog_Same, vw5, mfn0, Env.ofArgs_at, Option.getD_some, hH, hA, hN, eqlI', h3, SProg.mk.injEq, true_and, false_and, decide_false]
  ·rw [decide_eq_false h2] at hA
   simp only [vw0, vw1, vw2, vw3, vw4, ↓reduceIte, Nat.reduceEqDiff, Nat.reduceAdd, beq_self_eq_true, v_prog_Same, vw5, mfn0, Env.ofArgs_at, Option.getD_some, hH, hA, ff, eqlI', h2, SProg.mk.injEq, true_and, false_and, decide_false]
 ·rw [decide_eq_false h1] at hH
  simp only [vw0, vw1, vw2, vw3, vw4, ↓reduceIte, Nat.reduceEqDiff, Nat.reduceAdd, beq_self_eq_true, v_prog_Same, vw5, mfn0, Env.ofArgs_at, Option.getD_some, hH, ff, eqlI', h1, SProg.mk.injEq, false_and, decide_false]
theorem eqs4 (x y : SBudget) : eqsV false [false, false, false, false] (.agg [.int .i64 x.drop, .int .i64 x.dup, .int .i64 x.time, .int .i64 x.crash]) (.agg [.int .i64 y.drop, .int .i64 y.dup, .int .i64 y.time, .int .i64 y.crash]) = some (.bool (decide (x = y))) := by
 obtain ⟨a, b, c, d⟩ := x
 obtain ⟨a', b', c', d'⟩ := y
 simp [eqsV, eqCells, Bool.beq_eq_decide_eq]
theorem eqs2L (x y : SLimits) : eqsV false [false, false] (.agg [.int .i64 x.depth, .int .i64 x.runs]) (.agg [.int .i64 y.depth, .int .i64 y.runs]) = some (.bool (decide (x = y))) := by
 obtain ⟨a, b⟩ := x
 obtain ⟨a', b'⟩ := y
 simp [eqsV, eqCells, Bool.beq_eq_decide_eq]
theorem wireSame_V {m : Nat} (t u : STask) (hp : smlP t.prog) (hw : t.watch.length < 1000000000 ∧ ∀ x ∈ t.watch, x.length < 1000000000) : callV tVT (m + 5) 22 [eTask t, eTask u] = some (.bool (decide (t = u)), []) := by
 refine callV_of (F := v_wire_Same) rfl rfl rfl ?_ (.inr rfl)
 have hP := progSame_V (m := m) t.prog u.prog hp
 have hW := eqfW (m := m + 3) (fn := 66) t.watch u.watch hw.1 (fun x hx y => same1_V (m := m + 1) x y (hw.2 x hx)) (fun _ _ => rfl)
 have h4 := eqs4 t.budget u.budget
 have h2 := eqs2L t.limits u.limits
 generalize callV tVT (m + 3 + 1) = C at hP hW
 generalize vTab tVT = V
 obtain ⟨p, w, b, l⟩ := t
 obtain ⟨p', w', b', l'⟩ := u
 rw [eTask_eq, eTask_eq]
 rw [eProg_eq, eProg_eq] at hP
 simp only at hP hW h4 h2 ⊢
 by_cases k1 : p = p'
 ·subst k1
  rw [decide_eq_true rfl] at hP
  by_cases k2 : w = w'
  ·subst k2
   rw [decide_eq_true rfl] at hW
   by_cases k3 : b = b'
   ·subst k3
    rw [decide_eq_true rfl] at h4
    simp only [vw0, vw1, vw2, vw3, vw4, ↓reduceIte, Nat.reduceEqDiff, Nat.reduceAdd, beq_self_eq_true, v_wire_Same, vw5, mfn0, Env.ofArgs_at, Option.getD_some, hP, hW, h4, h2, STask.mk.injEq, true_and]
   ·rw [decide_eq_false k3] at h4
    simp only [vw0, vw1, vw2, vw3, vw4, ↓reduceIte, Nat.reduceEqDiff, Nat.reduceAdd, beq_self_eq_true, v_wire_Same, vw5, mfn0, Env.ofArgs_at, Option.getD_some, hP, hW, h4, h2, k3, STask.mk.injEq, true_and, false_and, decide_false]
  ·rw [decide_eq_false k2] at hW
   simp only [vw0, vw1, vw2, vw3, vw4, ↓reduceIte, Nat.reduceEqDiff, Nat.reduceAdd, beq_self_eq_true, v_wire_Same, vw5, mfn0, Env.ofArgs_at, Option.getD_some, hP, hW, k2, STask.mk.injEq, true_and, false_and, decide_false]
 ·rw [decide_eq_false k1] at hP
  simp only [vw0, vw1, vw2, vw3, vw4, ↓reduceIte, Nat.reduceEqDiff, Nat.reduceAdd, beq_self_eq_true, v_wire_Same, vw5, mfn0, Env.ofArgs_at, Option.getD_some, hP, ff, k1, STask.mk.injEq, false_and, decide_false]
end Gv

namespace Gv
open Go
variable {C : CallV} {V : Nat → List PV → List PV → Bool}
theorem wrap8 (n : Nat) : IntKind.u8.wrap (n : Int) = ((n % 256 : Nat) : Int) := by
 simp [IntKind.wrap, IntKind.signed, IntKind.bits]
theorem add8 (a b : Nat) : binI .add .u8 (a : Int) .u8 (b : Int) = some (.int .u8 (((a + b) % 256 : Nat) : Int)) := by
 simp only [binI]; rw [if_neg (by decide)]
 rw [← Int.natCast_add, wrap8]
theorem upd8 {b : List Nat} {k x : Nat} (h : k < b.length) : updV none (eB b) (.int .i64 (k : Nat)) 0 (.int .u8 (x : Nat)) = some (eB (b.set k x)) := by
 have hl : (bytesV b).length = b.length := bytesV_len b
 have hg : (bytesV b)[k]? = some (.int .u8 (b[k] : Nat)) := by simp [bytesV, List.getElem?_eq_getElem h]
 simp only [updV, eB]
 rw [if_pos (by rw [hl]; omega)]
 simp only [Int.toNat_natCast, hg]
 rw [if_pos ⟨rfl, rfl, Nat.le_refl _⟩]
 simp [bytesV, List.map_set, PV.withCells, PV.cells]
theorem round_V {m : Nat} (k : Int) {n : Nat} (h0 : 0 < n) (h1 : n < 1000000000) : ∃ r : Nat, r < n ∧ callV tVT (m + 1) 23 [.int .i64 k, .int .i64 n] = some (.int .i64 r, []) := by
 have hn : ¬ (n : Int) = 0 := by omega
 have e1 : ∀ k : Int, binI .rem .i64 k .i64 n = some (.int .i64 (k.tmod n)) := fun k => by simp only [binI]; rw [if_neg (by decide), if_neg hn]
 have b1 : (k.tmod n) < n := Int.tmod_lt_of_pos k (by omega)
 have b2 : -(n : Int) < k.tmod n := Int.lt_tmod_of_pos k (by omega)
 have e2 : binI .add .i64 (k.tmod n) .i64 n = some (.int .i64 (k.tmod n + n)) := by
  simp only [binI]; rw [if_neg (by decide), i64_of (by omega) (by omega)]
 have b3 : 0 ≤ (k.tmod n + n).tmod n := Int.tmod_nonneg _ (by omega)
 have b4 : (k.tmod n + n).tmod n < n := Int.tmod_lt_of_pos _ (by omega)
 refine ⟨((k.tmod n + n).tmod n).toNat, by omega, ?_⟩
 rw [show (((k.tmod n + n).tmod n).toNat : Int) = (k.tmod n + n).tmod n by omega]
 refine callV_of (F := v_alike_Round) rfl rfl rfl ?_ (.inr rfl)
 simp only [vw0, vw1, vw2, vw4, ↓reduceIte, v_alike_Round, Env.ofArgs_at, Option.getD_some, e1, e2]
end Gv

namespace Gv
open Go
variable {C : CallV} {V : Nat → List PV → List PV → Bool}
def backA : VC := v_law22_WireBack.body.tl.tl.tl.tl
def backB : VC := backA.tl.tl
def backC : VC := backB.tl
theorem back_end {t : STask} {c : List Nat} (hc : BO c) (hl : c.length ≤ 65536) {env : Env} (h4 : env 4 = .lptr (cTask t)) (h14 : env 14 = .int .i64 2) (h16 : env 16 = .int .i64 2) (h17 : env 17 = eB c)
  (x0 : STask) (e0 : Int) (hx : decTask c = some x0 ∧ e0 = 0 ∨ decTask c = none ∧ e0 = 2) (h19 : env 19 = .lptr (cTask x0)) (h20 : env 20 = .int .i64 e0) (hne : enTask t ≠ c)
  (hE : ∀ u : STask, decTask c = some u → C 16 [eTask u] = some (.tup [eB (enTask u), .int .i64 0], [])) (hS : ∀ u : STask, decTask c = some u → C 22 [eTask u, eTask t] = some (.bool (decide (u = t)), [])) (hA : C 10 [] = some (.bool true, [])) :
  den C V backC env = some (.ret (.bool true) []) := by
 rcases hx with ⟨hd, rfl⟩ | ⟨hd, rfl⟩
 ·have hE' := hE x0 hd
  have hS' := hS x0 hd
  have hen := ((decTask_iff hc.bok).1 hd).1
  have hxt : x0 ≠ t := fun h => hne (by rw [← h, hen])
  rw [decide_eq_false hxt] at hS'
  rw [hen] at hE'
  simp only [eTask, cTask_eq] at hE' hS'
  rw [cTask_eq] at h4 h19
  refine nx (by simp only [vw0, vw1, vw2, vw3, vw4, ↓reduceIte, h14, h16, h20, neqI, show ((2 : Int) != 2) = false from rfl, show ((0 : Int) != 0) = false from rfl]; rfl) ?_
  refine den_seq_ret ?_
  simp only [vw0, vw1, vw2, vw3, vw4, ↓reduceIte, Nat.reduceEqDiff, beq_self_eq_true, h20, eqlI, h19, h4, hE', hS', h17, b2sB, un, Bool.not_false, hA]
 ·refine nx (by simp only [vw0, vw1, vw2, vw3, vw4, ↓reduceIte, h14, h16, h20, neqI, show ((2 : Int) != 2) = false from rfl, show ((2 : Int) != 0) = true from rfl]; rfl) ?_
  refine nx (by simp only [vw0, vw1, vw2, vw3, vw4, ↓reduceIte, h20, eqlI, show ((2 : Int) == 0) = false from rfl]; rfl) ?_
  simp only [vw0, vw1, vw2, vw4, ↓reduceIte, hA]
end Gv

namespace Gv
open Go
variable {C : CallV} {V : Nat → List PV → List PV → Bool}
theorem eB1 : PV.lst [.int .u8 0] false = eB [0] := rfl
theorem toU8 (r : Nat) : toIntV .u8 (.int .i64 (r : Int)) = some (.int .u8 ((r % 256 : Nat) : Int)) := by rw [toIntV, wrap8]
theorem add81 (a : Nat) : binI .add .u8 (a : Int) .u8 1 = some (.int .u8 (((a + 1) % 256 : Nat) : Int)) := add8 a 1
theorem iaB {b : List Nat} {i c : Nat} (h : b[i]? = some c) : indexAddrPV 1 (eB b) (.int .i64 i) = some (.lptr [.int .u8 c]) := ia_byte h
theorem back_mid {t : STask} (ht : okTask t) (hb : BO (enTask t)) (hl : (enTask t).length < 50000) {cut at_ by_ : Int} {r1 r2 r3 : Nat} (k1 : r1 < (enTask t).length) (k2 : r2 < (enTask t).length) (k3 : r3 < 255)
  (g1 : C 23 [.int .i64 cut, .int .i64 (enTask t).length] = some (.int .i64 r1, [])) (g2 : C 23 [.int .i64 at_, .int .i64 (enTask t).length] = some (.int .i64 r2, [])) (g3 : C 23 [.int .i64 by_, .int .i64 255] = some (.int .i64 r3, []))
  (hD : ∀ b, BO b → C 19 [eB b] = some (outD b, [])) (hE : ∀ u : STask, okTask u → (enTask u).length ≤ 65536 → C 16 [eTask u] = some (.tup [eB (enTask u), .int .i64 0], [])) (hS : ∀ u : STask, (enTask u).length ≤ 65536 → C 22 [eTask u, eTask t] = some (.bool (decide (u = t)), [])) (hA : C 10 [] = some (.bool true, []))
  {env : Env} (h1 : env 1 = .int .i64 cut) (h2 : env 2 = .int .i64 at_) (h3 : env 3 = .int .i64 by_) (h4 : env 4 = .lptr (cTask t)) (h9 : env 9 = eB (enTask t)) :
  den C V backB env = some (.ret (.bool true) []) := by
 have hpre := fun (c : List Nat) => @dec_cut t ht c
 have hmore := @dec_more t ht [0]
 have hend := @back_end C V t
 generalize hbt : enTask t = b at *
 have l1 : (b ++ [0]).length = b.length + 1 := by simp
 have o1 : outD (b.take r1) = .tup [eTask zT, .int .i64 2] := by
  have hb1 : BO (b.take r1) := ⟨fun x hx => hb.1 x (List.mem_of_mem_take hx), by rw [List.length_take]; omega⟩
  rw [outD, if_neg (by rw [List.length_take]; omega), hpre (b.take r1) hb1.bok (List.take_append_drop r1 b).symm (by intro h; have := congrArg List.length h; simp at this; omega)]
  rfl
 have hb2 : BO (b ++ [0]) := ⟨fun x hx => by
  rcases List.mem_append.1 hx with h | h
  ·exact hb.1 x h
  ·simp at h; omega, by omega⟩
 have o2 : outD (b ++ [0]) = .tup [eTask zT, .int .i64 2] := by
  rw [outD, if_neg (by omega), hmore hb2.bok (by simp)]
  rfl
 have hb1 : BO (b.take r1) := ⟨fun x hx => hb.1 x (List.mem_of_mem_take hx), by rw [List.length_take]; omega⟩
 have d1 := hD _ hb1
 have d2 := hD _ hb2
 rw [o1] at d1
 rw [o2] at d2
 have hg : b[r2]? = some b[r2] := List.getElem?_eq_getElem k2
 have hc0 := hb.1 b[r2] (List.getElem_mem k2)
 generalize b[r2] = c0 at hg hc0
 obtain ⟨x, hx⟩ : ∃ x, ((c0 + 1) % 256 + r3 % 256) % 256 = x := ⟨_, rfl⟩
 have hx1 : x < 256 := by omega
 have hx2 : x ≠ c0 := by omega
 have hc : BO (b.set r2 x) := ⟨fun y hy => by
  rcases List.mem_or_eq_of_mem_set hy with h | h
  ·exact hb.1 y h
  ·omega, by rw [List.length_set]; omega⟩
 have hne : b ≠ b.set r2 x := fun h => hx2 (by
  have h5 := congrArg (fun l : List Nat => l[r2]?) h
  simp only [hg, List.getElem?_set_self k2, Option.some.injEq] at h5
  exact h5.symm)
 have d3 := hD _ hc
 have hcl : (b.set r2 x).length = b.length := List.length_set
 have hu := upd8 (b := b) (k := r2) (x := x) k2
 generalize b.set r2 x = c at hc hne d3 hcl hu
 have ht1 := takeB (b := b) (k := r1) (by omega)
 have ha1 : appV 1 (eB []) (eB b) = some (eB b) := appB (l := []) (m := b) (by simp; omega)
 have ha2 : appV 1 (eB b) (eB [0]) = some (eB (b ++ [0])) := appB (l := b) (m := [0]) (by simp; omega)
 have hi := iaB hg
 have w1 := add81 c0
 have w2 := toU8 r3
 have w3 := add8 ((c0 + 1) % 256) (r3 % 256)
 rw [hx] at w3
 have fin : ∀ (x0 : STask) (e0 : Int), (decTask c = some x0 ∧ e0 = 0 ∨ decTask c = none ∧ e0 = 2) → outD c = .tup [eTask x0, .int .i64 e0] → den C V backB env = some (.ret (.bool true) []) := by
  intro x0 e0 hx0 ho
  rw [ho] at d3
  rw [eTask_eq] at d1 d2 d3
  refine nx (by simp only [vw0, vw1, vw2, vw3, vw4, ↓reduceIte, Nat.reduceEqDiff, Nat.reduceAdd, beq_self_eq_true, vw5, h1, h2, h3, h9, len_eB, g1, g2, g3, ht1, d1, eB0, ha1, eB1, ha2, d2, hi, w1, w2, w3, hu, d3]; rfl) ?_
  refine hend (c := c) hc (by omega) (by simp [h4]) (by simp) (by simp) (by simp) x0 e0 hx0 (by simp [cTask_eq, eHs, eAs, eNs, eWs]) (by simp) hne (fun u hu' => ?_) (fun u hu' => ?_) hA
  ·have := (decTask_iff hc.bok).1 hu'
   exact hE u this.2 (by rw [this.1]; omega)
  ·have := (decTask_iff hc.bok).1 hu'
   exact hS u (by rw [this.1]; omega)
 cases hd : decTask c with
 | none => exact fin zT 2 (.inr ⟨hd, rfl⟩) (by rw [outD, if_neg (by omega), hd]; rfl)
 | some u => exact fin u 0 (.inl ⟨hd, rfl⟩) (by rw [outD, if_neg (by omega), hd]; rfl)
end Gv

namespace Gv
open Go
variable {C : CallV} {V : Nat → List PV → List PV → Bool}
theorem sml_len {t : STask} (h : (enTask t).length < 1000000000) : smlP t.prog ∧ (t.watch.length < 1000000000 ∧ ∀ x ∈ t.watch, x.length < 1000000000) := by
 obtain ⟨⟨hs, as, ns, fuel⟩, ws, bu, li⟩ := t
 simp only [enTask, enProg, List.length_append] at h
 have q1 := len_flat_le (l := hs) handler_pos
 have q2 := len_flat_le (l := as) actor_pos
 have q3 := len_flat_le (l := ns) note_pos
 have q4 := len_flat_le (l := ws) code_pos
 refine ⟨⟨⟨by simp only; omega, fun x hx => ?_⟩, ⟨by simp only; omega, fun x hx => ?_⟩, ⟨by simp only; omega, fun x hx => ?_⟩⟩, by simp only; omega, fun x hx => ?_⟩
 ·have h1 := mem_flat_le (f := enHandler) (l := hs) hx
  rw [enHandler, List.length_append, enCode, List.length_append] at h1
  have := len_flat_le (l := x.code) instr_pos
  omega
 ·have h1 := mem_flat_le (f := enActor) (l := as) hx
  rw [enActor, List.length_append, enNums, List.length_append, enN] at h1
  have := len_flat_le (l := x.regs) num_pos
  omega
 ·have h1 := mem_flat_le (f := enNote) (l := ns) hx
  rw [enNote, List.length_append, List.length_append, enNums, List.length_append, enN] at h1
  have := len_flat_le (l := x.args) num_pos
  omega
 ·have h1 := mem_flat_le (f := enCode) (l := ws) hx
  rw [enCode, List.length_append] at h1
  have := len_flat_le (l := x) instr_pos
  omega
theorem outEnc_ok {t : STask} (h : (enTask t).length ≤ 65536) : outEnc t = .tup [eB (enTask t), .int .i64 0] := by rw [outEnc, if_neg (by omega)]
theorem back_start {t : STask} {cut at_ by_ : Int} {q : Bool} (hS : C 15 [eTask t] = some (.bool q, [])) (hA : C 10 [] = some (.bool true, []))
  (hk : q = true → ∀ env : Env, env 1 = .int .i64 cut → env 2 = .int .i64 at_ → env 3 = .int .i64 by_ → env 4 = .lptr (cTask t) → den C V v_law22_WireBack.body.tl.tl env = some (.ret (.bool true) [])) :
  den C V v_law22_WireBack.body (Env.ofArgs [eTask t, .int .i64 cut, .int .i64 at_, .int .i64 by_]) = some (.ret (.bool true) []) := by
 rw [eTask_eq] at hS ⊢
 refine nx (by simp only [vw0, vw1, vw2, vw3, vw4, ↓reduceIte, Nat.reduceAdd, beq_self_eq_true, Env.ofArgs_at, Option.getD_some, vw5]; rfl) ?_
 cases q with
 | false =>
  refine den_seq_ret ?_
  simp only [vw0, vw1, vw2, vw3, vw4, ↓reduceIte, vw5, hS, un, Bool.not_false, hA]
 | true =>
  refine nx (by simp only [vw0, vw1, vw2, vw3, vw4, ↓reduceIte, vw5, hS, un, Bool.not_true]; rfl) ?_
  exact hk rfl _ (by simp [Env.ofArgs_at]) (by simp [Env.ofArgs_at]) (by simp [Env.ofArgs_at]) (by simp [cTask_eq, eHs, eAs, eNs, eWs])
theorem back_two {t : STask} {cut at_ by_ : Int} (hE : C 16 [eTask t] = some (.tup [eB (enTask t), .int .i64 0], []))
  (hk : ∀ env : Env, env 1 = .int .i64 cut → env 2 = .int .i64 at_ → env 3 = .int .i64 by_ → env 4 = .lptr (cTask t) → env 9 = eB (enTask t) → den C V backA env = some (.ret (.bool true) []))
  {env : Env} (h1 : env 1 = .int .i64 cut) (h2 : env 2 = .int .i64 at_) (h3 : env 3 = .int .i64 by_) (h4 : env 4 = .lptr (cTask t)) :
  den C V v_law22_WireBack.body.tl.tl env = some (.ret (.bool true) []) := by
 simp only [eTask, cTask_eq] at hE
 rw [cTask_eq] at h4
 refine nx (by simp only [vw0, vw1, vw2, vw3, vw4, ↓reduceIte, h4, hE]; rfl) ?_
 refine nx (by simp only [vw0, vw1, vw2, vw3, vw4, ↓reduceIte, Nat.reduceEqDiff, neqI, show ((0 : Int) != 0) = false from rfl]; rfl) ?_
 exact hk _ (by simp [h1]) (by simp [h2]) (by simp [h3]) (by simp [h4, cTask_eq]) (by simp)
theorem back_three {t : STask} {cut at_ by_ : Int} (hD : C 19 [eB (enTask t)] = some (.tup [eTask t, .int .i64 0], [])) (hT : C 18 [eTask t] = some (eTask t, [])) (hR : C 21 [eTask t, eTask t] = some (.bool true, [])) (hS : C 22 [eTask t, eTask t] = some (.bool true, [])) (hz : (enTask t).length ≠ 0)
  (hk : ∀ env : Env, env 1 = .int .i64 cut → env 2 = .int .i64 at_ → env 3 = .int .i64 by_ → env 4 = .lptr (cTask t) → env 9 = eB (enTask t) → den C V backB env = some (.ret (.bool true) []))
  {env : Env} (h1 : env 1 = .int .i64 cut) (h2 : env 2 = .int .i64 at_) (h3 : env 3 = .int .i64 by_) (h4 : env 4 = .lptr (cTask t)) (h9 : env 9 = eB (enTask t)) :
  den C V backA env = some (.ret (.bool true) []) := by
 rw [eTask_eq] at hD hT hR hS
 have h4' : env 4 = .lptr [eHs t.prog.handlers, eAs t.prog.actors, eNs t.prog.boot, .int .i64 t.prog.fuel, eWs t.watch, .int .i64 t.budget.drop, .int .i64 t.budget.dup, .int .i64 t.budget.time, .int .i64 t.budget.crash, .int .i64 t.limits.depth, .int .i64 t.limits.runs] := h4
 have hzz : (((enTask t).length : Nat) : Int) ≠ 0 := by omega
 refine nx (by simp only [vw0, vw1, vw2, vw3, vw4, ↓reduceIte, Nat.reduceAdd, beq_self_eq_true, h9, vw5, hD]; rfl) ?_
 refine nx (by simp only [vw0, vw1, vw2, vw3, vw4, ↓reduceIte, Nat.reduceEqDiff, beq_self_eq_true, vw5, h4', h9, hT, hR, hS, neqI, show ((0 : Int) != 0) = false from rfl, un, Bool.not_true, len_eB, eqlI', decide_eq_false hzz]; rfl) ?_
 exact hk _ (by simp [h1]) (by simp [h2]) (by simp [h3]) (by simp [h4]) (by simp [h9])
theorem wireBack_V {m : Nat} {t : STask} {cut at_ by_ : Int} (ht : t.ok) (hA : ∀ n, callV tVT (n + 1) 10 [] = some (.bool true, [])) : callV tVT (m + 7) 2 [eTask t, .int .i64 cut, .int .i64 at_, .int .i64 by_] = some (.bool true, []) := by
 refine callV_of (F := v_law22_WireBack) rfl rfl rfl ?_ (.inr rfl)
 refine back_start (small_V (m := m + 4)) (hA (m + 5)) fun hq env h1 h2 h3 h4 => ?_
 rw [Bool.and_eq_true] at hq
 have hl := small_len hq.1 hq.2
 have hok := okTask_of ht (by omega)
 have hb : BO (enTask t) := ⟨enTask_lt t, by omega⟩
 have h4l : 4 ≤ (enTask t).length := by rw [enTask_body, List.length_append]; have : enSign.length = 4 := rfl; omega
 have hE : ∀ u : STask, okTask u → (enTask u).length ≤ 65536 → callV tVT (m + 6) 16 [eTask u] = some (.tup [eB (enTask u), .int .i64 0], []) := fun u hu h => by
  rw [← outEnc_ok h]; exact wEnc_V (m := m + 1) hu.plain (by omega)
 have hD : ∀ b, BO b → callV tVT (m + 6) 19 [eB b] = some (outD b, []) := fun b h => wDec_V h
 have hS : ∀ u : STask, (enTask u).length ≤ 65536 → callV tVT (m + 6) 22 [eTask u, eTask t] = some (.bool (decide (u = t)), []) := fun u h => wireSame_V (m := m + 1) u t (sml_len (by omega)).1 (sml_len (by omega)).2
 obtain ⟨r1, k1, g1⟩ := round_V (m := m + 5) cut (n := (enTask t).length) (by omega) (by omega)
 obtain ⟨r2, k2, g2⟩ := round_V (m := m + 5) at_ (n := (enTask t).length) (by omega) (by omega)
 obtain ⟨r3, k3, g3⟩ := round_V (m := m + 5) by_ (n := 255) (by omega) (by omega)
 have hDt : callV tVT (m + 6) 19 [eB (enTask t)] = some (.tup [eTask t, .int .i64 0], []) := by
  rw [hD _ hb, outD, if_neg (by omega), dec_en hok hb.bok]; rfl
 have hSt := hS t (by omega)
 rw [decide_eq_true rfl] at hSt
 refine back_two (hE t hok (by omega)) (fun env h1 h2 h3 h4 h9 => ?_) h1 h2 h3 h4
 refine back_three hDt (task_V (m := m + 5)) (same_refl (m := m + 1) (by omega)) hSt (by omega) (fun env h1 h2 h3 h4 h9 => ?_) h1 h2 h3 h4 h9
 exact back_mid hok hb hl k1 k2 k3 g1 g2 g3 hD hE hS (hA (m + 5)) h1 h2 h3 h4 h9
end Gv
