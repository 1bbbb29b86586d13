/- What this file proves: one part of the proof that the law answers true for every input, by an interpreter that is proved sound against the given model. -/
import Derived.Test.YtkjefeclbdjkcaaWb
namespace Gv
open Go
variable {C : CallV} {V : Nat → List PV → List PV → Bool}
theorem neqLen {a : Nat} : binI .neq .i64 (a : Int) .i64 (a : Int) = some (.bool false) := by simp [binI]
theorem neqSame {a : Int} : binI .neq .i64 a .i64 a = some (.bool false) := by simp [binI]
theorem eqlSame {a : Int} : binI .eql .i64 a .i64 a = some (.bool true) := by simp [binI]
theorem rInts_refl {m : Nat} {l : List Int} (hl : l.length < 1000000000) : callV tVT (m + 1) 90 [eI l, eI l] = some (.bool true, []) := by
 refine callV_of (F := v_ref1_Ints) rfl rfl rfl ?_ (.inr rfl)
 refine nx (by simp only [vw0]; rfl) ?_
 refine nx (by simp only [vw0, vw1, vw2, vw3, vw4, ↓reduceIte, Env.ofArgs_at, Option.getD_some, len_eI, neqLen]; rfl) ?_
 rw [ras]
 refine nx (by simp only [vw0, vw2, ↓reduceIte]; rfl) ?_
 refine seq_of (for_run (St := fun _ e => e 0 = eI l ∧ e 1 = eI l) (n := l.length) (by omega) (fun k e v h => by simpa using h) (fun k e hk h hv => by simp only [vw0, vw1, vw2, h.1, hv, len_eI, lss_cast]) (fun k e hk h hv => ?_) ⟨by simp [Env.ofArgs_at], by simp [Env.ofArgs_at]⟩ (by simp)) fun e h => ?_
 ·obtain ⟨x, hx, hm⟩ := get_lt hk
  exact ⟨_, by simp only [vw0, vw1, vw2, vw3, vw4, ↓reduceIte, h.1, h.2, hv, ia_eI hx, neqSame], h, hv⟩
 simp only [vw0, vw2, ↓reduceIte]
theorem eqs2_same {a b : Int} : eqsV true [false, false] (.agg [.int .i64 a, .int .i64 b]) (.agg [.int .i64 a, .int .i64 b]) = some (.bool false) := by
 simp [eqsV, eqCells]
theorem rCode_refl {m : Nat} {l : List SInstr} (hl : l.length < 1000000000) : callV tVT (m + 1) 65 [eCode l, eCode l] = some (.bool true, []) := by
 refine callV_of (F := v_ref1_Code) rfl rfl rfl ?_ (.inr rfl)
 refine nx (by simp only [vw0]; rfl) ?_
 refine nx (by simp only [vw0, vw1, vw2, vw3, vw4, ↓reduceIte, Env.ofArgs_at, Option.getD_some, len_eCode, neqLen]; rfl) ?_
 rw [ras]
 refine nx (by simp only [vw0, vw2, ↓reduceIte]; rfl) ?_
 refine seq_of (for_run (St := fun _ e => e 0 = eCode l ∧ e 1 = eCode l) (n := l.length) (by omega) (fun k e v h => by simpa using h) (fun k e hk h hv => by simp only [vw0, vw1, vw2, h.1, hv, len_eCode, lss_cast]) (fun k e hk h hv => ?_) ⟨by simp [Env.ofArgs_at], by simp [Env.ofArgs_at]⟩ (by simp)) fun e h => ?_
 ·obtain ⟨x, hx, hm⟩ := get_lt hk
  exact ⟨_, by simp only [vw0, vw1, vw2, vw3, vw4, ↓reduceIte, Nat.reduceAdd, beq_self_eq_true, h.1, h.2, hv, ia_eCode hx, eqs2_same], h, hv⟩
 simp only [vw0, vw2, ↓reduceIte]
theorem rNote_refl {m : Nat} {x : SNote} (hl : x.args.length < 1000000000) : callV tVT (m + 2) 80 [eNote x, eNote x] = some (.bool true, []) := by
 refine callV_of (F := v_ref1_SameNote) rfl rfl rfl ?_ (.inr rfl)
 have hI := rInts_refl (m := m) hl
 generalize callV tVT (m + 1) = C at hI
 generalize vTab tVT = V
 simp only [eNote]
 simp only [vw0, vw1, vw2, vw3, vw4, ↓reduceIte, Nat.reduceEqDiff, Nat.reduceAdd, beq_self_eq_true, v_ref1_SameNote, Env.ofArgs_at, Option.getD_some, eqlSame, hI]
theorem rNotes_refl {m : Nat} {l : List SNote} (hl : l.length < 1000000000) (he : ∀ x ∈ l, x.args.length < 1000000000) : callV tVT (m + 3) 89 [eNs l, eNs l] = some (.bool true, []) := by
 refine callV_of (F := v_ref1_SameNotes) rfl rfl rfl ?_ (.inr rfl)
 have hI : ∀ x ∈ l, callV tVT (m + 2) 80 [eNote x, eNote x] = some (.bool true, []) := fun x hx => rNote_refl (he x hx)
 generalize callV tVT (m + 2) = C at hI
 generalize vTab tVT = V
 refine nx (by simp only [vw0]; rfl) ?_
 refine nx (by simp only [vw0, vw1, vw2, vw3, vw4, ↓reduceIte, Env.ofArgs_at, Option.getD_some, eNs, len_ns, neqLen]; rfl) ?_
 rw [ras]
 refine nx (by simp only [vw0, vw2, ↓reduceIte]; rfl) ?_
 refine seq_of (for_run (St := fun _ e => e 0 = .lst (l.map eNote) false ∧ e 1 = .lst (l.map eNote) false) (n := l.length) (by omega) (fun k e v h => by simpa using h) (fun k e hk h hv => by simp only [vw0, vw1, vw2, h.1, hv, len_ns, lss_cast]) (fun k e hk h hv => ?_) ⟨by simp [Env.ofArgs_at], by simp [Env.ofArgs_at]⟩ (by simp)) fun e h => ?_
 ·obtain ⟨x, hx, hm⟩ := get_lt hk
  have hc := hI x hm
  simp only [eNote] at hc
  exact ⟨_, by simp only [vw0, vw1, vw2, vw3, vw4, ↓reduceIte, Nat.reduceAdd, beq_self_eq_true, h.1, h.2, hv, ia_ns hx, hc, un, Bool.not_true]; rfl, by simpa using h, by simpa using hv⟩
 simp only [vw0, vw2, ↓reduceIte]

theorem neqB (x : Bool) : eqb true (.bool x) (.bool x) = some (.bool false) := by cases x <;> rfl
theorem rProg_refl {m : Nat} {p : SProg} (h1 : p.handlers.length < 1000000000) (h2 : p.actors.length < 1000000000) (h3 : p.boot.length < 1000000000) (e1 : ∀ x ∈ p.handlers, x.code.length < 1000000000) (e2 : ∀ x ∈ p.actors, x.regs.length < 1000000000) (e3 : ∀ x ∈ p.boot, x.args.length < 1000000000) : callV tVT (m + 4) 64 [eProg p, eProg p] = some (.bool true, []) := by
 refine callV_of (F := v_ref1_SameProg) rfl rfl rfl ?_ (.inr rfl)
 have hN := rNotes_refl (m := m) h3 e3
 have hK : ∀ x ∈ p.handlers, callV tVT (m + 3) 65 [eCode x.code, eCode x.code] = some (.bool true, []) := fun x hx => rCode_refl (m := m + 2) (e1 x hx)
 have hI : ∀ x ∈ p.actors, callV tVT (m + 3) 90 [eI x.regs, eI x.regs] = some (.bool true, []) := fun x hx => rInts_refl (m := m + 2) (e2 x hx)
 generalize callV tVT (m + 3) = C at hN hK hI
 generalize vTab tVT = V
 obtain ⟨hs, as, ns, fuel⟩ := p
 simp only at *
 have hlen : lenV (eHs hs) = some (.int .i64 hs.length) := len_hs
 have alen : lenV (eAs as) = some (.int .i64 as.length) := len_as
 rw [eProg_eq]
 simp only
 refine nx (by simp only [vw0, vw1, vw2, vw3, vw4, ↓reduceIte, Nat.reduceAdd, beq_self_eq_true, vw5, Env.ofArgs_at, Option.getD_some]; rfl) ?_
 refine nx (by simp only [vw0, vw1, vw2, vw3, vw4, ↓reduceIte, Nat.reduceEqDiff, beq_self_eq_true, vw5, hlen, alen, neqSame, hN, un, Bool.not_true]; rfl) ?_
 rw [ras]
 refine nx (by simp only [vw0, vw2, ↓reduceIte]; rfl) ?_
 refine seq_of (for_run (St := fun _ e => e 2 = .lptr [eHs hs, eAs as, eNs ns, .int .i64 fuel] ∧ e 3 = .lptr [eHs hs, eAs as, eNs ns, .int .i64 fuel]) (n := hs.length) (by omega) (fun k e v h => by simpa using h) (fun k e hk h hv => by simp only [vw0, vw1, vw2, vw4, ↓reduceIte, vw5, h.1, hv, hlen, lss_cast]) (fun k e hk h hv => ?_) ⟨by simp, by simp⟩ (by simp)) fun e ⟨g2, g3⟩ => ?_
 ·obtain ⟨x, hx, hm⟩ := get_lt hk
  have hi : indexAddrPV 2 (eHs hs) (.int .i64 (k : Nat)) = some (.lptr [.int .i64 x.args, eCode x.code]) := ia_hs hx
  exact ⟨_, by simp only [vw0, vw1, vw2, vw3, vw4, ↓reduceIte, Nat.reduceEqDiff, beq_self_eq_true, vw5, h.1, h.2, hv, hi, neqSame, hK x hm, un, Bool.not_true]; rfl, by simpa using h, by simpa using hv⟩
 rw [ras]
 refine nx (by simp only [vw0, vw2, ↓reduceIte]; rfl) ?_
 refine seq_of (for_run (St := fun _ e => e 2 = .lptr [eHs hs, eAs as, eNs ns, .int .i64 fuel] ∧ e 3 = .lptr [eHs hs, eAs as, eNs ns, .int .i64 fuel]) (n := as.length) (by omega) (fun k e v h => by simpa using h) (fun k e hk h hv => by simp only [vw0, vw1, vw2, vw4, ↓reduceIte, vw5, h.1, hv, alen, lss_cast]) (fun k e hk h hv => ?_) ⟨by simp [g2], by simp [g3]⟩ (by simp)) fun e h => ?_
 ·obtain ⟨x, hx, hm⟩ := get_lt hk
  have hi : indexAddrPV 4 (eAs as) (.int .i64 (k : Nat)) = some (.lptr [eI x.regs, .int .i64 x.cap, .int .i64 x.timer, .bool x.armed]) := ia_as hx
  exact ⟨_, by simp only [vw0, vw1, vw2, vw3, vw4, ↓reduceIte, Nat.reduceEqDiff, Nat.reduceAdd, beq_self_eq_true, vw5, h.1, h.2, hv, hi, neqSame, hI x hm, un, Bool.not_true, neqB]; rfl, by simpa using h, by simpa using hv⟩
 simp only [vw0, vw2, ↓reduceIte]
theorem rTask_refl {m : Nat} {t : STask} (h1 : t.prog.handlers.length < 1000000000) (h2 : t.prog.actors.length < 1000000000) (h3 : t.prog.boot.length < 1000000000) (e1 : ∀ x ∈ t.prog.handlers, x.code.length < 1000000000) (e2 : ∀ x ∈ t.prog.actors, x.regs.length < 1000000000) (e3 : ∀ x ∈ t.prog.boot, x.args.length < 1000000000) (h4 : t.watch.length < 1000000000) (e4 : ∀ x ∈ t.watch, x.length < 1000000000) : callV tVT (m + 5) 21 [eTask t, eTask t] = some (.bool true, []) := by
 refine callV_of (F := v_ref20_SameTask) rfl rfl rfl ?_ (.inr rfl)
 have hP := rProg_refl (m := m) h1 h2 h3 e1 e2 e3
 have hK : ∀ x ∈ t.watch, callV tVT (m + 4) 65 [eCode x, eCode x] = some (.bool true, []) := fun x hx => rCode_refl (m := m + 3) (e4 x hx)
 generalize callV tVT (m + 4) = C at hP hK
 generalize vTab tVT = V
 obtain ⟨⟨hs, as, ns, fuel⟩, ws, ⟨b1, b2, b3, b4⟩, ⟨l1, l2⟩⟩ := t
 simp only at *
 have wlen : lenV (eWs ws) = some (.int .i64 ws.length) := len_ws
 have q4 : ∀ a b c d : Int, eqsV true [false, false, false, false] (.agg [.int .i64 a, .int .i64 b, .int .i64 c, .int .i64 d]) (.agg [.int .i64 a, .int .i64 b, .int .i64 c, .int .i64 d]) = some (.bool false) := fun a b c d => by simp [eqsV, eqCells]
 rw [eTask_eq]
 rw [eProg_eq] at hP
 simp only at hP ⊢
 refine nx (by simp only [vw0, vw1, vw2, vw3, vw4, ↓reduceIte, Nat.reduceAdd, beq_self_eq_true, vw5, Env.ofArgs_at, Option.getD_some]; rfl) ?_
 refine nx (by simp only [vw0, vw1, vw2, vw3, vw4, ↓reduceIte, Nat.reduceEqDiff, vw5, wlen, neqLen, hP, un, Bool.not_true, q4, eqs2_same]; rfl) ?_
 rw [ras]
 refine nx (by simp only [vw0, vw2, ↓reduceIte]; rfl) ?_
 refine seq_of (for_run (St := fun _ e => e 2 = .lptr [eHs hs, eAs as, eNs ns, .int .i64 fuel, eWs ws, .int .i64 b1, .int .i64 b2, .int .i64 b3, .int .i64 b4, .int .i64 l1, .int .i64 l2] ∧ e 3 = .lptr [eHs hs, eAs as, eNs ns, .int .i64 fuel, eWs ws, .int .i64 b1, .int .i64 b2, .int .i64 b3, .int .i64 b4, .int .i64 l1, .int .i64 l2]) (n := ws.length) (by omega) (fun k e v h => by simpa using h) (fun k e hk h hv => by simp only [vw0, vw1, vw2, vw4, ↓reduceIte, vw5, h.1, hv, wlen, lss_cast]) (fun k e hk h hv => ?_) ⟨by simp, by simp⟩ (by simp)) fun e h => ?_
 ·obtain ⟨x, hx, hm⟩ := get_lt hk
  have hi : indexAddrPV 1 (eWs ws) (.int .i64 (k : Nat)) = some (.lptr [eCode x]) := ia_ws hx
  exact ⟨_, by simp only [vw0, vw1, vw2, vw3, vw4, ↓reduceIte, vw5, h.1, h.2, hv, hi, hK x hm, un, Bool.not_true]; rfl, by simpa using h, by simpa using hv⟩
 simp only [vw0, vw2, ↓reduceIte]
end Gv

namespace Gv
open Go
variable {C : CallV} {V : Nat → List PV → List PV → Bool}
theorem leqI {a b : Int} : binI .leq .i64 a .i64 b = some (.bool (decide (a ≤ b))) := by simp [binI]
theorem all_mem {α : Type} {l : List α} {q : α → Bool} : (∀ k, k < l.length → (l[k]?).all q = true) ↔ ∀ x ∈ l, q x = true := by
 constructor
 ·intro h x hx
  obtain ⟨k, hk, rfl⟩ := List.mem_iff_getElem.1 hx
  have := h k hk
  rw [List.getElem?_eq_getElem hk] at this
  simpa using this
 ·intro h k hk
  rw [List.getElem?_eq_getElem hk]
  simpa using h _ (List.getElem_mem hk)
def smP (p : SProg) : Bool := decide (p.handlers.length ≤ 18 ∧ p.actors.length ≤ 10 ∧ p.boot.length ≤ 18) && (decide (∀ x ∈ p.handlers, decide (x.code.length ≤ 70) = true) && (decide (∀ x ∈ p.actors, decide (x.regs.length ≤ 10) = true) && decide (∀ x ∈ p.boot, decide (x.args.length ≤ 6) = true)))
def smW (l : List (List SInstr)) : Bool := decide (∀ x ∈ l.take 12, decide (x.length ≤ 70) = true) && decide (l.length ≤ 10)
theorem smallP_V {m : Nat} {p : SProg} : callV tVT (m + 1) 46 [eProg p] = some (.bool (smP p), []) := by
 refine callV_of (F := v_alike_Small) rfl rfl rfl ?_ (.inr rfl)
 generalize callV tVT m = C
 generalize vTab tVT = V
 obtain ⟨hs, as, ns, fuel⟩ := p
 have hlen : lenV (eHs hs) = some (.int .i64 hs.length) := len_hs
 have alen : lenV (eAs as) = some (.int .i64 as.length) := len_as
 have nlen : lenV (eNs ns) = some (.int .i64 ns.length) := len_ns
 rw [eProg_eq]
 simp only
 refine nx (by simp only [vw0, vw1, vw2, vw3, vw4, ↓reduceIte, Nat.reduceAdd, beq_self_eq_true, vw5, Env.ofArgs_at, Option.getD_some]; rfl) ?_
 by_cases hc : hs.length ≤ 18 ∧ as.length ≤ 10 ∧ ns.length ≤ 18
 ·obtain ⟨c1, c2, c3⟩ := hc
  refine nx (by simp only [vw0, vw1, vw2, vw3, vw4, ↓reduceIte, vw5, hlen, alen, nlen, gtrI, show ¬ (18 : Int) < hs.length by omega, show ¬ (10 : Int) < as.length by omega, show ¬ (18 : Int) < ns.length by omega, decide_false]; rfl) ?_
  have hr : smP ⟨hs, as, ns, fuel⟩ = (decide (∀ x ∈ hs, decide (x.code.length ≤ 70) = true) && (decide (∀ x ∈ as, decide (x.regs.length ≤ 10) = true) && decide (∀ x ∈ ns, decide (x.args.length ≤ 6) = true))) := by
   simp only [smP, c1, c2, c3, and_self, decide_true, Bool.true_and]
  rw [hr]
  rw [ras]
  refine nx (by simp only [vw0, vw2, ↓reduceIte]; rfl) ?_
  let St : Nat → Env → Prop := fun _ e => e 1 = .lptr [eHs hs, eAs as, eNs ns, .int .i64 fuel]
  refine all_seq (n := hs.length) (by omega) (fun k => (hs[k]?).all fun x => decide (x.code.length ≤ 70)) (.bool false) St _ (fun k e v h => by simpa [St] using h)
   (fun k e hk h hv => by have h : e 1 = _ := h; by_cases hkn : k < hs.length <;> simp only [vw0, vw1, vw2, vw3, vw4, ↓reduceIte, vw5, h, hv, hlen, lss_idx, hkn, decide_true, decide_false])
   (fun k e hk h hv => by
    obtain ⟨x, hx, _⟩ := get_lt hk
    have h : e 1 = _ := h
    have hi : indexAddrPV 2 (eHs hs) (.int .i64 (k : Nat)) = some (.lptr [.int .i64 x.args, eCode x.code]) := ia_hs hx
    by_cases hxy : x.code.length ≤ 70
    ·refine ⟨_, by simp only [vw0, vw1, vw2, vw3, vw4, ↓reduceIte, vw5, h, hv, hi, len_eCode, gtrI, show ¬ (70 : Int) < x.code.length by omega, decide_false]; rfl, ?_⟩
     simp [hx, hxy, h, hv, St]
    ·refine ⟨_, by simp only [vw0, vw1, vw2, vw3, vw4, ↓reduceIte, vw5, h, hv, hi, len_eCode, gtrI, show (70 : Int) < x.code.length by omega, decide_true]; rfl, ?_⟩
     simp [hx, hxy]) all_mem (fun hP e h => ?_) (fun hP => by rw [decide_eq_false hP, Bool.false_and]) (by simp [St]) (by simp)
  have h : e 1 = _ := h
  rw [decide_eq_true hP, Bool.true_and]
  rw [ras]
  refine nx (by simp only [vw0, vw2, ↓reduceIte]; rfl) ?_
  refine all_seq (n := as.length) (by omega) (fun k => (as[k]?).all fun x => decide (x.regs.length ≤ 10)) (.bool false) St _ (fun k e v h => by simpa [St] using h)
   (fun k e hk h hv => by have h : e 1 = _ := h; by_cases hkn : k < as.length <;> simp only [vw0, vw1, vw2, vw3, vw4, ↓reduceIte, vw5, h, hv, alen, lss_idx, hkn, decide_true, decide_false])
   (fun k e hk h hv => by
    obtain ⟨x, hx, _⟩ := get_lt hk
    have h : e 1 = _ := h
    have hi : indexAddrPV 4 (eAs as) (.int .i64 (k : Nat)) = some (.lptr [eI x.regs, .int .i64 x.cap, .int .i64 x.timer, .bool x.armed]) := ia_as hx
    by_cases hxy : x.regs.length ≤ 10
    ·refine ⟨_, by simp only [vw0, vw1, vw2, vw3, vw4, ↓reduceIte, vw5, h, hv, hi, len_eI, gtrI, show ¬ (10 : Int) < x.regs.length by omega, decide_false]; rfl, ?_⟩
     simp [hx, hxy, h, hv, St]
    ·refine ⟨_, by simp only [vw0, vw1, vw2, vw3, vw4, ↓reduceIte, vw5, h, hv, hi, len_eI, gtrI, show (10 : Int) < x.regs.length by omega, decide_true]; rfl, ?_⟩
     simp [hx, hxy]) all_mem (fun hP e h => ?_) (fun hP => by rw [decide_eq_false hP, Bool.false_and]) (by simp [St, h]) (by simp)
  have h : e 1 = _ := h
  rw [decide_eq_true hP, Bool.true_and]
  rw [ras]
  refine nx (by simp only [vw0, vw2, ↓reduceIte]; rfl) ?_
  refine all_seq (n := ns.length) (by omega) (fun k => (ns[k]?).all fun x => decide (x.args.length ≤ 6)) (.bool false) St _ (fun k e v h => by simpa [St] using h)
   (fun k e hk h hv => by have h : e 1 = _ := h; by_cases hkn : k < ns.length <;> simp only [vw0, vw1, vw2, vw3, vw4, ↓reduceIte, vw5, h, hv, nlen, lss_idx, hkn, decide_true, decide_false])
   (fun k e hk h hv => by
    obtain ⟨x, hx, _⟩ := get_lt hk
    have h : e 1 = _ := h
    have hi : indexAddrPV 3 (eNs ns) (.int .i64 (k : Nat)) = some (.lptr [.int .i64 x.to, .int .i64 x.handler, eI x.args]) := ia_ns hx
    by_cases hxy : x.args.length ≤ 6
    ·refine ⟨_, by simp only [vw0, vw1, vw2, vw3, vw4, ↓reduceIte, vw5, h, hv, hi, len_eI, gtrI, show ¬ (6 : Int) < x.args.length by omega, decide_false]; rfl, ?_⟩
     simp [hx, hxy, h, hv, St]
    ·refine ⟨_, by simp only [vw0, vw1, vw2, vw3, vw4, ↓reduceIte, vw5, h, hv, hi, len_eI, gtrI, show (6 : Int) < x.args.length by omega, decide_true]; rfl, ?_⟩
     simp [hx, hxy]) all_mem (fun hP e h => ?_) (fun hP => by rw [decide_eq_false hP]) (by simp [St, h]) (by simp)
  rw [decide_eq_true hP]
  simp only [vw0, vw2, ↓reduceIte]
 ·have hr : smP ⟨hs, as, ns, fuel⟩ = false := by
   simp only [smP, decide_eq_false hc, Bool.false_and]
  rw [hr]
  refine den_seq_ret ?_
  by_cases c1 : (18 : Int) < hs.length
  ·simp only [vw0, vw1, vw2, vw3, vw4, ↓reduceIte, reduceCtorEq, vw5, hlen, alen, nlen, gtrI, c1, decide_true]
  ·by_cases c2 : (10 : Int) < as.length
   ·simp only [vw0, vw1, vw2, vw3, vw4, ↓reduceIte, reduceCtorEq, vw5, hlen, alen, nlen, gtrI, c1, c2, decide_true, decide_false]
   ·have c3 : (18 : Int) < ns.length := by omega
    simp only [vw0, vw1, vw2, vw3, vw4, ↓reduceIte, vw5, hlen, alen, nlen, gtrI, c1, c2, c3, decide_true, decide_false]
theorem smallW_V {m : Nat} {l : List (List SInstr)} : callV tVT (m + 1) 47 [eWs l] = some (.bool (smW l), []) := by
 refine callV_of (F := v_alike_Watches) rfl rfl rfl ?_ (.inr rfl)
 generalize callV tVT m = C
 generalize vTab tVT = V
 have wlen : lenV (eWs l) = some (.int .i64 l.length) := len_ws
 have tl : (l.take 12).length = min 12 l.length := List.length_take
 refine nx (by simp only [vw0]; rfl) ?_
 rw [ras]
 refine nx (by simp only [vw0, vw2, ↓reduceIte]; rfl) ?_
 let St : Nat → Env → Prop := fun _ e => e 0 = eWs l
 refine all_seq (n := (l.take 12).length) (by omega) (fun k => ((l.take 12)[k]?).all fun x => decide (x.length ≤ 70)) (.bool false) St _ (fun k e v h => by simpa [St] using h)
  (fun k e hk h hv => by
   have h : e 0 = _ := h
   by_cases hkn : k < (l.take 12).length
   ·simp only [vw0, vw1, vw2, vw3, vw4, ↓reduceIte, h, hv, wlen, lssI, hkn, show (k : Int) < l.length by omega, show (k : Int) < 12 by omega, decide_true]
   ·by_cases h12 : k < l.length
    ·simp only [vw0, vw1, vw2, vw3, vw4, ↓reduceIte, h, hv, wlen, lssI, hkn, show (k : Int) < l.length by omega, show ¬ (k : Int) < 12 by omega, decide_true, decide_false]
    ·simp only [vw0, vw1, vw2, vw3, vw4, ↓reduceIte, h, hv, wlen, lssI, hkn, show ¬ (k : Int) < l.length by omega, decide_false])
  (fun k e hk h hv => by
   obtain ⟨x, hx, _⟩ := get_lt hk
   have h : e 0 = _ := h
   have hx' : l[k]? = some x := by rw [List.getElem?_take] at hx; split at hx; exact hx; cases hx
   have hi : indexAddrPV 1 (eWs l) (.int .i64 (k : Nat)) = some (.lptr [eCode x]) := ia_ws hx'
   by_cases hxy : x.length ≤ 70
   ·refine ⟨_, by simp only [vw0, vw1, vw2, vw3, vw4, ↓reduceIte, h, hv, hi, len_eCode, gtrI, show ¬ (70 : Int) < x.length by omega, decide_false]; rfl, ?_⟩
    simp only [hx, Option.all_some, hxy, decide_true, if_true]
    exact ⟨e, rfl, h, hv⟩
   ·refine ⟨_, by simp only [vw0, vw1, vw2, vw3, vw4, ↓reduceIte, h, hv, hi, len_eCode, gtrI, show (70 : Int) < x.length by omega, decide_true]; rfl, ?_⟩
    simp only [hx, Option.all_some, hxy, decide_false, Bool.false_eq_true, if_false]) all_mem (fun hP e h => ?_) (fun hP => by rw [smW, decide_eq_false hP, Bool.false_and]) (by simp [St, Env.ofArgs_at]) (by simp)
 have h : e 0 = _ := h
 have hd : decide ((l.length : Int) ≤ 10) = decide (l.length ≤ 10) := by simp; omega
 rw [smW, decide_eq_true hP, Bool.true_and]
 simp only [vw0, vw1, vw2, ↓reduceIte, h, wlen, leqI, hd]
theorem small_V {m : Nat} {t : STask} : callV tVT (m + 2) 15 [eTask t] = some (.bool (smP t.prog && smW t.watch), []) := by
 refine callV_of (F := v_law22_small) rfl rfl rfl ?_ (.inr rfl)
 have h1 := smallP_V (m := m) (p := t.prog)
 have h2 := smallW_V (m := m) (l := t.watch)
 generalize callV tVT (m + 1) = C at h1 h2
 generalize vTab tVT = V
 rw [eTask_eq]
 rw [eProg_eq] at h1
 cases hq : smP t.prog <;> rw [hq] at h1
 ·simp only [vw0, vw1, vw2, vw3, vw4, ↓reduceIte, Nat.reduceEqDiff, Nat.reduceAdd, beq_self_eq_true, v_law22_small, vw5, Env.ofArgs_at, Option.getD_some, h1, show (false == true) = false from rfl]
 ·simp only [vw0, vw1, vw2, vw3, vw4, ↓reduceIte, Nat.reduceEqDiff, Nat.reduceAdd, beq_self_eq_true, v_law22_small, vw5, Env.ofArgs_at, Option.getD_some, h1, h2]
theorem task_V {m : Nat} {t : STask} : callV tVT (m + 1) 18 [eTask t] = some (eTask t, []) := by
 refine callV_of (F := v_law22_task) rfl rfl rfl ?_ (.inl rfl)
 rw [eTask_eq]
 simp only [vw0, vw1, vw2, vw3, vw4, ↓reduceIte, Nat.reduceAdd, beq_self_eq_true, v_law22_task, vw5, Env.ofArgs_at, Option.getD_some]
end Gv

namespace Gv
open Go
variable {C : CallV} {V : Nat → List PV → List PV → Bool}
theorem flat_le {α : Type} {f : α → List Nat} {l : List α} {c : Nat} (h : ∀ x ∈ l, (f x).length ≤ c) : (l.flatMap f).length ≤ l.length * c := by
 induction l with
 | nil => simp
 | cons x l ih =>
  have h1 := h x (by simp)
  have h2 := ih (fun y hy => h y (by simp [hy]))
  simp only [List.flatMap_cons, List.length_append, List.length_cons, Nat.add_mul, Nat.one_mul]
  omega
theorem enN_le (l : List Int) : (enN l).length ≤ l.length * 10 := flat_le fun _ _ => nbl _
theorem enCode_le (l : List SInstr) : (enCode l).length ≤ 10 + l.length * 20 := by
 have h : (l.flatMap enInstr).length ≤ l.length * 20 := flat_le fun x _ => by
  rw [enInstr, List.length_append]; have := nbl x.op; have := nbl x.a; omega
 have := nbl (l.length : Int)
 rw [enCode, List.length_append]; omega
theorem enNums_le (l : List Int) : (enNums l).length ≤ 10 + l.length * 10 := by
 have := nbl (l.length : Int)
 have := enN_le l
 rw [enNums, List.length_append]; omega
theorem small_len {t : STask} (hp : smP t.prog = true) (hw : smW t.watch = true) : (enTask t).length < 100000 := by
 obtain ⟨⟨hs, as, ns, fuel⟩, ws, bu, li⟩ := t
 simp only [smP, smW, Bool.and_eq_true, decide_eq_true_eq] at hp hw
 obtain ⟨⟨c1, c2, c3⟩, p1, p2, p3⟩ := hp
 obtain ⟨w1, w2⟩ := hw
 have l1 : (hs.flatMap enHandler).length ≤ hs.length * 1420 := flat_le fun x hx => by
  rw [enHandler, List.length_append]; have := nbl x.args; have := enCode_le x.code; have := p1 x hx; omega
 have l2 : (as.flatMap enActor).length ≤ as.length * 140 := flat_le fun x hx => by
  simp only [enActor, List.length_append]; have := nbl x.cap; have := nbl x.timer; have := nbl (flagI x.armed); have := enNums_le x.regs; have := p2 x hx; omega
 have l3 : (ns.flatMap enNote).length ≤ ns.length * 90 := flat_le fun x hx => by
  simp only [enNote, List.length_append]; have := nbl x.to; have := nbl x.handler; have := enNums_le x.args; have := p3 x hx; omega
 have l4 : (ws.flatMap enCode).length ≤ ws.length * 1410 := flat_le fun x hx => by
  have := enCode_le x; have := w1 x (by rw [List.take_of_length_le (by omega)]; exact hx); omega
 have e1 : hs.length * 1420 ≤ 18 * 1420 := Nat.mul_le_mul_right _ c1
 have e2 : as.length * 140 ≤ 10 * 140 := Nat.mul_le_mul_right _ c2
 have e3 : ns.length * 90 ≤ 18 * 90 := Nat.mul_le_mul_right _ c3
 have e4 : ws.length * 1410 ≤ 10 * 1410 := Nat.mul_le_mul_right _ w2
 have n1 := nbl (hs.length : Int)
 have n2 := nbl (as.length : Int)
 have n3 := nbl (ns.length : Int)
 have n4 := nbl fuel
 have n5 := nbl (ws.length : Int)
 have n6 := enN_le [bu.drop, bu.dup, bu.time, bu.crash, li.depth, li.runs]
 have n7 : enSign.length = 4 := rfl
 simp only [List.length_cons, List.length_nil] at n6
 simp only [enTask, enProg, List.length_append]
 omega
theorem mem_flat_le {α : Type} {f : α → List Nat} {l : List α} {x : α} (h : x ∈ l) : (f x).length ≤ (l.flatMap f).length := by
 induction l with
 | nil => cases h
 | cons y l ih =>
  rw [List.flatMap_cons, List.length_append]
  rcases List.mem_cons.1 h with rfl | h
  ·omega
  ·have := ih h; omega
theorem len_flat_le {α : Type} {f : α → List Nat} (hf : ∀ x, 1 ≤ (f x).length) {l : List α} : l.length ≤ (l.flatMap f).length := by
 induction l with
 | nil => simp
 | cons y l ih => rw [List.flatMap_cons, List.length_append, List.length_cons]; have := hf y; omega
theorem same_refl {m : Nat} {t : STask} (h : (enTask t).length < 1000000000) : callV tVT (m + 5) 21 [eTask t, eTask t] = some (.bool true, []) := by
 obtain ⟨⟨hs, as, ns, fuel⟩, ws, bu, li⟩ := t
 simp only [enTask, enProg, List.length_append] at h
 have q1 := len_flat_le (l := hs) handler_pos
 have q2 := len_flat_le (l := as) actor_pos
 have q3 := len_flat_le (l := ns) note_pos
 have q4 := len_flat_le (l := ws) code_pos
 refine rTask_refl (by simp only; omega) (by simp only; omega) (by simp only; omega) (fun x hx => ?_) (fun x hx => ?_) (fun x hx => ?_) (by simp only; omega) (fun x hx => ?_)
 ·have h1 := mem_flat_le (f := enHandler) (l := hs) hx
  rw [enHandler, List.length_append, enCode, List.length_append] at h1
  have := len_flat_le (l := x.code) instr_pos
  omega
 ·have h1 := mem_flat_le (f := enActor) (l := as) hx
  rw [enActor, List.length_append, enNums, List.length_append, enN] at h1
  have := len_flat_le (l := x.regs) num_pos
  omega
 ·have h1 := mem_flat_le (f := enNote) (l := ns) hx
  rw [enNote, List.length_append, List.length_append, enNums, List.length_append, enN] at h1
  have := len_flat_le (l := x.args) num_pos
  omega
 ·have h1 := mem_flat_le (f := enCode) (l := ws) hx
  rw [enCode, List.length_append] at h1
  have := len_flat_le (l := x) instr_pos
  omega
def zT : STask := ⟨⟨[], [], [], 0⟩, [], ⟨0, 0, 0, 0⟩, ⟨0, 0⟩⟩
theorem outDec_form {b : List Nat} (hb : BO b) : ∃ t e, outD b = .tup [eTask t, .int .i64 e] ∧ (enTask t).length < 1000000000 := by
 have hz : (enTask zT).length < 1000000000 := by decide
 unfold outD
 split
 ·exact ⟨zT, 3, rfl, hz⟩
 ·cases hd : decTask b with
  | none => exact ⟨zT, 2, rfl, hz⟩
  | some t => exact ⟨t, 0, rfl, by rw [((decTask_iff hb.bok).1 hd).1]; exact hb.2⟩
theorem outEnc_form (t : STask) : ∃ c n, outEnc t = .tup [eB c, .int .i64 n] := by
 unfold outEnc; split <;> exact ⟨_, _, rfl⟩
theorem wireTasks_V {m : Nat} {t : STask} {b : List Nat} (ht : t.ok) (hb : ∀ x ∈ b, x < 256) (hA : ∀ n, callV tVT (n + 1) 10 [] = some (.bool true, [])) : callV tVT (m + 7) 1 [eTask t, eB b] = some (.bool true, []) := by
 refine callV_of (F := v_law22_WireTasks) rfl rfl rfl ?_ (.inr rfl)
 have hS := small_V (m := m + 4) (t := t)
 have hT : ∀ t : STask, callV tVT (m + 6) 18 [eTask t] = some (eTask t, []) := fun t => task_V (m := m + 5)
 have hAw := hA (m + 5)
 have hW : b.length ≤ 3000 → callV tVT (m + 6) 19 [eB b] = some (outD b, []) := fun h => wDec_V ⟨hb, by omega⟩
 have hR : b.length ≤ 3000 → callV tVT (m + 6) 20 [eB b] = some (outD b, []) := fun h => rDec_V ⟨hb, by omega⟩
 have hE : (smP t.prog && smW t.watch) = true → callV tVT (m + 6) 16 [eTask t] = some (outEnc t, []) ∧ callV tVT (m + 6) 17 [eTask t] = some (outEnc t, []) := fun h => by
  rw [Bool.and_eq_true] at h
  have := small_len h.1 h.2
  exact ⟨wEnc_V (m := m + 1) ht (by omega), rEnc_V (m := m + 2) ht (by omega)⟩
 have hQ : ∀ t : STask, (enTask t).length < 1000000000 → callV tVT (m + 6) 21 [eTask t, eTask t] = some (.bool true, []) := fun t h => same_refl (m := m + 1) h
 generalize callV tVT (m + 6) = C at hS hT hAw hW hR hE hQ
 generalize vTab tVT = V
 obtain ⟨c, n, hc⟩ := outEnc_form t
 have ht0 := hT t
 rw [hc] at hE
 cases hq : smP t.prog && smW t.watch with
 | false =>
  rw [hq] at hS
  rw [eTask_eq] at hS ⊢
  refine nx (by simp only [vw0, vw1, vw2, vw3, vw4, ↓reduceIte, Nat.reduceAdd, beq_self_eq_true, Env.ofArgs_at, Option.getD_some, vw5]; rfl) ?_
  refine den_seq_ret ?_
  simp only [vw0, vw1, vw2, vw3, vw4, ↓reduceIte, Nat.reduceEqDiff, reduceCtorEq, vw5, hS, un, Bool.not_false, hAw]
 | true =>
  rw [hq] at hS
  obtain ⟨hE1, hE2⟩ := hE hq
  rw [eTask_eq] at hS hE1 hE2 ht0 ⊢
  refine nx (by simp only [vw0, vw1, vw2, vw3, vw4, ↓reduceIte, Nat.reduceAdd, beq_self_eq_true, Env.ofArgs_at, Option.getD_some, vw5]; rfl) ?_
  by_cases hl : b.length ≤ 3000
  ·have hl' : ¬ (3000 : Int) < b.length := by omega
   refine nx (by simp only [vw0, vw1, vw2, vw3, vw4, ↓reduceIte, Nat.reduceEqDiff, vw5, hS, un, Bool.not_true, Env.ofArgs_at, Option.getD_some, len_eB, gtrI, hl', decide_false]; rfl) ?_
   obtain ⟨u, e, hu, hul⟩ := outDec_form (b := b) ⟨hb, by omega⟩
   have hW' := hW hl
   have hR' := hR hl
   have hU := hT u
   have hQ' := hQ u hul
   rw [hu] at hW' hR'
   rw [eTask_eq] at hW' hR' hU hQ'
   simp only [vw0, vw1, vw2, vw3, vw4, ↓reduceIte, Nat.reduceEqDiff, Nat.reduceAdd, beq_self_eq_true, vw5, hE1, ht0, hE2, Env.ofArgs_at, Option.getD_some, hW', hR', b2sB, eqlSame, hU, hQ', hAw]
  ·have hl' : (3000 : Int) < b.length := by omega
   refine den_seq_ret ?_
   simp only [vw0, vw1, vw2, vw3, vw4, ↓reduceIte, Nat.reduceEqDiff, vw5, hS, un, Bool.not_true, Env.ofArgs_at, Option.getD_some, len_eB, gtrI, hl', decide_true, hAw]
end Gv
