/- What this file proves: one part of the proof that the law answers true for every input, by an interpreter that is proved sound against the given model. -/
import Derived.Test.YtfaeljmkbadgdaaMa
import Derived.Test.YtfaeljmkbadgdaaVw
import Derived.KernelRfl
namespace Gv
open Go
def oneP : SProg := ⟨[⟨0, []⟩], [⟨[], 4, 0, true⟩, ⟨[], 4, -1, false⟩], [⟨0, 0, []⟩, ⟨1, 0, []⟩], 5⟩
def oneW : SWorld := ⟨[⟨[], true, 0, 0, 0⟩, ⟨[], false, 0, 0, 0⟩], [⟨⟨-1, 0, 0⟩, ⟨0, 0, []⟩⟩, ⟨⟨-1, 1, 0⟩, ⟨1, 0, []⟩⟩], ⟨0, 0, 0, 0⟩⟩
def b9 : SBudget := ⟨9, 9, 9, 9⟩
theorem one_V (m : Nat) : callV tVT (m + 1) 125 [] = some (eProg oneP, []) := by kernel_rfl
theorem oneStart_V (m : Nat) : callV tVT (m + 20) 117 [eProg oneP] = some (.tup [eWorld oneW, .int .i64 0], []) := by kernel_rfl
theorem oneCheck_V (m : Nat) : callV tVT (m + 17) 132 [eProg oneP, eWorld oneW] = some (.bool true, []) := by kernel_rfl
theorem awkO_V (m : Nat) : callV tVT (m + 1) 120 [] = some (.bool true, []) := by kernel_rfl
end Gv

namespace Gv
open Go
theorem oneW_sml : SmallW oneW := ⟨by decide, ⟨by decide, by decide⟩, by decide⟩
theorem oneW_to : ToOk oneW := by
 intro x hx
 simp only [oneW, List.mem_cons, List.not_mem_nil, or_false] at hx
 rcases hx with rfl | rfl <;> simp [oneW]
theorem left9 : leftS b9 oneW = b9 := by kernel_rfl
theorem paid9 (k : Int) : paidB b9 k = true := by
 unfold paidB
 repeat' split
 all_goals rfl
theorem oneIs_V (m : Nat) (e : SEvent) : callV tVT (m + 20) 122 [eProg oneP, eBudget b9, eWorld oneW, eEvent e] = some (.bool (canB oneW e), []) := by
 refine callV_of (F := v_event_Is) rfl rfl rfl ?_ (.inr rfl)
 have ck := oneCheck_V (m + 2)
 have my := may_V (m := m + 18) b9
 have cn := can_V (m := m + 15) oneW oneW_sml oneW_to e
 have lf := left_V (m := m + 17) b9 oneW
 have pd := paid_V (m := m + 18) b9 e.kind
 generalize callV tVT (m + 19) = C at *
 generalize vTab tVT = V
 rw [show mayS b9 = true from rfl] at my
 rw [left9] at lf
 rw [paid9] at pd
 generalize oneW = w at *
 generalize oneP = p at *
 generalize b9 = b at *
 simp only [eProg, cProg_eq, eWorld, cWorld, eBudget, cBudget, eEvent, cEvent] at ck my cn lf pd
 simp only [eProg, cProg_eq, eWorld, cWorld, eBudget, cBudget, eEvent, cEvent, v_event_Is]
 cases h3 : canB w e with
 | false =>
  rw [h3] at cn
  simp only [vw0, vw1, vw2, vw3, vw4, ↓reduceIte, Nat.reduceEqDiff, Nat.reduceAdd, beq_self_eq_true, ff, Env.ofArgs_at, Option.getD_some, cl_hs, cl_as, cl_ns, ft_hs, ft_as, ft_ns, cl_ls, cl_ms, ft_ls, ft_ms, ck, my, cn]
 | true =>
  rw [h3] at cn
  simp only [vw0, vw1, vw2, vw3, vw4, ↓reduceIte, Nat.reduceEqDiff, Nat.reduceAdd, beq_self_eq_true, Env.ofArgs_at, Option.getD_some, cl_hs, cl_as, cl_ns, ft_hs, ft_as, ft_ns, cl_ls, cl_ms, ft_ls, ft_ms, ck, my, cn, lf, pd]
theorem find_one {i : SID} (h : ¬ (i.frm = -1 ∧ i.copy = 0 ∧ (i.n = 0 ∨ i.n = 1))) : findS oneW.mail i < 0 := by
 rw [find_neg]
 intro x hx
 simp only [oneW, List.mem_cons, List.not_mem_nil, or_false] at hx
 rcases hx with rfl | rfl
 ·intro e; subst e; exact h (by simp)
 ·intro e; subst e; exact h (by simp)
theorem canM_no {e : SEvent} (h : e.who ≠ 0 ∨ ¬ (e.id.frm = -1 ∧ e.id.copy = 0 ∧ (e.id.n = 0 ∨ e.id.n = 1))) : canM oneW e = false := by
 unfold canM
 rcases h with h | h
 ·rw [decide_eq_false h, Bool.false_and]
 ·rw [decide_eq_true (find_one h), Bool.not_true, Bool.false_and, Bool.and_false]
theorem round7_V {m : Nat} (k : Int) : ∃ r : Nat, r < 7 ∧ callV tVT (m + 1) 23 [.int .i64 k, .int .i64 7] = some (.int .i64 (r : Nat), []) := by
 have e1 : ∀ k : Int, binI .rem .i64 k .i64 7 = some (.int .i64 (k.tmod 7)) := fun k => by simp only [binI]; rw [if_neg (by decide), if_neg (by decide)]
 have b1 : (k.tmod 7) < 7 := Int.tmod_lt_of_pos k (by omega)
 have b2 : -7 < k.tmod 7 := Int.lt_tmod_of_pos k (by omega)
 have e2 : binI .add .i64 (k.tmod 7) .i64 7 = some (.int .i64 (k.tmod 7 + 7)) := by
  simp only [binI]; rw [if_neg (by decide), i64_of (by omega) (by omega)]
 have b3 : 0 ≤ (k.tmod 7 + 7).tmod 7 := Int.tmod_nonneg _ (by omega)
 have b4 : (k.tmod 7 + 7).tmod 7 < 7 := Int.tmod_lt_of_pos _ (by omega)
 refine ⟨((k.tmod 7 + 7).tmod 7).toNat, by omega, ?_⟩
 rw [show (((k.tmod 7 + 7).tmod 7).toNat : Int) = (k.tmod 7 + 7).tmod 7 by omega]
 refine callV_of (F := v_alike_Round) rfl rfl rfl ?_ (.inr rfl)
 simp only [vw0, vw1, vw2, vw4, ↓reduceIte, v_alike_Round, Env.ofArgs_at, Option.getD_some, e1, e2]
theorem can_yes {k : Int} (h : k = 1 ∨ k = 2 ∨ k = 3) : canB oneW ⟨k, ⟨-1, 0, 0⟩, 0⟩ = true := by
 rcases h with rfl | rfl | rfl <;> kernel_rfl
theorem add_w (x : Int) : binI .add .i64 x .i64 1 = some (.int .i64 (IntKind.i64.wrap (x + 1))) := by simp only [binI]; rw [if_neg (by decide)]
theorem sub_w (x : Int) : binI .sub .i64 x .i64 1 = some (.int .i64 (IntKind.i64.wrap (x - 1))) := by simp only [binI]; rw [if_neg (by decide)]
theorem canA_no {e : SEvent} (h : e.id ≠ zID ∨ e.who < 0 ∨ 2 ≤ e.who ∨ (e.kind = 4 ∧ e.who = 1)) : canA oneW e = false := by
 unfold canA
 by_cases h0 : e.id = zID
 rotate_left
 ·rw [decide_eq_false h0, Bool.false_and]
 by_cases h1 : 0 ≤ e.who
 rotate_left
 ·rw [decide_eq_false h1, Bool.false_and, Bool.and_false]
 by_cases h2 : e.who < oneW.actors.length
 rotate_left
 ·rw [decide_eq_false h2, Bool.false_and, Bool.and_false, Bool.and_false]
 have h2' : e.who < 2 := h2
 have h3 : e.kind = 4 ∧ e.who = 1 := by
  rcases h with h | h | h | h
  ·exact absurd h0 h
  ·omega
  ·omega
  ·exact h
 rw [h3.1, h3.2, show downAt oneW 1 = 0 from rfl, show armedAt oneW 1 = false from rfl]
 simp
theorem odd_V {m : Nat} (k n : Int) (hn : I64 n) : callV tVT (m + 21) 114 [.int .i64 k, .int .i64 n] = some (.bool true, []) := by
 refine callV_of (F := v_law10_EventOdd) rfl rfl rfl ?_ (.inr rfl)
 have on := one_V (m + 19)
 have st := oneStart_V m
 have aw := awkO_V (m + 19)
 have is := fun e => oneIs_V m e
 obtain ⟨r, hr, rd⟩ := round7_V (m := m + 19) k
 generalize callV tVT (m + 20) = C at *
 generalize vTab tVT = V
 have iss : ∀ e : SEvent, C 122 [.agg [eHs oneP.handlers, eAs oneP.actors, eNs oneP.boot, .int .i64 oneP.fuel], .agg [.int .i64 9, .int .i64 9, .int .i64 9, .int .i64 9], .agg [eLocals oneW.actors, eMsgs oneW.mail, .int .i64 0, .int .i64 0, .int .i64 0, .int .i64 0], .agg [.int .i64 e.kind, .int .i64 e.id.frm, .int .i64 e.id.n, .int .i64 e.id.copy, .int .i64 e.who]] = some (.bool (canB oneW e), []) := fun e => is e
 have on : C 125 [] = some (.agg [eHs oneP.handlers, eAs oneP.actors, eNs oneP.boot, .int .i64 oneP.fuel], []) := on
 have st : C 117 [.agg [eHs oneP.handlers, eAs oneP.actors, eNs oneP.boot, .int .i64 oneP.fuel]] = some (.tup [.agg [eLocals oneW.actors, eMsgs oneW.mail, .int .i64 0, .int .i64 0, .int .i64 0, .int .i64 0], .int .i64 0], []) := st
 clear is
 generalize hP : oneP = p at *
 simp only [v_law10_EventOdd]
 refine nx (by simp only [vw0, vw1, vw2, vw3, vw4, ↓reduceIte, Nat.reduceAdd, beq_self_eq_true, cl_hs, cl_as, cl_ns, ft_hs, ft_as, ft_ns, cl_ls, cl_ms, ft_ls, ft_ms, on, st]; rfl) ?_
 by_cases h0 : n = 0
 ·refine den_seq_ret ?_
  simp only [vw0, vw1, vw2, vw3, vw4, ↓reduceIte, Nat.reduceEqDiff, beq_self_eq_true, eql_b, ne_b, decide_true, Bool.not_true, Env.ofArgs_at, Option.getD_some, h0, aw]
 refine nx (by simp only [vw0, vw1, vw2, vw3, vw4, ↓reduceIte, Nat.reduceEqDiff, eql_b, ne_b, decide_true, decide_false, Bool.not_true, Env.ofArgs_at, Option.getD_some, h0]; rfl) ?_
 refine nx (by simp only [vw0, vw2, vw3, vw4, ↓reduceIte, Int.reduceNeg]; rfl) ?_
 have w1 := add_w n
 have w2 := sub_w n
 have fin : ∀ (e : Env) (x : SEvent), e 5 = .lptr [eHs p.handlers, eAs p.actors, eNs p.boot, .int .i64 p.fuel] → e 6 = .lptr [eLocals oneW.actors, eMsgs oneW.mail, .int .i64 0, .int .i64 0, .int .i64 0, .int .i64 0] → e 8 = .lptr [.int .i64 9, .int .i64 9, .int .i64 9, .int .i64 9] → e 9 = .lptr [.int .i64 x.kind, .int .i64 x.id.frm, .int .i64 x.id.n, .int .i64 x.id.copy, .int .i64 x.who] → canB oneW x = false →
   den C V (.seq (.st [.call [] none 97 122 [(.agg (.cn (.ld none (.v 5) 0) (.cn (.ld none (.v 5) 1) (.cn (.ld none (.v 5) 2) (.cn (.ld none (.v 5) 3) .nl))))), (.agg (.cn (.ld none (.v 8) 0) (.cn (.ld none (.v 8) 1) (.cn (.ld none (.v 8) 2) (.cn (.ld none (.v 8) 3) .nl))))), (.agg (.cn (.ld none (.v 6) 0) (.cn (.ld none (.v 6) 1) (.cn (.ld none (.v 6) 2) (.cn (.ld none (.v 6) 3) (.cn (.ld none (.v 6) 4) (.cn (.ld none (.v 6) 5) .nl))))))), (.agg (.cn (.ld none (.v 9) 0) (.cn (.ld none (.v 9) 1) (.cn (.ld none (.v 9) 2) (.cn (.ld none (.v 9) 3) (.cn (.ld none (.v 9) 4) .nl))))))] [], .call [(.un .not (.v 97))] (some ((.un .not (.v 97)), true)) 100 120 [] [], .asg [] [(4, (.ite (.un .not (.v 97)) (.v 100) (.boo false)))]]) (.ret (.v 4) [])) e = some (.ret (.bool true) []) := fun e x h5 h6 h8 h9 hx => by
  have := iss x
  rw [hx] at this
  simp only [vw0, vw1, vw2, vw3, vw4, ↓reduceIte, Nat.reduceEqDiff, beq_self_eq_true, Int.reduceNeg, Bool.not_false, un, cl_hs, cl_as, cl_ns, ft_hs, ft_as, ft_ns, cl_ls, cl_ms, ft_ls, ft_ms, h5, h6, h8, h9, this, aw]
 rw [ras]
 refine nx (by simp only [vw0, vw1, vw2, vw4, ↓reduceIte, reduceCtorEq, Int.reduceNeg, Env.ofArgs_at, Option.getD_some, rd]; rfl) ?_
 have hz : ∀ a b c : Int, (⟨a, b, c⟩ : SID) ≠ zID ↔ ¬ (a = 0 ∧ b = 0 ∧ c = 0) := fun a b c => by simp [zID]
 rcases (show r = 0 ∨ r = 1 ∨ r = 2 ∨ r = 3 ∨ r = 4 ∨ r = 5 ∨ r = 6 by omega) with rfl | rfl | rfl | rfl | rfl | rfl | rfl
 ·have r0 : ((0 : Nat) : Int) = 0 := rfl
  by_cases h13 : 1 ≤ n ∧ n ≤ 3
  ·have hy := iss ⟨n, ⟨-1, 0, 0⟩, 0⟩
   rw [can_yes (by omega)] at hy
   refine den_seq_ret (den_block_ret ?_)
   simp only [vw0, vw1, vw2, vw3, vw4, ↓reduceIte, Nat.reduceEqDiff, beq_self_eq_true, eql_b, leq_b, geq_b, decide_true, Int.reduceNeg, Env.ofArgs_at, Option.getD_some, cl_hs, cl_as, cl_ns, ft_hs, ft_as, ft_ns, cl_ls, cl_ms, ft_ls, ft_ms, r0, h13.1, h13.2, hy, aw]
  ·refine nx (den_block_norm (by
    by_cases c1 : 1 ≤ n
    ·have c2 : ¬ n ≤ 3 := fun h => h13 ⟨c1, h⟩
     simp only [vw0, vw1, vw2, vw3, vw4, ↓reduceIte, Nat.reduceEqDiff, eql_b, leq_b, geq_b, decide_true, decide_false, Int.reduceNeg, Env.ofArgs_at, Option.getD_some, r0, c1, c2]; rfl
    ·simp only [vw0, vw1, vw2, vw3, vw4, ↓reduceIte, Nat.reduceEqDiff, eql_b, leq_b, geq_b, decide_true, decide_false, Int.reduceNeg, Env.ofArgs_at, Option.getD_some, r0, c1])) (fin _ ⟨n, ⟨-1, 0, 0⟩, 0⟩ (by simp) (by simp) (by simp) (by simp) ?_)
   unfold canB
   rw [if_neg (by simp only; omega)]
   split
   ·exact canA_no (.inl ((hz _ _ _).2 (by omega)))
   ·rfl
 ·refine nx (by simp only [vw0, vw1, vw2, vw3, vw4, ↓reduceIte, Nat.reduceEqDiff, eql_b, decide_true, decide_false, Int.reduceEq, Int.reduceNeg, Env.ofArgs_at, Option.getD_some, show ((1 : Nat) : Int) = 1 from rfl]; rfl) (fin _ ⟨1, ⟨-1, 0, 0⟩, n⟩ (by simp) (by simp) (by simp) (by simp) ?_)
  rw [canB, if_pos (.inl rfl)]
  exact canM_no (.inl h0)
 ·refine nx (by simp only [vw0, vw1, vw2, vw3, vw4, ↓reduceIte, Nat.reduceEqDiff, eql_b, decide_true, decide_false, Int.reduceEq, Int.reduceNeg, Env.ofArgs_at, Option.getD_some, show ((2 : Nat) : Int) = 2 from rfl]; rfl) (fin _ ⟨1, ⟨-1, 0, n⟩, 0⟩ (by simp) (by simp) (by simp) (by simp) ?_)
  rw [canB, if_pos (.inl rfl)]
  exact canM_no (.inr (by simp; omega))
 ·refine nx (by simp only [vw0, vw1, vw2, vw3, vw4, ↓reduceIte, Nat.reduceEqDiff, eql_b, decide_true, decide_false, Int.reduceEq, Int.reduceNeg, Env.ofArgs_at, Option.getD_some, show ((3 : Nat) : Int) = 3 from rfl]; rfl) (fin _ ⟨5, ⟨0, n, 0⟩, 0⟩ (by simp) (by simp) (by simp) (by simp) ?_)
  rw [canB, if_neg (by simp), if_pos (.inr rfl)]
  exact canA_no (.inl ((hz _ _ _).2 (by omega)))
 ·refine nx (by simp only [vw0, vw1, vw2, vw3, vw4, ↓reduceIte, Nat.reduceEqDiff, eql_b, decide_true, decide_false, Int.reduceEq, Int.reduceNeg, Env.ofArgs_at, Option.getD_some, show ((4 : Nat) : Int) = 4 from rfl]; rfl) (fin _ ⟨4, ⟨0, 0, 0⟩, n⟩ (by simp) (by simp) (by simp) (by simp) ?_)
  rw [canB, if_neg (by simp), if_pos (.inl rfl)]
  refine canA_no (.inr ?_)
  rcases (show n < 0 ∨ 2 ≤ n ∨ n = 1 by omega) with h | h | h
  ·exact .inl h
  ·exact .inr (.inl h)
  ·exact .inr (.inr ⟨rfl, h⟩)
 ·by_cases hm : n = -1
  ·have hy := iss ⟨5, ⟨0, 0, 0⟩, 0⟩
   rw [show canB oneW ⟨5, ⟨0, 0, 0⟩, 0⟩ = true from by kernel_rfl] at hy
   have w1' : binI .add .i64 (-1) .i64 1 = some (.int .i64 0) := rfl
   subst hm
   refine den_seq_ret (den_block_ret ?_)
   simp only [vw0, vw1, vw2, vw3, vw4, ↓reduceIte, Nat.reduceEqDiff, reduceCtorEq, beq_self_eq_true, eql_b, decide_true, decide_false, Int.reduceEq, Int.reduceNeg, Env.ofArgs_at, Option.getD_some, cl_hs, cl_as, cl_ns, ft_hs, ft_as, ft_ns, cl_ls, cl_ms, ft_ls, ft_ms, show ((5 : Nat) : Int) = 5 from rfl, w1', hy, aw]
  ·have hw : IntKind.i64.wrap (n + 1) < 0 ∨ 2 ≤ IntKind.i64.wrap (n + 1) := by
    obtain ⟨a, b⟩ := hn
    by_cases hx : n = 9223372036854775807
    ·subst hx; left; decide
    ·rw [i64_of (by omega) (by omega)]; omega
   refine nx (by simp only [vw0, vw1, vw2, vw3, vw4, ↓reduceIte, Nat.reduceEqDiff, eql_b, decide_true, decide_false, Int.reduceEq, Int.reduceNeg, Env.ofArgs_at, Option.getD_some, show ((5 : Nat) : Int) = 5 from rfl, w1, hm, h0]; rfl) (fin _ ⟨5, ⟨0, 0, 0⟩, IntKind.i64.wrap (n + 1)⟩ (by simp) (by simp) (by simp) (by simp) ?_)
   rw [canB, if_neg (by simp), if_pos (.inr rfl)]
   exact canA_no (.inr (by simp only; omega))
 ·have hw : IntKind.i64.wrap (n - 1) ≠ -1 := by
   obtain ⟨a, b⟩ := hn
   by_cases hx : n = -9223372036854775808
   ·subst hx; decide
   ·rw [i64_of (by omega) (by omega)]; omega
  refine nx (by simp only [vw0, vw1, vw2, vw3, vw4, ↓reduceIte, Nat.reduceEqDiff, eql_b, decide_true, decide_false, Int.reduceEq, Int.reduceNeg, Env.ofArgs_at, Option.getD_some, show ((6 : Nat) : Int) = 6 from rfl, w2]; rfl) (fin _ ⟨1, ⟨IntKind.i64.wrap (n - 1), 0, 0⟩, 0⟩ (by simp) (by simp) (by simp) (by simp) ?_)
  rw [canB, if_pos (.inl rfl)]
  exact canM_no (.inr (fun h => hw h.1))
end Gv
