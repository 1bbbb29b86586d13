/- What this file proves: one part of the proof that the law answers true for every input, by an interpreter that is proved sound against the given model. -/
import Derived.Test.YtkjefeclbdjkcaaMb
namespace Gv
open Go
theorem mailS_sml {l : List SMsg} (h : mailS l = true) : smlM l ∧ l.length ≤ 50 := by
 simp only [mailS, Bool.and_eq_true, decide_eq_true_eq] at h
 refine ⟨⟨by omega, fun x hx => ?_⟩, h.1⟩
 obtain ⟨k, hk⟩ := List.mem_iff_getElem?.1 hx
 have := h.2 k (getElem?_lt hk)
 simp only [fewAt, hk, decide_eq_true_eq] at this
 omega
theorem tells_lo {m : Nat} (l o : List SMsg) (x : SMsg) (w : Int) (h : (mailS l && mailS o && decide (x.note.args.length ≤ 6)) = false) : callV tVT (m + 13) 7 [eMsgs l, eMsgs o, eMsg x, .int .i64 w] = some (.bool true, []) := by
 refine callV_of (F := v_law8_MailTells) rfl rfl rfl ?_ (.inr rfl)
 have h1 := alike_V (m := m + 11) l
 have h2 := alike_V (m := m + 11) o
 have h3 := awake_V m
 generalize callV tVT (m + 12) = C at *
 generalize vTab tVT = V
 have hg : binI .gtr .i64 (x.note.args.length : Int) .i64 6 = some (.bool (!decide (x.note.args.length ≤ 6))) := by
  by_cases h : x.note.args.length ≤ 6
  ·simp [binI, h]; omega
  ·simp [binI, h]; omega
 simp only [eMsg, cMsg, v_law8_MailTells]
 refine nx (by simp only [vw0, vw1, vw2, vw3, vw4, ↓reduceIte, Nat.reduceAdd, beq_self_eq_true, Env.ofArgs_at, Option.getD_some]; rfl) ?_
 refine den_seq_ret ?_
 cases ha : mailS l with
 | false =>
  rw [ha] at h1
  simp only [vw0, vw1, vw2, vw3, vw4, ↓reduceIte, Nat.reduceEqDiff, reduceCtorEq, Env.ofArgs_at, Option.getD_some, h1, un, Bool.not_false, tf, h3]
 | true =>
  rw [ha] at h1
  cases hb : mailS o with
  | false =>
   rw [hb] at h2
   simp only [vw0, vw1, vw2, vw3, vw4, ↓reduceIte, Nat.reduceEqDiff, reduceCtorEq, beq_self_eq_true, Env.ofArgs_at, Option.getD_some, h1, h2, un, Bool.not_false, Bool.not_true, h3]
  | true =>
   rw [hb] at h2
   rw [ha, hb, Bool.true_and, Bool.true_and] at h
   rw [h, Bool.not_false] at hg
   simp only [vw0, vw1, vw2, vw3, vw4, ↓reduceIte, Nat.reduceEqDiff, reduceCtorEq, beq_self_eq_true, Env.ofArgs_at, Option.getD_some, h1, h2, un, Bool.not_true, len_eI, hg, h3]
end Gv

namespace Gv
open Go
theorem smlM_one {x : SMsg} (h : x.note.args.length < 1000000000) : smlM [x] := ⟨by simp, fun y hy => by simp at hy; subst hy; exact h⟩
theorem insS_sml {l : List SMsg} {x : SMsg} (hl : smlM l) (h5 : l.length ≤ 50) (hx : x.note.args.length < 1000000000) : smlM (insS l x) := by
 refine ⟨?_, fun y hy => ?_⟩
 ·simp only [insS, List.length_append, List.length_take, List.length_drop, List.length_cons, List.length_nil]; omega
 ·simp only [insS, List.mem_append, List.mem_cons, List.not_mem_nil, or_false] at hy
  rcases hy with (hy | rfl) | hy
  ·exact hl.2 y (List.mem_of_mem_take hy)
  ·exact hx
  ·exact hl.2 y (List.mem_of_mem_drop hy)
theorem take_sml {l : List SMsg} {k : Nat} (hl : smlM l) (h5 : l.length ≤ 50) : smlM (l.take k ++ l.drop (k + 1)) := by
 refine ⟨by simp only [List.length_append, List.length_take, List.length_drop]; omega, fun y hy => ?_⟩
 rcases List.mem_append.1 hy with hy | hy
 ·exact hl.2 y (List.mem_of_mem_take hy)
 ·exact hl.2 y (List.mem_of_mem_drop hy)
theorem eqbN (a : Bool) : eqb true (.bool a) (.bool a) = some (.bool false) := by cases a <;> rfl
theorem eqbY (a : Bool) : eqb false (.bool a) (.bool a) = some (.bool true) := by cases a <;> rfl
theorem tells_hi {m : Nat} (l o : List SMsg) (x : SMsg) (w : Int) (ha : mailS l = true) (hb : mailS o = true) (hx : x.note.args.length ≤ 6) : callV tVT (m + 13) 7 [eMsgs l, eMsgs o, eMsg x, .int .i64 w] = some (.bool true, []) := by
 refine callV_of (F := v_law8_MailTells) rfl rfl rfl ?_ (.inr rfl)
 obtain ⟨hl, h5⟩ := mailS_sml ha
 obtain ⟨ho, _⟩ := mailS_sml hb
 have hl0 := hl.1
 have h1 := alike_V (m := m + 11) l
 have h2 := alike_V (m := m + 11) o
 have h3 := awake_V m
 have p1 := put_V (m := m + 5) l hl x (by omega)
 have p2 := rput_V (m := m + 10) l hl0 x
 have t1 := take_V (m := m + 7) l hl x.id
 have t2 := rtake_V (m := m + 10) l hl x.id
 have s1 := sorted_V (m := m + 7) l hl0
 have s2 := rsorted_V (m := m + 10) l hl0
 have f1 := find_V (m := m + 9) l hl0 x.id
 have f2 := rfind_V (m := m + 11) l hl0 x.id
 have w1 := to_V (m := m + 11) l hl0 w
 have w2 := rto_V (m := m + 11) l hl0 w
 have q1 := same_V (m := m + 7) l o hl
 have q2 := rsame_V (m := m + 9) l o hl
 have c1 := copyF_V (m := m + 8) l hl
 have q3 := same_V (m := m + 7) l l hl
 rw [decide_eq_true rfl] at q3
 have r0 : callV tVT (m + 12) 36 [eMsgs [], eMsgs []] = some (.bool true, []) := rsame_V (m := m + 9) [] [] ⟨by simp, by simp⟩
 have r1 : callV tVT (m + 12) 36 [eMsgs (insS l x), eMsgs (insS l x)] = some (.bool true, []) := by
  have := rsame_V (m := m + 9) (insS l x) (insS l x) (insS_sml hl h5 (by omega))
  rwa [decide_eq_true rfl] at this
 have r2 : ∀ k, callV tVT (m + 12) 36 [eMsgs (l.take k ++ l.drop (k + 1)), eMsgs (l.take k ++ l.drop (k + 1))] = some (.bool true, []) := fun k => by
  have := rsame_V (m := m + 9) _ (l.take k ++ l.drop (k + 1)) (take_sml (k := k) hl h5)
  rwa [decide_eq_true rfl] at this
 have r3 : ∀ y : SMsg, y.note.args.length < 1000000000 → callV tVT (m + 12) 36 [eMsgs [y], eMsgs [y]] = some (.bool true, []) := fun y hy => by
  have := rsame_V (m := m + 9) [y] [y] (smlM_one hy)
  rwa [decide_eq_true rfl] at this
 rw [ha] at h1
 rw [hb] at h2
 generalize callV tVT (m + 12) = C at *
 generalize vTab tVT = V
 have hg : binI .gtr .i64 (x.note.args.length : Int) .i64 6 = some (.bool false) := by simp [binI]; omega
 have e0 : eMsgs [] = .lst [] false := rfl
 have ey : ∀ y : SMsg, eMsgs [y] = .lst [.agg [.int .i64 y.id.frm, .int .i64 y.id.n, .int .i64 y.id.copy, .int .i64 y.note.to, .int .i64 y.note.handler, eI y.note.args]] false := fun _ => rfl
 have z0 : binI .eql .i64 0 .i64 0 = some (.bool true) := rfl
 have z1 : binI .eql .i64 1 .i64 0 = some (.bool false) := rfl
 have z2 : binI .neq .i64 1 .i64 1 = some (.bool false) := rfl
 have z3 : binI .eql .i64 8 .i64 0 = some (.bool false) := rfl
 have z4 : binI .neq .i64 8 .i64 8 = some (.bool false) := rfl
 have zf : binI .eql .i64 (findS l x.id) .i64 (findS l x.id) = some (.bool true) := by rw [eql_b, decide_eq_true rfl]
 have zt : binI .eql .i64 (toS l w : Int) .i64 (toS l w : Int) = some (.bool true) := by rw [eql_b, decide_eq_true rfl]
 simp only [eMsg, cMsg] at p1 p2
 simp only [eID, cID] at t1 t2 f1 f2
 simp only [eMsg, cMsg, v_law8_MailTells]
 refine nx (by simp only [vw0, vw1, vw2, vw3, vw4, ↓reduceIte, Nat.reduceAdd, beq_self_eq_true, Env.ofArgs_at, Option.getD_some]; rfl) ?_
 refine nx (by simp only [vw0, vw1, vw2, vw3, vw4, ↓reduceIte, Nat.reduceEqDiff, reduceCtorEq, beq_self_eq_true, Env.ofArgs_at, Option.getD_some, h1, h2, un, Bool.not_true, len_eI, hg]; rfl) ?_
 cases hq : l.findIdx? (fun y => decide (y.id = x.id)) with
 | some k =>
  have e1 : findS l x.id = (k : Int) := by simp [findS, firstI, hq]
  have o1 : outPut l x = .tup [eMsgs [], .int .i64 1] := by rw [outPut, if_neg (by omega)]
  have o2 : routPut l x = .tup [eMsgs [], .bool false] := by rw [routPut, if_neg (by omega)]
  have hk : k < l.length := by
   rw [List.findIdx?_eq_some_iff_getElem] at hq
   exact hq.1
  obtain ⟨y, hy, hm⟩ := get_lt hk
  have o3 : ∀ a b, outTake l x.id a b = .tup [eMsgs (l.take k ++ l.drop (k + 1)), eMsg y, a] := fun a b => by simp only [outTake, hq, hy]
  have r3 := r3 y (hl.2 y hm)
  have r2 := r2 k
  rw [o1] at p1
  rw [o2] at p2
  rw [o3] at t1 t2
  rw [ey] at r3
  simp only [eMsg, cMsg] at t1 t2
  refine nx (by simp only [vw0, vw1, vw2, vw3, vw4, ↓reduceIte, Nat.reduceEqDiff, reduceCtorEq, Nat.reduceAdd, beq_self_eq_true, Env.ofArgs_at, Option.getD_some, p1, p2, t1, t2]; rfl) ?_
  refine nx (by simp only [vw0, vw1, vw2, vw3, vw4, ↓reduceIte, Nat.reduceEqDiff, Nat.reduceAdd, beq_self_eq_true, r0, r2, r3, z0, z1, z2, eqbN, un, Bool.not_true, Bool.not_false]; rfl) ?_
  simp only [vw0, vw1, vw2, vw3, vw4, ↓reduceIte, Nat.reduceEqDiff, reduceCtorEq, beq_self_eq_true, Env.ofArgs_at, Option.getD_some, s1, s2, f1, f2, zf, w1, w2, zt, q1, q2, c1, q3, h3, eqbY]
 | none =>
  have e1 : findS l x.id = -1 := by simp [findS, firstI, hq]
  have o1 : outPut l x = .tup [eMsgs (insS l x), .int .i64 0] := by rw [outPut, if_pos (by omega)]
  have o2 : routPut l x = .tup [eMsgs (insS l x), .bool true] := by rw [routPut, if_pos (by omega)]
  have o3 : ∀ a b, outTake l x.id a b = .tup [eMsgs [], eMsg zM, b] := fun a b => by simp only [outTake, hq]
  have r3 := r3 zM (by simp [zM])
  rw [o1] at p1
  rw [o2] at p2
  rw [o3] at t1 t2
  rw [ey] at r3
  simp only [eMsg, cMsg] at t1 t2
  refine nx (by simp only [vw0, vw1, vw2, vw3, vw4, ↓reduceIte, Nat.reduceEqDiff, reduceCtorEq, Nat.reduceAdd, beq_self_eq_true, Env.ofArgs_at, Option.getD_some, p1, p2, t1, t2]; rfl) ?_
  refine nx (by simp only [vw0, vw1, vw2, vw3, vw4, ↓reduceIte, Nat.reduceEqDiff, Nat.reduceAdd, beq_self_eq_true, r0, r1, r3, z0, z3, z4, eqbN, un, Bool.not_true, Bool.not_false]; rfl) ?_
  simp only [vw0, vw1, vw2, vw3, vw4, ↓reduceIte, Nat.reduceEqDiff, reduceCtorEq, beq_self_eq_true, Env.ofArgs_at, Option.getD_some, s1, s2, f1, f2, zf, w1, w2, zt, q1, q2, c1, q3, h3, eqbY]
end Gv
namespace Gv
theorem mailTells_V {m : Nat} (l o : List SMsg) (x : SMsg) (w : Int) : callV tVT (m + 13) 7 [eMsgs l, eMsgs o, eMsg x, .int .i64 w] = some (.bool true, []) := by
 cases h : (mailS l && mailS o && decide (x.note.args.length ≤ 6)) with
 | false => exact tells_lo l o x w h
 | true =>
  simp only [Bool.and_eq_true, decide_eq_true_eq] at h
  exact tells_hi l o x w h.1.1 h.1.2 h.2
end Gv
