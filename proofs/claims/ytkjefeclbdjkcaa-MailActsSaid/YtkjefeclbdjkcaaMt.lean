/- What this file proves: one part of the proof that the law answers true for every input, by an interpreter that is proved sound against the given model. -/
import Derived.Test.YtkjefeclbdjkcaaMb
namespace Gv
open Go
end Gv

namespace Gv
open Go
theorem smlM_one {x : SMsg} (h : x.note.args.length < 1000000000) : smlM [x] := ⟨by simp, fun y hy => by simp at hy; subst hy; exact h⟩
theorem eqbN (a : Bool) : eqb true (.bool a) (.bool a) = some (.bool false) := by cases a <;> rfl
end Gv
namespace Gv
end Gv

namespace Gv
open Go
theorem less_iff (a b : SID) : lessID a b = true ↔ a.frm < b.frm ∨ (a.frm = b.frm ∧ (a.n < b.n ∨ (a.n = b.n ∧ a.copy < b.copy))) := by
 unfold lessID
 split
 ·rename_i h; simp only [decide_eq_true_eq]; omega
 ·rename_i h
  split
  ·rename_i h2; simp only [decide_eq_true_eq]; omega
  ·rename_i h2; simp only [decide_eq_true_eq]; omega
theorem less_ne {a b : SID} (h : lessID a b = true) : a ≠ b := fun e => by
 subst e; rw [less_iff] at h; omega
theorem less_tr {a b c : SID} (h1 : lessID a b = true) (h2 : lessID b c = true) : lessID a c = true := by
 rw [less_iff] at *; omega
theorem less_tot {a b : SID} (h : lessID a b = false) (hn : a ≠ b) : lessID b a = true := by
 have h1 : ¬ lessID a b = true := by rw [h]; simp
 rw [less_iff] at h1
 rw [less_iff]
 have : ¬ (a.frm = b.frm ∧ a.n = b.n ∧ a.copy = b.copy) := fun ⟨e1, e2, e3⟩ => hn (by cases a; cases b; simp_all)
 omega
def Asc (l : List SMsg) : Prop := l.Pairwise fun x y => lessID x.id y.id = true
theorem asc_nil : Asc [] := List.Pairwise.nil
theorem asc_sorted {l : List SMsg} (h : Asc l) : sortedS l = true := by
 refine decide_eq_true fun k hk => ?_
 unfold riseAt
 by_cases hk1 : k + 1 < l.length
 ·rw [List.getElem?_eq_getElem hk, List.getElem?_eq_getElem hk1]
  exact List.pairwise_iff_getElem.1 h k (k + 1) hk hk1 (by omega)
 ·rw [List.getElem?_eq_none (show l.length ≤ k + 1 by omega)]
  cases l[k]? <;> rfl
theorem asc_inj {l : List SMsg} (h : Asc l) {x y : SMsg} (hx : x ∈ l) (hy : y ∈ l) (e : x.id = y.id) : x = y := by
 obtain ⟨i, hi, rfl⟩ := List.getElem_of_mem hx
 obtain ⟨j, hj, rfl⟩ := List.getElem_of_mem hy
 rcases Nat.lt_trichotomy i j with h1 | h1 | h1
 ·exact absurd e (less_ne (List.pairwise_iff_getElem.1 h i j hi hj h1))
 ·simp only [h1]
 ·exact absurd e.symm (less_ne (List.pairwise_iff_getElem.1 h j i hj hi h1))
theorem asc_get {l : List SMsg} (h : Asc l) {i j : Nat} {x y : SMsg} (hx : l[i]? = some x) (hy : l[j]? = some y) (e : x.id = y.id) : i = j := by
 obtain ⟨hi, rfl⟩ := List.getElem?_eq_some_iff.1 hx
 obtain ⟨hj, rfl⟩ := List.getElem?_eq_some_iff.1 hy
 rcases Nat.lt_trichotomy i j with h1 | h1 | h1
 ·exact absurd e (less_ne (List.pairwise_iff_getElem.1 h i j hi hj h1))
 ·exact h1
 ·exact absurd e.symm (less_ne (List.pairwise_iff_getElem.1 h j i hj hi h1))
theorem find_neg {l : List SMsg} {i : SID} : findS l i < 0 ↔ ∀ x ∈ l, x.id ≠ i := by
 unfold findS firstI
 split
 ·rename_i k hk
  rw [List.findIdx?_eq_some_iff_getElem] at hk
  obtain ⟨h1, h2, _⟩ := hk
  refine ⟨fun h => by omega, fun h => absurd (of_decide_eq_true h2) (h _ (List.getElem_mem h1))⟩
 ·rename_i hk
  rw [List.findIdx?_eq_none_iff] at hk
  exact ⟨fun _ x hx => of_decide_eq_false (hk x hx), fun _ => by omega⟩
theorem find_pos {l : List SMsg} {i : SID} (h : ¬ findS l i < 0) : ∃ (k : Nat) (x : SMsg), findS l i = k ∧ l.findIdx? (fun x => decide (x.id = i)) = some k ∧ l[k]? = some x ∧ x.id = i := by
 unfold findS firstI at h ⊢
 split at h
 ·rename_i k hk
  have hk' := hk
  rw [List.findIdx?_eq_some_iff_getElem] at hk
  obtain ⟨h1, h2, _⟩ := hk
  exact ⟨k, l[k], rfl, hk', List.getElem?_eq_getElem h1, of_decide_eq_true h2⟩
 ·omega
theorem find_none {l : List SMsg} {i : SID} (h : findS l i < 0) : l.findIdx? (fun x => decide (x.id = i)) = none := by
 rw [find_neg] at h
 rw [List.findIdx?_eq_none_iff]
 exact fun x hx => decide_eq_false (h x hx)
theorem find_is {l : List SMsg} (h : Asc l) {x : SMsg} (hx : x ∈ l) : ∃ k : Nat, k < l.length ∧ findS l x.id = k ∧ l[k]? = some x := by
 have hn : ¬ findS l x.id < 0 := fun h => find_neg.1 h x hx rfl
 obtain ⟨k, y, h1, _, h3, h4⟩ := find_pos hn
 refine ⟨k, (List.getElem?_eq_some_iff.1 h3).1, h1, ?_⟩
 rw [h3, asc_inj h (List.mem_of_getElem? h3) hx h4]
theorem ins_mem {l : List SMsg} {m x : SMsg} : x ∈ insS l m ↔ x = m ∨ x ∈ l := by
 simp only [insS, List.mem_append, List.mem_singleton]
 constructor
 ·rintro ((h | h) | h)
  ·exact .inr (List.mem_of_mem_take h)
  ·exact .inl h
  ·exact .inr (List.mem_of_mem_drop h)
 ·rintro (h | h)
  ·exact .inl (.inr h)
  ·rw [← List.take_append_drop (atS l m) l] at h
   rcases List.mem_append.1 h with h | h
   ·exact .inl (.inl h)
   ·exact .inr h
theorem ins_len (l : List SMsg) (m : SMsg) : (insS l m).length = l.length + 1 := by
 have := atS_le l m
 simp only [insS, List.length_append, List.length_take, List.length_drop, List.length_cons, List.length_nil]; omega
theorem ins_asc {l : List SMsg} {m : SMsg} (h : Asc l) (hn : findS l m.id < 0) : Asc (insS l m) := by
 rw [find_neg] at hn
 have h1 : ∀ x ∈ l.take (atS l m), lessID x.id m.id = true := fun x hx => by
  obtain ⟨i, hi, rfl⟩ := List.getElem_of_mem hx
  simp only [List.length_take] at hi
  obtain ⟨y, hy, hl⟩ := atS_lt (l := l) (m := m) (k := i) (by omega)
  obtain ⟨hi2, rfl⟩ := List.getElem?_eq_some_iff.1 hy
  simpa using hl
 have h2 : ∀ x ∈ l.drop (atS l m), lessID m.id x.id = true := fun x hx => by
  obtain ⟨i, hi, rfl⟩ := List.getElem_of_mem hx
  simp only [List.length_drop] at hi
  have hx0 := hn _ (List.mem_of_mem_drop (List.getElem_mem (by simpa using hi) : (l.drop (atS l m))[i]'(by simpa using hi) ∈ _))
  have hb : atS l m < l.length := by omega
  have ha : lessID l[atS l m].id m.id = false := atS_at (l := l) (m := m) (List.getElem?_eq_getElem hb)
  have hc := less_tot ha (hn _ (List.getElem_mem hb))
  simp only [List.getElem_drop] at *
  rcases Nat.eq_zero_or_pos i with rfl | hp
  ·simpa using hc
  ·exact less_tr hc (List.pairwise_iff_getElem.1 h (atS l m) (atS l m + i) hb (by omega) (by omega))
 unfold Asc insS
 rw [List.pairwise_append, List.pairwise_append]
 refine ⟨⟨List.Pairwise.sublist (List.take_sublist _ _) h, List.pairwise_singleton _ _, fun a ha b hb => ?_⟩, List.Pairwise.sublist (List.drop_sublist _ _) h, fun a ha b hb => ?_⟩
 ·rw [List.mem_singleton] at hb; subst hb; exact h1 a ha
 ·rcases List.mem_append.1 ha with ha | ha
  ·exact less_tr (h1 a ha) (h2 b hb)
  ·rw [List.mem_singleton] at ha; subst ha; exact h2 b hb
def outS (l : List SMsg) (k : Nat) : List SMsg := l.take k ++ l.drop (k + 1)
theorem out_asc {l : List SMsg} {k : Nat} (h : Asc l) : Asc (outS l k) := by
 refine List.Pairwise.sublist ?_ h
 rw [outS, ← List.eraseIdx_eq_take_drop_succ]
 exact List.eraseIdx_sublist _ _
theorem out_len {l : List SMsg} {k : Nat} (h : k < l.length) : (outS l k).length = l.length - 1 := by
 simp only [outS, List.length_append, List.length_take, List.length_drop]; omega
theorem out_sub {l : List SMsg} {k : Nat} {x : SMsg} (h : x ∈ outS l k) : x ∈ l := by
 simp only [outS, List.mem_append] at h
 rcases h with h | h
 ·exact List.mem_of_mem_take h
 ·exact List.mem_of_mem_drop h
theorem out_mem {l : List SMsg} {k : Nat} {y x : SMsg} (hk : l[k]? = some y) (hd : ∀ j z, l[j]? = some z → z.id = y.id → j = k) : x ∈ outS l k ↔ x ∈ l ∧ x.id ≠ y.id := by
 constructor
 ·intro h
  refine ⟨out_sub h, fun e => ?_⟩
  simp only [outS, List.mem_append] at h
  rcases h with h | h
  ·obtain ⟨i, hi⟩ := List.getElem?_of_mem h
   have hlt : i < k := by
    have := (List.getElem?_eq_some_iff.1 hi).1
    simp only [List.length_take] at this; omega
   rw [List.getElem?_take_of_lt hlt] at hi
   have := hd i x hi e
   omega
  ·obtain ⟨i, hi⟩ := List.getElem?_of_mem h
   rw [List.getElem?_drop] at hi
   have := hd _ x hi e
   omega
 ·rintro ⟨h, e⟩
  obtain ⟨i, hi⟩ := List.getElem?_of_mem h
  have hne : i ≠ k := fun h => by subst h; rw [hi] at hk; cases hk; exact e rfl
  simp only [outS, List.mem_append]
  rcases Nat.lt_or_ge i k with h1 | h1
  ·left
   exact List.mem_of_getElem? (by rw [List.getElem?_take_of_lt h1]; exact hi)
  ·right
   exact List.mem_of_getElem? (i := i - (k + 1)) (by rw [List.getElem?_drop, show k + 1 + (i - (k + 1)) = i by omega]; exact hi)
theorem take_is {l : List SMsg} {i : SID} (h : ¬ findS l i < 0) (ok no : PV) : ∃ (k : Nat) (x : SMsg), findS l i = k ∧ l[k]? = some x ∧ x.id = i ∧ outTake l i ok no = .tup [eMsgs (outS l k), eMsg x, ok] := by
 obtain ⟨k, x, h1, h2, h3, h4⟩ := find_pos h
 exact ⟨k, x, h1, h3, h4, by simp only [outTake, h2, h3, outS]⟩
theorem take_no {l : List SMsg} {i : SID} (h : findS l i < 0) (ok no : PV) : outTake l i ok no = .tup [eMsgs [], eMsg zM, no] := by
 simp only [outTake, find_none h]
structure ActInv (now inn : List SMsg) : Prop where
 asc : Asc now
 len : now.length = inn.length
 mem : ∀ x, x ∈ now ↔ x ∈ inn
 dis : ∀ (i j : Nat) (x y : SMsg), inn[i]? = some x → inn[j]? = some y → x.id = y.id → i = j
 few : ∀ x ∈ inn, x.note.args.length ≤ 6
theorem act_nil : ActInv [] [] := ⟨asc_nil, rfl, fun _ => Iff.rfl, fun i j x y h => by simp at h, by simp⟩
theorem act_find {now inn : List SMsg} (h : ActInv now inn) (i : SID) : findS now i < 0 ↔ findS inn i < 0 := by
 rw [find_neg, find_neg]
 exact ⟨fun a x hx => a x ((h.mem x).2 hx), fun a x hx => a x ((h.mem x).1 hx)⟩
theorem act_put {now inn : List SMsg} (h : ActInv now inn) {m : SMsg} (hn : findS now m.id < 0) (hm : m.note.args.length ≤ 6) : ActInv (insS now m) (inn ++ [m]) := by
 have hi := find_neg.1 ((act_find h m.id).1 hn)
 refine ⟨ins_asc h.asc hn, by rw [ins_len, h.len]; simp, fun x => ?_, fun i j x y hx hy e => ?_, fun x hx => ?_⟩
 ·rw [ins_mem, h.mem, List.mem_append, List.mem_singleton, or_comm]
 ·have l1 := (List.getElem?_eq_some_iff.1 hx).1
  have l2 := (List.getElem?_eq_some_iff.1 hy).1
  simp only [List.length_append, List.length_cons, List.length_nil] at l1 l2
  rcases Nat.lt_or_ge i inn.length with a | a <;> rcases Nat.lt_or_ge j inn.length with b | b
  ·rw [List.getElem?_append_left a] at hx
   rw [List.getElem?_append_left b] at hy
   exact h.dis i j x y hx hy e
  ·rw [List.getElem?_append_left a] at hx
   obtain rfl : j = inn.length := by omega
   simp at hy
   subst hy
   exact absurd e (hi x (List.mem_of_getElem? hx))
  ·rw [List.getElem?_append_left b] at hy
   obtain rfl : i = inn.length := by omega
   simp at hx
   subst hx
   exact absurd e.symm (hi y (List.mem_of_getElem? hy))
  ·omega
 ·rcases List.mem_append.1 hx with hx | hx
  ·exact h.few x hx
  ·rw [List.mem_singleton] at hx; subst hx; exact hm
theorem act_take {now inn : List SMsg} (h : ActInv now inn) {i : SID} {j k : Nat} {x y : SMsg} (hj : now[j]? = some x) (hk : inn[k]? = some y) (hx : x.id = i) (hy : y.id = i) : x = y ∧ ActInv (outS now j) (outS inn k) := by
 have e : x = y := asc_inj h.asc (List.mem_of_getElem? hj) ((h.mem y).2 (List.mem_of_getElem? hk)) (hx.trans hy.symm)
 have lj := (List.getElem?_eq_some_iff.1 hj).1
 have lk := (List.getElem?_eq_some_iff.1 hk).1
 refine ⟨e, out_asc h.asc, by rw [out_len lj, out_len lk, h.len], fun z => ?_, fun a b z w hz hw ez => ?_, fun z hz => h.few z (out_sub hz)⟩
 ·rw [out_mem hj fun a z hz ez => asc_get h.asc hz hj ez, out_mem hk fun a z hz ez => h.dis a k z y hz hk ez, h.mem, e]
 ·have key : ∀ a : Nat, (outS inn k)[a]? = inn[if a < k then a else a + 1]? := fun a => by
   simp only [outS]
   by_cases ha : a < k
   ·rw [List.getElem?_append_left (by simp only [List.length_take]; omega), List.getElem?_take_of_lt ha, if_pos ha]
   ·rw [List.getElem?_append_right (by simp only [List.length_take]; omega), List.getElem?_drop, if_neg ha]
    congr 1
    simp only [List.length_take]; omega
  rw [key] at hz hw
  have := h.dis _ _ z w hz hw ez
  by_cases ha : a < k <;> by_cases hb : b < k <;> simp only [ha, hb, if_true, if_false] at this <;> omega
end Gv

namespace Gv
open Go
structure SAct where
 kind : Int
 m : SMsg
def eAct (a : SAct) : PV := .agg (.int .i64 a.kind :: cMsg a.m)
def eActs (l : List SAct) : PV := .lst (l.map eAct) false
theorem ia_acts {k : Nat} {l : List SAct} {x : SAct} (h : l[k]? = some x) : indexAddrPV 7 (eActs l) (.int .i64 (k : Nat)) = some (.lptr (.int .i64 x.kind :: cMsg x.m)) := ia_map (f := eAct) h rfl
theorem len_acts {l : List SAct} : lenV (eActs l) = some (.int .i64 l.length) := len_map
theorem gtr_n (a b : Nat) : binI .gtr .i64 (a : Int) .i64 (b : Int) = some (.bool (decide (b < a))) := by simp [binI]
theorem act_sml {now inn : List SMsg} (h : ActInv now inn) (hl : now.length ≤ 40) : smlM now := ⟨by omega, fun x hx => by have := h.few x ((h.mem x).1 hx); omega⟩
def actSt (l : List SAct) (k : Nat) (e : Env) : Prop := e 0 = eActs l ∧ e 5 = .int .i64 (k : Nat) ∧ ∃ now inn, ActInv now inn ∧ now.length ≤ k ∧ e 3 = eMsgs now ∧ e 4 = eMsgs inn
def actSt2 (now inn : List SMsg) (k : Nat) (e : Env) : Prop := e 3 = eMsgs now ∧ e 4 = eMsgs inn ∧ e 14 = .int .i64 (k : Nat)
theorem acts_V {m : Nat} (l : List SAct) : callV tVT (m + 13) 8 [eActs l] = some (.bool true, []) := by
 refine callV_of (F := v_law8_MailActs) rfl rfl rfl ?_ (.inr rfl)
 have h3 := awake_V m
 have pf := fun now (h : smlM now) x hx => putF_V (m := m + 5) now h x hx
 have tk := fun now (h : smlM now) i => take_V (m := m + 7) now h i
 have cf := fun now (h : smlM now) => copy_V (m := m + 8) now h
 have rf := fun inn (h : inn.length < 1000000000) i => rfind_V (m := m + 11) inn h i
 have fi := fun inn (h : inn.length < 1000000000) i => find_V (m := m + 9) inn h i
 have sm := fun now (h : smlM now) => same_V (m := m + 7) now now h
 have rs : ∀ x : SMsg, smlM [x] → callV tVT (m + 12) 36 [eMsgs [x], eMsgs [x]] = some (.bool true, []) := fun x h => by
  have := rsame_V (m := m + 9) [x] [x] h
  rwa [decide_eq_true rfl] at this
 have so := fun now (h : now.length < 1000000000) => sorted_V (m := m + 7) now h
 generalize callV tVT (m + 12) = C at *
 generalize vTab tVT = V
 have ll : lenV (eActs l) = some (.int .i64 l.length) := len_acts
 have e0 : eMsgs [] = .lst [] false := rfl
 have ey : ∀ y : SMsg, eMsgs [y] = .lst [.agg [.int .i64 y.id.frm, .int .i64 y.id.n, .int .i64 y.id.copy, .int .i64 y.note.to, .int .i64 y.note.handler, eI y.note.args]] false := fun _ => rfl
 simp only [eID, cID] at rf fi tk
 simp only [eMsg, cMsg] at pf
 simp only [ey] at rs
 have hg : binI .gtr .i64 (l.length : Int) .i64 40 = some (.bool (decide (40 < l.length))) := gtr_n _ 40
 simp only [v_law8_MailActs]
 refine nx (by simp only [vw0]; rfl) ?_
 by_cases h40 : 40 < l.length
 ·refine den_seq_ret ?_
  simp only [vw0, vw1, vw2, vw3, vw4, ↓reduceIte, Env.ofArgs_at, Option.getD_some, ll, hg, h40, decide_true, h3]
 refine nx (by simp only [vw0, vw1, vw2, vw3, vw4, ↓reduceIte, Env.ofArgs_at, Option.getD_some, ll, hg, h40, decide_false]; rfl) ?_
 refine nx (by simp only [vw0, vw2, ↓reduceIte]; rfl) ?_
 rw [ras]
 refine nx (by simp only [vw0, vw2, ↓reduceIte]; rfl) ?_
 rw [v_law8_MailActs_L1]
 refine ret_seq (n := l.length) (k0 := 0) (by omega) (by omega) (fun k => (l[k]?).elim true fun a => decide (a.m.note.args.length ≤ 6)) (.bool true) (actSt l) (actSt l l.length)
  (fun k e hk hkn hp ⟨h1, h2, now, inn, hI, hn, h4, h5⟩ => ?_) (fun k e hk hkn hp ⟨h1, h2, now, inn, hI, hn, h4, h5⟩ => ?_) (fun e ⟨h1, h2, h5⟩ => ?_) (fun a e he => ?_) (fun k a1 a2 a3 => rfl) ⟨by simp [Env.ofArgs_at], by simp, [], [], act_nil, by simp, by simp [e0], by simp [e0]⟩
 ·obtain ⟨x, hx, _⟩ := get_lt hkn
  simp only [hx, Option.elim, decide_eq_true_eq] at hp
  have ix := ia_acts hx
  have hb : binI .lss .i64 (k : Int) .i64 (l.length : Int) = some (.bool true) := by rw [lss_idx, decide_eq_true hkn]
  have ha := add_idx (k := k) (by omega)
  have hg6 : binI .gtr .i64 (x.m.note.args.length : Int) .i64 6 = some (.bool false) := by
   rw [show (6 : Int) = (6 : Nat) from rfl, gtr_n, decide_eq_false (by omega)]
  have hs := act_sml hI (by omega)
  have hl := hI.len
  have rf := rf inn (by omega) x.m.id
  have cf := cf now hs
  have sm := sm now hs
  rw [decide_eq_true rfl] at sm
  have neq : ∀ a b : Nat, a = b → binI .neq .i64 (a : Int) .i64 (b : Int) = some (.bool false) := fun a b h => by rw [neqLn, decide_eq_true h]; rfl
  have kl := lss_b (findS inn x.m.id) 0
  have kg := geq0 (findS inn x.m.id)
  have f0 : ∀ l : List SMsg, lenV (eMsgs l) = some (.int .i64 l.length) := fun _ => len_ms
  have hk1 := eql_b x.kind 1
  have z0 : binI .eql .i64 0 .i64 0 = some (.bool true) := rfl
  have z1 : binI .eql .i64 1 .i64 0 = some (.bool false) := rfl
  have z8 : binI .eql .i64 8 .i64 0 = some (.bool false) := rfl
  have so0 := so now (by omega)
  rw [asc_sorted hI.asc] at so0
  have nl := neq _ _ hl
  simp only [cMsg] at ix
  by_cases hkd : x.kind = 1
  ·rw [decide_eq_true hkd] at hk1
   have pf := pf now hs x.m (by omega)
   by_cases hq : findS now x.m.id < 0
   ·have hq2 := (act_find hI x.m.id).1 hq
    rw [decide_eq_true hq2] at kl
    rw [outPut, if_pos hq] at pf
    have hI2 := act_put hI hq hp
    have ap := app_ms (a := inn) (b := [x.m]) (by simp; omega)
    rw [ey] at ap
    have il := ins_len now x.m
    have so := so (insS now x.m) (by omega)
    rw [asc_sorted hI2.asc] at so
    have nl := neq _ _ hI2.len
    refine ⟨_, _, by simp only [vw0, vw1, vw2, vw3, vw4, ↓reduceIte, h1, h2, ll, hb]; rfl, by simp only [vw0, vw1, vw2, vw3, vw4, ↓reduceIte, Nat.reduceEqDiff, reduceCtorEq, Nat.reduceAdd, beq_self_eq_true, h1, h2, h4, h5, ix, len_eI, hg6, rf, cf, hk1, pf, z0, kl, eqbN, sm, un, Bool.not_true, ap, so, f0, nl, ha]; rfl, ?_⟩
    exact ⟨by simp [h1], by simp, _, _, hI2, by omega, by simp, by simp⟩
   ·have hq2 : ¬ findS inn x.m.id < 0 := fun h => hq ((act_find hI x.m.id).2 h)
    rw [decide_eq_false hq2] at kl
    rw [outPut, if_neg hq] at pf
    refine ⟨_, _, by simp only [vw0, vw1, vw2, vw3, vw4, ↓reduceIte, h1, h2, ll, hb]; rfl, by simp only [vw0, vw1, vw2, vw3, vw4, ↓reduceIte, Nat.reduceEqDiff, reduceCtorEq, Nat.reduceAdd, beq_self_eq_true, h1, h2, h4, h5, ix, len_eI, hg6, rf, cf, hk1, pf, z1, kl, eqbN, sm, un, Bool.not_true, so0, f0, nl, ha]; rfl, ?_⟩
    exact ⟨by simp [h1], by simp, _, _, hI, by omega, by simp [h4], by simp [h5]⟩
  ·rw [decide_eq_false hkd] at hk1
   have tk := tk now hs x.m.id
   by_cases hq : findS now x.m.id < 0
   ·have hq2 := (act_find hI x.m.id).1 hq
    rw [decide_eq_true hq2, Bool.not_true] at kg
    rw [take_no hq] at tk
    simp only [eMsg, cMsg, zM] at tk
    refine ⟨_, _, by simp only [vw0, vw1, vw2, vw3, vw4, ↓reduceIte, h1, h2, ll, hb]; rfl, by simp only [vw0, vw1, vw2, vw3, vw4, ↓reduceIte, Nat.reduceEqDiff, reduceCtorEq, Nat.reduceAdd, beq_self_eq_true, h1, h2, h4, h5, ix, len_eI, hg6, rf, cf, hk1, tk, z8, kg, eqbN, sm, un, Bool.not_true, so0, f0, nl, ha]; rfl, ?_⟩
    exact ⟨by simp [h1], by simp, _, _, hI, by omega, by simp [h4], by simp [h5]⟩
   ·have hq2 : ¬ findS inn x.m.id < 0 := fun h => hq ((act_find hI x.m.id).2 h)
    rw [decide_eq_false hq2, Bool.not_false] at kg
    obtain ⟨j, y, y1, y2, y3, y4⟩ := take_is hq (.int .i64 0) (.int .i64 8)
    obtain ⟨i, z, z1', z2, z3, _⟩ := take_is hq2 (.int .i64 0) (.int .i64 8)
    obtain ⟨rfl, hI2⟩ := act_take hI y2 z2 y3 z3
    rw [y4] at tk
    simp only [eMsg, cMsg] at tk
    rw [z1'] at rf kg
    have iz := ia_ms z2
    have zi := (List.getElem?_eq_some_iff.1 z2).1
    have yj := (List.getElem?_eq_some_iff.1 y2).1
    have rs := rs y (smlM_one (by have := hs.2 y (List.mem_of_getElem? y2); omega))
    have a1 := add_idx (k := i) (by omega)
    have s1 := slice_lo (l := inn) (k := i) (by omega)
    have s2 := slice_hi (l := inn) (k := i + 1) (by omega)
    have ap1 := app_ms (a := []) (b := inn.take i) (by simp; omega)
    have ap2 := app_ms (a := inn.take i) (b := inn.drop (i + 1)) (by simp; omega)
    simp only [e0, List.nil_append] at ap1
    have hw : eMsgs (inn.take i ++ inn.drop (i + 1)) = eMsgs (outS inn i) := rfl
    rw [hw] at ap2
    have ol := out_len yj
    have so := so (outS now j) (by omega)
    rw [asc_sorted hI2.asc] at so
    have nl := neq _ _ hI2.len
    simp only [cMsg] at iz
    refine ⟨_, _, by simp only [vw0, vw1, vw2, vw3, vw4, ↓reduceIte, h1, h2, ll, hb]; rfl, by simp only [vw0, vw1, vw2, vw3, vw4, ↓reduceIte, Nat.reduceEqDiff, reduceCtorEq, Nat.reduceAdd, beq_self_eq_true, h1, h2, h4, h5, ix, len_eI, hg6, rf, cf, hk1, tk, z0, kg, eqbN, sm, iz, rs, un, Bool.not_true, a1, s1, s2, ap1, ap2, so, f0, nl, ha]; rfl, ?_⟩
    exact ⟨by simp [h1], by simp, _, _, hI2, by omega, by simp, by simp⟩
 ·obtain ⟨x, hx, _⟩ := get_lt hkn
  simp only [hx, Option.elim, decide_eq_false_iff_not] at hp
  have ix := ia_acts hx
  have hb : binI .lss .i64 (k : Int) .i64 (l.length : Int) = some (.bool true) := by rw [lss_idx, decide_eq_true hkn]
  have hg6 : binI .gtr .i64 (x.m.note.args.length : Int) .i64 6 = some (.bool true) := by
   rw [show (6 : Int) = (6 : Nat) from rfl, gtr_n, decide_eq_true (by omega)]
  simp only [cMsg] at ix
  exact ⟨_, by simp only [vw0, vw1, vw2, vw3, vw4, ↓reduceIte, h1, h2, ll, hb]; rfl, by simp only [vw0, vw1, vw2, vw3, vw4, ↓reduceIte, Nat.reduceAdd, beq_self_eq_true, h1, h2, ix, len_eI, hg6, h3]⟩
 ·have hb : binI .lss .i64 (l.length : Int) .i64 (l.length : Int) = some (.bool false) := by rw [lss_idx, decide_eq_false (by omega)]
  exact ⟨_, by simp only [vw0, vw1, vw2, vw3, vw4, ↓reduceIte, h1, h2, ll, hb], h1, h2, h5⟩
 ·obtain ⟨h1, h2, now, inn, hI, hn, h4, h5⟩ := he
  rw [ras]
  refine nx (by simp only [vw0, vw2, ↓reduceIte]; rfl) ?_
  rw [v_law8_MailActs_L2]
  have hs := act_sml hI (by omega)
  have hl := hI.len
  have fl : lenV (eMsgs inn) = some (.int .i64 inn.length) := len_ms
  have fn : lenV (eMsgs now) = some (.int .i64 now.length) := len_ms
  refine ret_seq (n := inn.length) (k0 := 0) (by omega) (by omega) (fun _ => true) (.bool true) (actSt2 now inn) (fun _ => True)
   (fun k e hk hkn hp ⟨h1, h2, h3⟩ => ?_) (fun k e hk hkn hp _ => (by cases hp)) (fun e ⟨h1, h2, h3⟩ => ?_) (fun a e he => ?_) (fun k a1 a2 a3 => rfl) ⟨by simp [h4], by simp [h5], by simp⟩
  ·obtain ⟨x, hx, hm⟩ := get_lt hkn
   obtain ⟨j, hj, hf, hg⟩ := find_is hI.asc ((hI.mem x).2 hm)
   have ix := ia_ms hx
   have ig := ia_ms hg
   have hb : binI .lss .i64 (k : Int) .i64 (inn.length : Int) = some (.bool true) := by rw [lss_idx, decide_eq_true hkn]
   have ha := add_idx (k := k) (by omega)
   have fi := fi now (by omega) x.id
   rw [hf] at fi
   have rs := rs x (smlM_one (by have := hI.few x hm; omega))
   have b1 : binI .lss .i64 (j : Int) .i64 0 = some (.bool false) := by rw [lss_b, decide_eq_false (by omega)]
   have b2 : binI .geq .i64 (j : Int) .i64 (now.length : Int) = some (.bool false) := by simp [binI]; omega
   simp only [cMsg] at ix ig
   refine ⟨_, _, by simp only [vw0, vw1, vw2, vw3, vw4, ↓reduceIte, h2, h3, fl, hb]; rfl, by simp only [vw0, vw1, vw2, vw3, vw4, ↓reduceIte, Nat.reduceEqDiff, Nat.reduceAdd, Nat.reduceLeDiff, beq_self_eq_true, h1, h2, h3, ix, ig, fi, b1, fn, b2, rs, un, Bool.not_true, ha]; rfl, ?_⟩
   exact ⟨by simp [h1], by simp [h2], by simp⟩
  ·have hb : binI .lss .i64 (inn.length : Int) .i64 (inn.length : Int) = some (.bool false) := by rw [lss_idx, decide_eq_false (by omega)]
   exact ⟨_, by simp only [vw0, vw1, vw2, vw3, vw4, ↓reduceIte, h2, h3, fl, hb]; rfl, trivial⟩
  ·simp only [vw0, vw1, vw2, vw4, ↓reduceIte, h3]
end Gv

namespace Gv
open Go
def msgN (k : Nat) : SMsg := ⟨⟨(k % 3 : Nat), (k / 3 : Nat), 0⟩, ⟨(k % 2 : Nat), 0, [(k : Int)]⟩⟩
structure SrtInv (now : List SMsg) (ins : List Bool) (b : Nat) : Prop where
 asc : Asc now
 len : ins.length = 30
 mem : ∀ x, x ∈ now ↔ ∃ k, k < b ∧ ins[k]? = some true ∧ x = msgN k
end Gv

namespace Gv
open Go
end Gv
