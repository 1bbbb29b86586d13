/- What this file proves: one part of the proof that the law answers true for every input, by an interpreter that is proved sound against the given model. -/
import Derived.Test.YtkjefeclbdjkcaaMb
namespace Gv
open Go
end Gv

namespace Gv
open Go
theorem smlM_one {x : SMsg} (h : x.note.args.length < 1000000000) : smlM [x] := ⟨by simp, fun y hy => by simp at hy; subst hy; exact h⟩
theorem eqbN (a : Bool) : eqb true (.bool a) (.bool a) = some (.bool false) := by cases a <;> rfl
end Gv
namespace Gv
end Gv

namespace Gv
open Go
theorem less_iff (a b : SID) : lessID a b = true ↔ a.frm < b.frm ∨ (a.frm = b.frm ∧ (a.n < b.n ∨ (a.n = b.n ∧ a.copy < b.copy))) := by
 unfold lessID
 split
 ·rename_i h; simp only [decide_eq_true_eq]; omega
 ·rename_i h
  split
  ·rename_i h2; simp only [decide_eq_true_eq]; omega
  ·rename_i h2; simp only [decide_eq_true_eq]; omega
theorem less_ne {a b : SID} (h : lessID a b = true) : a ≠ b := fun e => by
 subst e; rw [less_iff] at h; omega
theorem less_tr {a b c : SID} (h1 : lessID a b = true) (h2 : lessID b c = true) : lessID a c = true := by
 rw [less_iff] at *; omega
theorem less_tot {a b : SID} (h : lessID a b = false) (hn : a ≠ b) : lessID b a = true := by
 have h1 : ¬ lessID a b = true := by rw [h]; simp
 rw [less_iff] at h1
 rw [less_iff]
 have : ¬ (a.frm = b.frm ∧ a.n = b.n ∧ a.copy = b.copy) := fun ⟨e1, e2, e3⟩ => hn (by cases a; cases b; simp_all)
 omega
def Asc (l : List SMsg) : Prop := l.Pairwise fun x y => lessID x.id y.id = true
theorem asc_nil : Asc [] := List.Pairwise.nil
theorem asc_sorted {l : List SMsg} (h : Asc l) : sortedS l = true := by
 refine decide_eq_true fun k hk => ?_
 unfold riseAt
 by_cases hk1 : k + 1 < l.length
 ·rw [List.getElem?_eq_getElem hk, List.getElem?_eq_getElem hk1]
  exact List.pairwise_iff_getElem.1 h k (k + 1) hk hk1 (by omega)
 ·rw [List.getElem?_eq_none (show l.length ≤ k + 1 by omega)]
  cases l[k]? <;> rfl
theorem asc_get {l : List SMsg} (h : Asc l) {i j : Nat} {x y : SMsg} (hx : l[i]? = some x) (hy : l[j]? = some y) (e : x.id = y.id) : i = j := by
 obtain ⟨hi, rfl⟩ := List.getElem?_eq_some_iff.1 hx
 obtain ⟨hj, rfl⟩ := List.getElem?_eq_some_iff.1 hy
 rcases Nat.lt_trichotomy i j with h1 | h1 | h1
 ·exact absurd e (less_ne (List.pairwise_iff_getElem.1 h i j hi hj h1))
 ·exact h1
 ·exact absurd e.symm (less_ne (List.pairwise_iff_getElem.1 h j i hj hi h1))
theorem find_neg {l : List SMsg} {i : SID} : findS l i < 0 ↔ ∀ x ∈ l, x.id ≠ i := by
 unfold findS firstI
 split
 ·rename_i k hk
  rw [List.findIdx?_eq_some_iff_getElem] at hk
  obtain ⟨h1, h2, _⟩ := hk
  refine ⟨fun h => by omega, fun h => absurd (of_decide_eq_true h2) (h _ (List.getElem_mem h1))⟩
 ·rename_i hk
  rw [List.findIdx?_eq_none_iff] at hk
  exact ⟨fun _ x hx => of_decide_eq_false (hk x hx), fun _ => by omega⟩
theorem find_pos {l : List SMsg} {i : SID} (h : ¬ findS l i < 0) : ∃ (k : Nat) (x : SMsg), findS l i = k ∧ l.findIdx? (fun x => decide (x.id = i)) = some k ∧ l[k]? = some x ∧ x.id = i := by
 unfold findS firstI at h ⊢
 split at h
 ·rename_i k hk
  have hk' := hk
  rw [List.findIdx?_eq_some_iff_getElem] at hk
  obtain ⟨h1, h2, _⟩ := hk
  exact ⟨k, l[k], rfl, hk', List.getElem?_eq_getElem h1, of_decide_eq_true h2⟩
 ·omega
theorem find_none {l : List SMsg} {i : SID} (h : findS l i < 0) : l.findIdx? (fun x => decide (x.id = i)) = none := by
 rw [find_neg] at h
 rw [List.findIdx?_eq_none_iff]
 exact fun x hx => decide_eq_false (h x hx)
theorem ins_mem {l : List SMsg} {m x : SMsg} : x ∈ insS l m ↔ x = m ∨ x ∈ l := by
 simp only [insS, List.mem_append, List.mem_singleton]
 constructor
 ·rintro ((h | h) | h)
  ·exact .inr (List.mem_of_mem_take h)
  ·exact .inl h
  ·exact .inr (List.mem_of_mem_drop h)
 ·rintro (h | h)
  ·exact .inl (.inr h)
  ·rw [← List.take_append_drop (atS l m) l] at h
   rcases List.mem_append.1 h with h | h
   ·exact .inl (.inl h)
   ·exact .inr h
theorem ins_len (l : List SMsg) (m : SMsg) : (insS l m).length = l.length + 1 := by
 have := atS_le l m
 simp only [insS, List.length_append, List.length_take, List.length_drop, List.length_cons, List.length_nil]; omega
theorem ins_asc {l : List SMsg} {m : SMsg} (h : Asc l) (hn : findS l m.id < 0) : Asc (insS l m) := by
 rw [find_neg] at hn
 have h1 : ∀ x ∈ l.take (atS l m), lessID x.id m.id = true := fun x hx => by
  obtain ⟨i, hi, rfl⟩ := List.getElem_of_mem hx
  simp only [List.length_take] at hi
  obtain ⟨y, hy, hl⟩ := atS_lt (l := l) (m := m) (k := i) (by omega)
  obtain ⟨hi2, rfl⟩ := List.getElem?_eq_some_iff.1 hy
  simpa using hl
 have h2 : ∀ x ∈ l.drop (atS l m), lessID m.id x.id = true := fun x hx => by
  obtain ⟨i, hi, rfl⟩ := List.getElem_of_mem hx
  simp only [List.length_drop] at hi
  have hx0 := hn _ (List.mem_of_mem_drop (List.getElem_mem (by simpa using hi) : (l.drop (atS l m))[i]'(by simpa using hi) ∈ _))
  have hb : atS l m < l.length := by omega
  have ha : lessID l[atS l m].id m.id = false := atS_at (l := l) (m := m) (List.getElem?_eq_getElem hb)
  have hc := less_tot ha (hn _ (List.getElem_mem hb))
  simp only [List.getElem_drop] at *
  rcases Nat.eq_zero_or_pos i with rfl | hp
  ·simpa using hc
  ·exact less_tr hc (List.pairwise_iff_getElem.1 h (atS l m) (atS l m + i) hb (by omega) (by omega))
 unfold Asc insS
 rw [List.pairwise_append, List.pairwise_append]
 refine ⟨⟨List.Pairwise.sublist (List.take_sublist _ _) h, List.pairwise_singleton _ _, fun a ha b hb => ?_⟩, List.Pairwise.sublist (List.drop_sublist _ _) h, fun a ha b hb => ?_⟩
 ·rw [List.mem_singleton] at hb; subst hb; exact h1 a ha
 ·rcases List.mem_append.1 ha with ha | ha
  ·exact less_tr (h1 a ha) (h2 b hb)
  ·rw [List.mem_singleton] at ha; subst ha; exact h2 b hb
def outS (l : List SMsg) (k : Nat) : List SMsg := l.take k ++ l.drop (k + 1)
theorem out_asc {l : List SMsg} {k : Nat} (h : Asc l) : Asc (outS l k) := by
 refine List.Pairwise.sublist ?_ h
 rw [outS, ← List.eraseIdx_eq_take_drop_succ]
 exact List.eraseIdx_sublist _ _
theorem out_len {l : List SMsg} {k : Nat} (h : k < l.length) : (outS l k).length = l.length - 1 := by
 simp only [outS, List.length_append, List.length_take, List.length_drop]; omega
theorem out_sub {l : List SMsg} {k : Nat} {x : SMsg} (h : x ∈ outS l k) : x ∈ l := by
 simp only [outS, List.mem_append] at h
 rcases h with h | h
 ·exact List.mem_of_mem_take h
 ·exact List.mem_of_mem_drop h
theorem out_mem {l : List SMsg} {k : Nat} {y x : SMsg} (hk : l[k]? = some y) (hd : ∀ j z, l[j]? = some z → z.id = y.id → j = k) : x ∈ outS l k ↔ x ∈ l ∧ x.id ≠ y.id := by
 constructor
 ·intro h
  refine ⟨out_sub h, fun e => ?_⟩
  simp only [outS, List.mem_append] at h
  rcases h with h | h
  ·obtain ⟨i, hi⟩ := List.getElem?_of_mem h
   have hlt : i < k := by
    have := (List.getElem?_eq_some_iff.1 hi).1
    simp only [List.length_take] at this; omega
   rw [List.getElem?_take_of_lt hlt] at hi
   have := hd i x hi e
   omega
  ·obtain ⟨i, hi⟩ := List.getElem?_of_mem h
   rw [List.getElem?_drop] at hi
   have := hd _ x hi e
   omega
 ·rintro ⟨h, e⟩
  obtain ⟨i, hi⟩ := List.getElem?_of_mem h
  have hne : i ≠ k := fun h => by subst h; rw [hi] at hk; cases hk; exact e rfl
  simp only [outS, List.mem_append]
  rcases Nat.lt_or_ge i k with h1 | h1
  ·left
   exact List.mem_of_getElem? (by rw [List.getElem?_take_of_lt h1]; exact hi)
  ·right
   exact List.mem_of_getElem? (i := i - (k + 1)) (by rw [List.getElem?_drop, show k + 1 + (i - (k + 1)) = i by omega]; exact hi)
theorem take_is {l : List SMsg} {i : SID} (h : ¬ findS l i < 0) (ok no : PV) : ∃ (k : Nat) (x : SMsg), findS l i = k ∧ l[k]? = some x ∧ x.id = i ∧ outTake l i ok no = .tup [eMsgs (outS l k), eMsg x, ok] := by
 obtain ⟨k, x, h1, h2, h3, h4⟩ := find_pos h
 exact ⟨k, x, h1, h3, h4, by simp only [outTake, h2, h3, outS]⟩
theorem take_no {l : List SMsg} {i : SID} (h : findS l i < 0) (ok no : PV) : outTake l i ok no = .tup [eMsgs [], eMsg zM, no] := by
 simp only [outTake, find_none h]
structure ActInv (now inn : List SMsg) : Prop where
 asc : Asc now
 len : now.length = inn.length
 mem : ∀ x, x ∈ now ↔ x ∈ inn
 few : ∀ x ∈ inn, x.note.args.length ≤ 6
end Gv

namespace Gv
open Go
theorem gtr_n (a b : Nat) : binI .gtr .i64 (a : Int) .i64 (b : Int) = some (.bool (decide (b < a))) := by simp [binI]
end Gv

namespace Gv
open Go
def msgN (k : Nat) : SMsg := ⟨⟨(k % 3 : Nat), (k / 3 : Nat), 0⟩, ⟨(k % 2 : Nat), 0, [(k : Int)]⟩⟩
theorem msgN_inj {j k : Nat} (h : (msgN j).id = (msgN k).id) : j = k := by
 simp only [msgN, SID.mk.injEq, Int.natCast_inj] at h
 omega
def eBs (l : List Bool) : PV := .lst (l.map PV.bool) false
theorem ia_bs {k : Nat} {l : List Bool} {x : Bool} (h : l[k]? = some x) : indexAddrPV 1 (eBs l) (.int .i64 (k : Nat)) = some (.lptr [.bool x]) := ia_map (f := PV.bool) h rfl
theorem upd_bs {b : List Bool} {k : Nat} {x : Bool} (h : k < b.length) : updV none (eBs b) (.int .i64 (k : Nat)) 0 (.bool x) = some (eBs (b.set k x)) := by
 have hg : (b.map PV.bool)[k]? = some (.bool b[k]) := by simp [List.getElem?_eq_getElem h]
 simp only [updV, eBs]
 rw [if_pos (by simp; omega)]
 simp only [Int.toNat_natCast, hg]
 rw [if_pos ⟨rfl, rfl, Nat.le_refl _⟩]
 simp [List.map_set, PV.withCells, PV.cells]
theorem rem_n (a b : Nat) (h : 0 < b) : binI .rem .i64 (a : Int) .i64 (b : Int) = some (.int .i64 ((a % b : Nat) : Int)) := by
 simp only [binI]; rw [if_neg (by decide), if_neg (by omega), Int.ofNat_tmod]
theorem quo_n (a b : Nat) (h : 0 < b) (ha : a < 4611686018427387903) : binI .quo .i64 (a : Int) .i64 (b : Int) = some (.int .i64 ((a / b : Nat) : Int)) := by
 have hl : a / b ≤ a := Nat.div_le_self a b
 simp only [binI]; rw [if_neg (by decide), if_neg (by omega), ← Int.ofNat_tdiv]; generalize a / b = q at *; rw [i64_of (by omega) (by omega)]
theorem message_V {m : Nat} (k : Nat) (hk : k < 1000) : callV tVT (m + 1) 45 [.int .i64 (k : Nat)] = some (eMsg (msgN k), []) := by
 refine callV_of (F := v_law8_message) rfl rfl rfl ?_ (.inl rfl)
 generalize callV tVT m = C
 generalize vTab tVT = V
 have r3 : binI .rem .i64 (k : Int) .i64 3 = some (.int .i64 ((k % 3 : Nat) : Int)) := rem_n k 3 (by omega)
 have r2 : binI .rem .i64 (k : Int) .i64 2 = some (.int .i64 ((k % 2 : Nat) : Int)) := rem_n k 2 (by omega)
 have q3 : binI .quo .i64 (k : Int) .i64 3 = some (.int .i64 ((k / 3 : Nat) : Int)) := quo_n k 3 (by omega) (by omega)
 simp only [eMsg, cMsg, msgN, v_law8_message]
 simp only [vw0, vw1, vw2, vw3, vw4, ↓reduceIte, reduceCtorEq, Env.ofArgs_at, Option.getD_some, r3, r2, q3]
 rfl
theorem roundM_V {m : Nat} (k : Int) : ∃ r : Nat, r < 30 ∧ callV tVT (m + 1) 23 [.int .i64 k, .int .i64 30] = some (.int .i64 (r : Nat), []) := by
 have e1 : ∀ k : Int, binI .rem .i64 k .i64 30 = some (.int .i64 (k.tmod 30)) := fun k => by simp only [binI]; rw [if_neg (by decide), if_neg (by decide)]
 have b1 : (k.tmod 30) < 30 := Int.tmod_lt_of_pos k (by omega)
 have b2 : -30 < k.tmod 30 := Int.lt_tmod_of_pos k (by omega)
 have e2 : binI .add .i64 (k.tmod 30) .i64 30 = some (.int .i64 (k.tmod 30 + 30)) := by
  simp only [binI]; rw [if_neg (by decide), i64_of (by omega) (by omega)]
 have b3 : 0 ≤ (k.tmod 30 + 30).tmod 30 := Int.tmod_nonneg _ (by omega)
 have b4 : (k.tmod 30 + 30).tmod 30 < 30 := Int.tmod_lt_of_pos _ (by omega)
 refine ⟨((k.tmod 30 + 30).tmod 30).toNat, by omega, ?_⟩
 rw [show (((k.tmod 30 + 30).tmod 30).toNat : Int) = (k.tmod 30 + 30).tmod 30 by omega]
 refine callV_of (F := v_alike_Round) rfl rfl rfl ?_ (.inr rfl)
 simp only [vw0, vw1, vw2, vw4, ↓reduceIte, v_alike_Round, Env.ofArgs_at, Option.getD_some, e1, e2]
structure SrtInv (now : List SMsg) (ins : List Bool) (b : Nat) : Prop where
 asc : Asc now
 len : ins.length = 30
 mem : ∀ x, x ∈ now ↔ ∃ k, k < b ∧ ins[k]? = some true ∧ x = msgN k
theorem srt_nil : SrtInv [] (List.replicate 30 false) 30 := ⟨asc_nil, by simp, fun x => by
 simp only [List.not_mem_nil, false_iff]
 rintro ⟨k, _, h, _⟩
 rw [List.getElem?_replicate] at h
 split at h <;> simp at h⟩
theorem srt_find {now : List SMsg} {ins : List Bool} {b k : Nat} (h : SrtInv now ins b) (hk : k < b) : findS now (msgN k).id < 0 ↔ ¬ ins[k]? = some true := by
 rw [find_neg]
 constructor
 ·intro a hi
  exact a (msgN k) ((h.mem _).2 ⟨k, hk, hi, rfl⟩) rfl
 ·intro a x hx e
  obtain ⟨j, _, hj, rfl⟩ := (h.mem _).1 hx
  obtain rfl := msgN_inj e
  exact a hj
theorem srt_put {now : List SMsg} {ins : List Bool} {k : Nat} (h : SrtInv now ins 30) (hk : k < 30) (hf : findS now (msgN k).id < 0) : SrtInv (insS now (msgN k)) (ins.set k true) 30 := by
 have hl := h.len
 refine ⟨ins_asc h.asc hf, by simp [hl], fun x => ?_⟩
 rw [ins_mem, h.mem]
 constructor
 ·rintro (rfl | ⟨j, hj, hi, rfl⟩)
  ·exact ⟨k, hk, by rw [List.getElem?_set_self (by omega)], rfl⟩
  ·refine ⟨j, hj, ?_, rfl⟩
   by_cases e : k = j
   ·subst e; rw [List.getElem?_set_self (by omega)]
   ·rw [List.getElem?_set_ne e]; exact hi
 ·rintro ⟨j, hj, hi, rfl⟩
  by_cases e : k = j
  ·subst e; exact .inl rfl
  ·rw [List.getElem?_set_ne e] at hi; exact .inr ⟨j, hj, hi, rfl⟩
theorem srt_skip {now : List SMsg} {ins : List Bool} {b : Nat} (h : SrtInv now ins (b + 1)) (hf : ¬ ins[b]? = some true) : SrtInv now ins b := ⟨h.asc, h.len, fun x => by
 rw [h.mem]
 constructor
 ·rintro ⟨k, hk, hi, rfl⟩
  have : k ≠ b := fun e => hf (e ▸ hi)
  exact ⟨k, by omega, hi, rfl⟩
 ·rintro ⟨k, hk, hi, rfl⟩
  exact ⟨k, by omega, hi, rfl⟩⟩
theorem srt_take {now : List SMsg} {ins : List Bool} {b j : Nat} {x : SMsg} (h : SrtInv now ins (b + 1)) (hj : now[j]? = some x) (hx : x.id = (msgN b).id) : x = msgN b ∧ SrtInv (outS now j) ins b := by
 obtain ⟨k, hk, hi, rfl⟩ := (h.mem _).1 (List.mem_of_getElem? hj)
 obtain rfl := msgN_inj hx
 refine ⟨rfl, out_asc h.asc, h.len, fun y => ?_⟩
 rw [out_mem hj fun a z hz ez => asc_get h.asc hz hj ez, h.mem]
 constructor
 ·rintro ⟨⟨i, hi, h2, rfl⟩, hn⟩
  have : i ≠ k := fun e => hn (by rw [e])
  exact ⟨i, by omega, h2, rfl⟩
 ·rintro ⟨i, hi, h2, rfl⟩
  exact ⟨⟨i, by omega, h2, rfl⟩, fun e => by have := msgN_inj e; omega⟩
theorem srt_sml {now : List SMsg} {ins : List Bool} {b : Nat} (h : SrtInv now ins b) (hl : now.length ≤ 30) : smlM now := ⟨by omega, fun x hx => by
 obtain ⟨k, _, _, rfl⟩ := (h.mem _).1 hx
 simp [msgN]⟩
theorem toS_two : ∀ l : List SMsg, (∀ x ∈ l, x.note.to = 0 ∨ x.note.to = 1) → toS l 0 + toS l 1 = l.length
 | [], _ => rfl
 | x :: l, h => by
  have ih := toS_two l fun y hy => h y (by simp [hy])
  simp only [toS, List.countP_cons, List.length_cons] at *
  rcases h x (by simp) with e | e <;> simp [e] <;> omega
theorem srt_two {now : List SMsg} {ins : List Bool} {b : Nat} (h : SrtInv now ins b) : toS now 0 + toS now 1 = now.length := toS_two now fun x hx => by
 obtain ⟨k, _, _, rfl⟩ := (h.mem _).1 hx
 simp only [msgN]
 omega
theorem srt_zero {now : List SMsg} {ins : List Bool} (h : SrtInv now ins 0) : now = [] := by
 cases now with
 | nil => rfl
 | cons x l =>
  obtain ⟨k, hk, _⟩ := (h.mem x).1 (by simp)
  omega
end Gv

namespace Gv
open Go
def srtSt (l : List Int) (k : Nat) (e : Env) : Prop := e 0 = eI l ∧ e 6 = .int .i64 (k : Nat) ∧ ∃ now ins, SrtInv now ins 30 ∧ now.length ≤ k ∧ e 3 = eMsgs now ∧ e 4 = eBs ins ∧ e 5 = .int .i64 (now.length : Nat)
def srtSt2 (j : Nat) (e : Env) : Prop := e 10 = .int .i64 (29 - (j : Int)) ∧ ∃ now ins, SrtInv now ins (30 - j) ∧ now.length ≤ 30 ∧ e 3 = eMsgs now ∧ e 4 = eBs ins
theorem sorts_V {m : Nat} (l : List Int) : callV tVT (m + 13) 9 [eI l] = some (.bool true, []) := by
 refine callV_of (F := v_law8_MailSorted) rfl rfl rfl ?_ (.inr rfl)
 have h3 := awake_V m
 have pf := fun now (h : smlM now) x hx => putF_V (m := m + 5) now h x hx
 have tk := fun now (h : smlM now) i => take_V (m := m + 7) now h i
 have rd := fun x => roundM_V (m := m + 11) x
 have mg := fun k hk => message_V (m := m + 11) k hk
 have w1 := fun now (h : now.length < 1000000000) w => to_V (m := m + 11) now h w
 have sm : ∀ x : SMsg, smlM [x] → callV tVT (m + 12) 43 [eMsgs [x], eMsgs [x]] = some (.bool true, []) := fun x h => by
  have := same_V (m := m + 7) [x] [x] h
  rwa [decide_eq_true rfl] at this
 have so := fun now (h : now.length < 1000000000) => sorted_V (m := m + 7) now h
 generalize callV tVT (m + 12) = C at *
 generalize vTab tVT = V
 have e0 : eMsgs [] = .lst [] false := rfl
 have ey : ∀ y : SMsg, eMsgs [y] = .lst [.agg [.int .i64 y.id.frm, .int .i64 y.id.n, .int .i64 y.id.copy, .int .i64 y.note.to, .int .i64 y.note.handler, eI y.note.args]] false := fun _ => rfl
 simp only [eID, cID] at tk
 simp only [eMsg, cMsg] at pf mg
 simp only [ey] at sm
 have hg : binI .gtr .i64 (l.length : Int) .i64 30 = some (.bool (decide (30 < l.length))) := gtr_n _ 30
 have z0 : binI .eql .i64 0 .i64 0 = some (.bool true) := rfl
 have z1 : binI .eql .i64 1 .i64 0 = some (.bool false) := rfl
 have z8 : binI .eql .i64 8 .i64 0 = some (.bool false) := rfl
 have f0 : ∀ l : List SMsg, lenV (eMsgs l) = some (.int .i64 l.length) := fun _ => len_ms
 have neq : ∀ a b : Nat, a = b → binI .neq .i64 (a : Int) .i64 (b : Int) = some (.bool false) := fun a b h => by rw [neqLn, decide_eq_true h]; rfl
 simp only [v_law8_MailSorted]
 refine nx (by simp only [vw0]; rfl) ?_
 by_cases h30 : 30 < l.length
 ·refine den_seq_ret ?_
  simp only [vw0, vw1, vw2, vw3, vw4, ↓reduceIte, Env.ofArgs_at, Option.getD_some, len_eI, hg, h30, decide_true, h3]
 have hm : mksV 1 (.bool false) (.int .i64 30) = some (eBs (List.replicate 30 false)) := rfl
 refine nx (by simp only [vw0, vw1, vw2, vw3, vw4, ↓reduceIte, Env.ofArgs_at, Option.getD_some, len_eI, hg, h30, decide_false]; rfl) ?_
 refine nx (by simp only [vw0, vw1, vw2, ↓reduceIte, hm]; rfl) ?_
 rw [ras]
 refine nx (by simp only [vw0, vw2, ↓reduceIte]; rfl) ?_
 rw [v_law8_MailSorted_L1]
 refine ret_seq (n := l.length) (k0 := 0) (by omega) (by omega) (fun _ => true) (.bool true) (srtSt l) (srtSt l l.length)
  (fun k e hk hkn hp ⟨h1, h2, now, ins, hI, hn, h4, h5, h6⟩ => ?_) (fun k e hk hkn hp _ => (by cases hp)) (fun e ⟨h1, h2, h5⟩ => ?_) (fun a e he => ?_) (fun k a1 a2 a3 => rfl) ⟨by simp [Env.ofArgs_at], by simp, [], _, srt_nil, by simp, by simp [e0], by simp, by simp⟩
 ·obtain ⟨x, hx, _⟩ := get_lt hkn
  have ix := ia_eI hx
  have hb : binI .lss .i64 (k : Int) .i64 (l.length : Int) = some (.bool true) := by rw [lss_idx, decide_eq_true hkn]
  have ha := add_idx (k := k) (by omega)
  obtain ⟨r, hr, rd⟩ := rd x
  have mg := mg r (by omega)
  have hs := srt_sml hI (by omega)
  have pf := pf now hs (msgN r) (by simp [msgN])
  have hl := hI.len
  obtain ⟨b, hb2, _⟩ := get_lt (l := ins) (k := r) (by omega)
  have ib := ia_bs hb2
  by_cases hq : findS now (msgN r).id < 0
  ·have hq2 := (srt_find hI hr).1 hq
   obtain rfl : b = false := by cases b with | true => exact absurd hb2 hq2 | false => rfl
   rw [outPut, if_pos hq] at pf
   have hI2 := srt_put hI hr hq
   have ub := upd_bs (b := ins) (k := r) (x := true) (by omega)
   have a1 := add_idx (k := now.length) (by omega)
   have il := ins_len now (msgN r)
   refine ⟨_, _, by simp only [vw0, vw1, vw2, vw3, vw4, ↓reduceIte, h1, h2, len_eI, hb]; rfl, by simp only [vw0, vw1, vw2, vw3, vw4, ↓reduceIte, Nat.reduceEqDiff, h1, h2, h4, h5, h6, ix, rd, mg, pf, z0, ib, un, Bool.not_false, eqbN, ub, a1, ha]; rfl, ?_⟩
   exact ⟨by simp [h1], by simp, _, _, hI2, by omega, by simp, by simp, by simp [il]⟩
  ·have hq2 : ins[r]? = some true := Decidable.of_not_not fun h => hq ((srt_find hI hr).2 h)
   obtain rfl : b = true := by rw [hb2] at hq2; cases hq2; rfl
   rw [outPut, if_neg hq] at pf
   refine ⟨_, _, by simp only [vw0, vw1, vw2, vw3, vw4, ↓reduceIte, h1, h2, len_eI, hb]; rfl, by simp only [vw0, vw1, vw2, vw3, vw4, ↓reduceIte, Nat.reduceEqDiff, h1, h2, h4, h5, ix, rd, mg, pf, z1, ib, un, Bool.not_true, eqbN, ha]; rfl, ?_⟩
   exact ⟨by simp [h1], by simp, _, _, hI, by omega, by simp [h4], by simp [h5], by simp [h6]⟩
 ·have hb : binI .lss .i64 (l.length : Int) .i64 (l.length : Int) = some (.bool false) := by rw [lss_idx, decide_eq_false (by omega)]
  exact ⟨_, by simp only [vw0, vw1, vw2, vw3, vw4, ↓reduceIte, h1, h2, len_eI, hb], h1, h2, h5⟩
 ·obtain ⟨h1, h2, now, ins, hI, hn, h4, h5, h6⟩ := he
  have so := so now (by omega)
  rw [asc_sorted hI.asc] at so
  have ta := w1 now (by omega) 0
  have tb := w1 now (by omega) 1
  have t2 := srt_two hI
  have ad : binI .add .i64 (toS now 0 : Nat) .i64 (toS now 1 : Nat) = some (.int .i64 (now.length : Nat)) := by
   simp only [binI]; rw [if_neg (by decide), i64_of (by omega) (by omega)]
   congr 2; omega
  have nq := neq now.length _ rfl
  refine nx (by simp only [vw0, vw1, vw2, vw3, vw4, ↓reduceIte, Nat.reduceEqDiff, beq_self_eq_true, h4, h6, f0, nq, so, un, Bool.not_true, ta, tb, ad]; rfl) ?_
  rw [ras]
  refine nx (by simp only [vw0, vw2, ↓reduceIte]; rfl) ?_
  rw [v_law8_MailSorted_L2]
  refine ret_seq (n := 30) (k0 := 0) (by omega) (by omega) (fun _ => true) (.bool true) srtSt2 (fun e => e 3 = eMsgs [])
   (fun j e hk hkn hp ⟨h1, now, ins, hI, hn, h4, h5⟩ => ?_) (fun k e hk hkn hp _ => (by cases hp)) (fun e ⟨h1, now, ins, hI, hn, h4, h5⟩ => ?_) (fun a e he => ?_) (fun k a1 a2 a3 => rfl) ⟨by simp, now, ins, hI, by omega, by simp [h4], by simp [h5]⟩
  ·obtain ⟨k, hkk⟩ : ∃ k, k = 29 - j := ⟨_, rfl⟩
   rw [show 30 - j = k + 1 by omega] at hI
   rw [show (29 - (j : Int)) = ((k : Nat) : Int) by omega] at h1
   have hb : binI .geq .i64 (k : Int) .i64 0 = some (.bool true) := by rw [geq0]; simp
   have hs1 : binI .sub .i64 (k : Int) .i64 1 = some (.int .i64 (29 - ((j + 1 : Nat) : Int))) := by
    simp only [binI]; rw [if_neg (by decide), i64_of (by omega) (by omega)]
    congr 2; omega
   have mg := mg k (by omega)
   have hs := srt_sml hI hn
   have tk := tk now hs (msgN k).id
   have hl := hI.len
   obtain ⟨b, hb2, _⟩ := get_lt (l := ins) (k := k) (by omega)
   have ib := ia_bs hb2
   by_cases hq : findS now (msgN k).id < 0
   ·have hq2 := (srt_find hI (by omega)).1 hq
    obtain rfl : b = false := by cases b with | true => exact absurd hb2 hq2 | false => rfl
    rw [take_no hq] at tk
    simp only [eMsg, cMsg, zM] at tk
    refine ⟨_, _, by simp only [vw0, vw1, vw2, vw3, vw4, ↓reduceIte, h1, hb]; rfl, by simp only [vw0, vw1, vw2, vw3, vw4, ↓reduceIte, Nat.reduceEqDiff, Nat.reduceAdd, Nat.reduceLeDiff, beq_self_eq_true, h1, h4, h5, mg, tk, z8, ib, eqbN, hs1]; rfl, ?_⟩
    exact ⟨by simp, now, ins, by rw [show 30 - (j + 1) = k by omega]; exact srt_skip hI hq2, hn, by simp [h4], by simp [h5]⟩
   ·have hq2 : ins[k]? = some true := Decidable.of_not_not fun h => hq ((srt_find hI (by omega)).2 h)
    obtain rfl : b = true := by rw [hb2] at hq2; cases hq2; rfl
    obtain ⟨i, y, y1, y2, y3, y4⟩ := take_is hq (.int .i64 0) (.int .i64 8)
    obtain ⟨rfl, hI2⟩ := srt_take hI y2 y3
    rw [y4] at tk
    simp only [eMsg, cMsg] at tk
    have sm := sm (msgN k) (smlM_one (by simp [msgN]))
    have yl := (List.getElem?_eq_some_iff.1 y2).1
    have ol := out_len yl
    have sb := sub_idx (k := now.length) (by omega) (by omega)
    have nq := neq (outS now i).length (now.length - 1) ol
    refine ⟨_, _, by simp only [vw0, vw1, vw2, vw3, vw4, ↓reduceIte, h1, hb]; rfl, by simp only [vw0, vw1, vw2, vw3, vw4, ↓reduceIte, Nat.reduceEqDiff, Nat.reduceAdd, Nat.reduceLeDiff, beq_self_eq_true, h1, h4, h5, mg, tk, z0, ib, eqbN, sm, un, Bool.not_true, f0, sb, nq, hs1]; rfl, ?_⟩
    exact ⟨by simp, outS now i, ins, by rw [show 30 - (j + 1) = k by omega]; exact hI2, by omega, by simp, by simp [h5]⟩
  ·have hb : binI .geq .i64 (29 - ((30 : Nat) : Int)) .i64 0 = some (.bool false) := by rw [geq0]; rfl
   obtain rfl := srt_zero hI
   refine ⟨_, by simp only [vw0, vw1, vw2, vw3, vw4, ↓reduceIte, h1, hb], h4⟩
  ·have ez : binI .eql .i64 ((0 : Nat) : Int) .i64 0 = some (.bool true) := rfl
   simp only [vw0, vw1, vw2, vw3, vw4, ↓reduceIte, Nat.reduceEqDiff, beq_self_eq_true, he, f0, ez, h3]
end Gv
