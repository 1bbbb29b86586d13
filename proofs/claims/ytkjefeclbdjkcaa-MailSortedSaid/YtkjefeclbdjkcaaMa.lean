/- What this file proves: one part of the proof that the law answers true for every input, by an interpreter that is proved sound against the given model. -/
import Derived.Test.YtkjefeclbdjkcaaMp
import Derived.Test.YtkjefeclbdjkcaaVw
namespace Gv
open Go
theorem neqI (x : Int) : binI .neq .i64 x .i64 x = some (.bool false) := by simp [binI]
theorem isNaN_V {m : Nat} (x : Int) : callV tVT (m + 1) 106 [.int .i64 x] = some (.bool false, []) := by
 refine callV_of (F := v_cmp_isNaN_int) rfl rfl rfl ?_ (.inr rfl)
 simp only [v_cmp_isNaN_int]
 simp only [vw0, vw1, vw2, vw4, ↓reduceIte, Env.ofArgs_at, Option.getD_some, neqI]
theorem cmp_V {m : Nat} (x y : Int) : callV tVT (m + 2) 103 [.int .i64 x, .int .i64 y] = some (.int .i64 (cmpI x y), []) := by
 refine callV_of (F := v_cmp_Compare_int) rfl rfl rfl ?_ (.inr rfl)
 have h1 := isNaN_V (m := m) x
 have h2 := isNaN_V (m := m) y
 generalize callV tVT (m + 1) = C at *
 generalize vTab tVT = V
 have hl : binI .lss .i64 x .i64 y = some (.bool (decide (x < y))) := by simp [binI]
 have hg : binI .gtr .i64 x .i64 y = some (.bool (decide (y < x))) := by simp [binI]
 simp only [v_cmp_Compare_int]
 by_cases a : x < y
 ·simp only [vw0, vw1, vw2, vw3, vw4, ↓reduceIte, Nat.reduceEqDiff, reduceCtorEq, Env.ofArgs_at, Option.getD_some, h1, h2, hl, a, decide_true, cmpI]
 ·by_cases b : y < x
  ·simp only [vw0, vw1, vw2, vw3, vw4, ↓reduceIte, Nat.reduceEqDiff, reduceCtorEq, Env.ofArgs_at, Option.getD_some, h1, h2, hl, hg, a, b, decide_true, decide_false, cmpI]
  ·simp only [vw0, vw1, vw2, vw3, vw4, ↓reduceIte, Nat.reduceEqDiff, reduceCtorEq, Env.ofArgs_at, Option.getD_some, h1, h2, hl, hg, a, b, decide_false, cmpI]
theorem or_V {m : Nat} (a b c : Int) : callV tVT (m + 1) 102 [.lst [.int .i64 a, .int .i64 b, .int .i64 c] false] = some (.int .i64 (or3 a b c), []) := by
 refine callV_of (F := v_cmp_Or_int) rfl rfl rfl ?_ (.inr rfl)
 generalize callV tVT m = C
 generalize vTab tVT = V
 have hx : ∀ k x, [a, b, c][k]? = some x → indexAddrPV 1 (.lst [.int .i64 a, .int .i64 b, .int .i64 c] false) (.int .i64 (k : Nat)) = some (.lptr [.int .i64 x]) := fun k x h => ia_eI (l := [a, b, c]) h
 have hl : lenV (.lst [.int .i64 a, .int .i64 b, .int .i64 c] false) = some (.int .i64 (3 : Nat)) := len_eI (l := [a, b, c])
 generalize hL : PV.lst [.int .i64 a, .int .i64 b, .int .i64 c] false = L at hx hl
 simp only [v_cmp_Or_int, v_cmp_Or_int_L1]
 refine nx (by simp only [vw0, vw2, ↓reduceIte]; rfl) ?_
 rw [ras]
 refine nx (by simp only [vw0, vw1, vw2, vw4, ↓reduceIte, reduceCtorEq, Env.ofArgs_at, Option.getD_some, hl]; rfl) ?_
 refine find_seqA (n := 3) (by omega) (fun k => decide (([a, b, c][k]?).getD 0 ≠ 0)) (fun k => .int .i64 (([a, b, c][k]?).getD 0)) (fun _ e => e 6 = L ∧ e 3 = .int .i64 0 ∧ e 7 = .int .i64 (3 : Nat)) (fun k e v h => by simpa using h)
  (fun k e hk h hv => by simp only [X.ev, hv, h.2.2, obind_some, bin, lss_idx]) (fun k e hk ⟨h1, h2, h3⟩ hv => ?_) (fun k hk hp hj => ?_) (fun hp e h => ?_) ⟨by simp [], by simp, by simp⟩ (by simp)
 ·obtain ⟨x, hx', _⟩ := get_lt (l := [a, b, c]) (k := k) hk
  have hi := hx k x hx'
  by_cases h0 : x = 0
  ·subst h0
   have hn := neqI 0
   refine ⟨_, by simp only [vw0, vw1, vw2, vw3, vw4, ↓reduceIte, Nat.reduceEqDiff, h1, h2, hv, hi, hn]; rfl, ?_⟩
   simp [hx', h1, h2, h3, hv]
  ·have hn : binI .neq .i64 x .i64 0 = some (.bool true) := by simp [binI, h0]
   refine ⟨_, by simp only [vw0, vw1, vw2, vw3, vw4, ↓reduceIte, Nat.reduceEqDiff, h1, h2, hv, hi, hn]; rfl, ?_⟩
   simp [hx', h0]
 ·match k, hk with
  | 0, _ => simp at hp; simp [or3, hp]
  | 1, _ => have := hj 0 (by omega); simp at hp this; simp [or3, hp, this]
  | 2, _ => have h0 := hj 0 (by omega); have h1 := hj 1 (by omega); simp at hp h0 h1; simp [or3, h0, h1]
 ·have h0 := hp 0 (by omega); have h1 := hp 1 (by omega); have h2 := hp 2 (by omega)
  simp at h0 h1 h2
  simp only [vw0, vw2, ↓reduceIte, h.2.1]
  simp [or3, h0, h1, h2]
theorem order_V {m : Nat} (a b : SID) : callV tVT (m + 3) 96 [eID a, eID b] = some (.int .i64 (or3 (cmpI a.frm b.frm) (cmpI a.n b.n) (cmpI a.copy b.copy)), []) := by
 refine callV_of (F := v_ident_order) rfl rfl rfl ?_ (.inr rfl)
 have h1 := cmp_V (m := m) a.frm b.frm
 have h2 := cmp_V (m := m) a.n b.n
 have h3 := cmp_V (m := m) a.copy b.copy
 have h4 := or_V (m := m + 1) (cmpI a.frm b.frm) (cmpI a.n b.n) (cmpI a.copy b.copy)
 generalize callV tVT (m + 2) = C at *
 generalize vTab tVT = V
 simp only [eID, cID, v_ident_order]
 simp only [vw0, vw1, vw2, vw3, vw4, ↓reduceIte, Nat.reduceEqDiff, Nat.reduceAdd, beq_self_eq_true, Env.ofArgs_at, Option.getD_some, h1, h2, h3, h4]
theorem less_V {m : Nat} (a b : SID) : callV tVT (m + 4) 75 [eID a, eID b] = some (.bool (lessID a b), []) := by
 refine callV_of (F := v_ident_Less) rfl rfl rfl ?_ (.inr rfl)
 have h1 := order_V (m := m) a b
 generalize callV tVT (m + 3) = C at *
 generalize vTab tVT = V
 have hl : binI .lss .i64 (or3 (cmpI a.frm b.frm) (cmpI a.n b.n) (cmpI a.copy b.copy)) .i64 0 = some (.bool (lessID a b)) := by
  rw [← lessID_or]; simp [binI]
 simp only [eID, cID] at h1
 simp only [eID, cID, v_ident_Less]
 simp only [vw0, vw1, vw2, vw3, vw4, ↓reduceIte, Nat.reduceEqDiff, Nat.reduceAdd, beq_self_eq_true, Env.ofArgs_at, Option.getD_some, h1, hl]
theorem lss_b (x y : Int) : binI .lss .i64 x .i64 y = some (.bool (decide (x < y))) := by simp [binI]
end Gv

namespace Gv
open Go
theorem eqs3 (x y : SID) : eqsV false [false, false, false] (.agg [.int .i64 x.frm, .int .i64 x.n, .int .i64 x.copy]) (.agg [.int .i64 y.frm, .int .i64 y.n, .int .i64 y.copy]) = some (.bool (decide (x = y))) := by
 have : decide (x = y) = (decide (x.frm = y.frm) && (decide (x.n = y.n) && decide (x.copy = y.copy))) := by
  cases x; cases y; simp only [SID.mk.injEq, Bool.decide_and]
 rw [this]
 have h : ∀ a b : Int, (a == b) = decide (a = b) := fun a b => by by_cases h : a = b <;> simp [h]
 simp [eqsV, eqCells, h]
theorem findc_V {m : Nat} (x : SMsg) (i : SID) : callV tVT (m + 1) 81 [eMsg x, .lptr (cID i)] = some (.bool (decide (x.id = i)), []) := by
 refine callV_of (F := v_mail_Find_1) rfl rfl rfl ?_ (.inr rfl)
 generalize callV tVT m = C
 generalize vTab tVT = V
 have h := eqs3 x.id i
 simp only [eMsg, cMsg, cID, v_mail_Find_1]
 simp only [vw0, vw1, vw2, vw3, vw4, ↓reduceIte, Nat.reduceEqDiff, Nat.reduceAdd, beq_self_eq_true, Env.ofArgs_at, Option.getD_some, h]
theorem putc_V {m : Nat} (x y : SMsg) : callV tVT (m + 5) 74 [eMsg x, .lptr (cMsg y)] = some (.bool (!lessID x.id y.id), []) := by
 refine callV_of (F := v_mail_Put_1) rfl rfl rfl ?_ (.inr rfl)
 have h := less_V (m := m) x.id y.id
 generalize callV tVT (m + 4) = C at *
 generalize vTab tVT = V
 simp only [eID, cID] at h
 simp only [eMsg, cMsg, v_mail_Put_1]
 simp only [vw0, vw1, vw2, vw3, vw4, ↓reduceIte, Nat.reduceEqDiff, Nat.reduceAdd, beq_self_eq_true, Env.ofArgs_at, Option.getD_some, h, un]
def firstI {α : Type} (p : α → Bool) (l : List α) : Int := match l.findIdx? p with | some k => (k : Int) | none => -1
theorem firstI_at {α : Type} {p : α → Bool} {l : List α} {k : Nat} (hk : k < l.length) (hp : ∀ x, l[k]? = some x → p x = true) (hj : ∀ j, j < k → ∀ x, l[j]? = some x → p x = false) : firstI p l = k := by
 have : l.findIdx? p = some k := by
  rw [List.findIdx?_eq_some_iff_getElem]
  exact ⟨hk, hp _ (List.getElem?_eq_getElem hk), fun j hj' => by
   have := hj j hj' _ (List.getElem?_eq_getElem (by omega))
   simp [this]⟩
 simp [firstI, this]
theorem firstI_no {α : Type} {p : α → Bool} {l : List α} (hp : ∀ k, k < l.length → ∀ x, l[k]? = some x → p x = false) : firstI p l = -1 := by
 have : l.findIdx? p = none := by
  rw [List.findIdx?_eq_none_iff]
  intro x hx
  obtain ⟨k, hk⟩ := List.mem_iff_getElem?.1 hx
  exact hp k (List.getElem?_eq_some_iff.1 hk).1 x hk
 simp [firstI, this]
theorem idxf_V {m fn : Nat} {caps : List PV} {p : SMsg → Bool} (l : List SMsg) (hl : l.length < 1000000000) (hC : ∀ x ∈ l, callV tVT m fn (eMsg x :: caps) = some (.bool (p x), [])) (hV : ∀ x ∈ l, vTab tVT fn [eMsg x] caps = true) :
  callV tVT (m + 1) 73 [eMsgs l, .fn fn caps] = some (.int .i64 (firstI p l), []) := by
 refine callV_of (F := v_slices_IndexFunc_api_Message_api_Message) rfl rfl rfl ?_ (.inr rfl)
 generalize callV tVT m = C at *
 generalize vTab tVT = V at *
 have ll : lenV (eMsgs l) = some (.int .i64 l.length) := len_ms
 simp only [v_slices_IndexFunc_api_Message_api_Message, v_slices_IndexFunc_api_Message_api_Message_L1]
 refine nx (by simp only [vw0]; rfl) ?_
 rw [ras]
 refine nx (by simp only [vw0, vw1, vw2, vw4, ↓reduceIte, Env.ofArgs_at, Option.getD_some, ll]; rfl) ?_
 refine find_seqA (n := l.length) (by omega) (fun k => (l[k]?).elim false p) (fun k => .int .i64 (k : Nat)) (fun _ e => e 0 = eMsgs l ∧ e 1 = .fn fn caps ∧ e 7 = .int .i64 l.length) (fun k e v h => by simpa using h)
  (fun k e hk h hv => by simp only [X.ev, hv, h.2.2, obind_some, bin, lss_idx]) (fun k e hk ⟨h1, h2, h3⟩ hv => ?_) (fun k hk hp hj => ?_) (fun hp e h => ?_) ⟨by simp [Env.ofArgs_at], by simp [Env.ofArgs_at], by simp⟩ (by simp)
 ·obtain ⟨x, hx', hm⟩ := get_lt hk
  have hi := ia_ms hx'
  have hc := hC x hm
  have hv' := hV x hm
  simp only [eMsg, cMsg] at hc hv' hi
  cases hp : p x with
  | true =>
   rw [hp] at hc
   refine ⟨_, by simp only [vw0, vw1, vw2, vw3, vw4, ↓reduceIte, Nat.reduceEqDiff, reduceCtorEq, Nat.reduceAdd, beq_self_eq_true, h1, h2, hv, hi, hv', List.cons_append, List.nil_append, hc]; rfl, ?_⟩
   simp [hx', hp]
  | false =>
   rw [hp] at hc
   refine ⟨_, by simp only [vw0, vw1, vw2, vw3, vw4, ↓reduceIte, Nat.reduceEqDiff, reduceCtorEq, Nat.reduceAdd, beq_self_eq_true, h1, h2, hv, hi, hv', List.cons_append, List.nil_append, hc]; rfl, ?_⟩
   simp [hx', hp, h1, h2, h3, hv]
 ·rw [firstI_at hk (fun x hx => by rw [hx] at hp; exact hp) fun j hj' x hx => by have := hj j hj'; rw [hx] at this; exact this]
 ·rw [firstI_no fun k hk x hx => by have := hp k hk; rw [hx] at this; exact this]
  simp only [vw0, vw2, ↓reduceIte]
def findS (l : List SMsg) (i : SID) : Int := firstI (fun x => decide (x.id = i)) l
theorem find_V {m : Nat} (l : List SMsg) (hl : l.length < 1000000000) (i : SID) : callV tVT (m + 3) 39 [eMsgs l, eID i] = some (.int .i64 (findS l i), []) := by
 refine callV_of (F := v_mail_Find) rfl rfl rfl ?_ (.inr rfl)
 have h := idxf_V (m := m + 1) (fn := 81) (caps := [.lptr (cID i)]) (p := fun x => decide (x.id = i)) l hl (fun x _ => findc_V x i) (fun x _ => rfl)
 generalize callV tVT (m + 2) = C at *
 generalize vTab tVT = V
 simp only [cID] at h
 have hm : mfn 81 (.tup [.lptr [.int .i64 i.frm, .int .i64 i.n, .int .i64 i.copy]]) = some (.fn 81 [.lptr [.int .i64 i.frm, .int .i64 i.n, .int .i64 i.copy]]) := rfl
 simp only [eID, cID, v_mail_Find]
 simp only [vw0, vw1, vw2, vw3, vw4, ↓reduceIte, reduceCtorEq, Nat.reduceAdd, beq_self_eq_true, Env.ofArgs_at, Option.getD_some, hm, h]
 rfl
theorem sized1_I : ∀ l : List Int, sized 1 (l.map fun n => PV.int .i64 n) = true
 | [] => rfl
 | x :: l => by simp only [List.map_cons, sized, PV.cells, List.length_cons, List.length_nil, beq_self_eq_true, Bool.true_and, sized1_I l]
theorem clone_V {m : Nat} (l : List Int) (hl : l.length < 1000000000) : callV tVT (m + 1) 105 [eI l] = some (eI l, []) := by
 refine callV_ofO (F := vCl') rfl rfl rfl ?_ rfl (.inr ?_)
 ·generalize callV tVT m = C
  generalize vTab tVT = V
  have ha : appV 1 (.lst [] false) (eI l) = some (eI l) := by
   simp only [eI, appV]
   rw [if_pos ⟨sized1_I l, by simp [maxNew]; omega⟩]
   rfl
  simp only [vCl']
  simp only [vw0, vw1, vw2, vw3, vw4, ↓reduceIte, Env.ofArgs_at, Option.getD_some, len_eI, ha]
 ·simp [eI, scalO]
theorem copyNote_V {m : Nat} (x : SNote) (hl : x.args.length < 1000000000) : callV tVT (m + 2) 99 [eNote x] = some (eNote x, []) := by
 refine callV_of (F := v_prog_CopyNote) rfl rfl rfl ?_ (.inl rfl)
 have h := clone_V (m := m) x.args hl
 generalize callV tVT (m + 1) = C at *
 generalize vTab tVT = V
 simp only [eNote, v_prog_CopyNote]
 simp only [vw0, vw1, vw2, vw3, vw4, ↓reduceIte, Nat.reduceEqDiff, Nat.reduceAdd, beq_self_eq_true, Env.ofArgs_at, Option.getD_some, h]
theorem own_V {m : Nat} (x : SMsg) (hl : x.note.args.length < 1000000000) : callV tVT (m + 3) 77 [eMsg x] = some (eMsg x, []) := by
 refine callV_of (F := v_mail_own) rfl rfl rfl ?_ (.inl rfl)
 have h := copyNote_V (m := m) x.note hl
 generalize callV tVT (m + 2) = C at *
 generalize vTab tVT = V
 simp only [eNote] at h
 simp only [eMsg, cMsg, v_mail_own]
 simp only [vw0, vw1, vw2, vw3, vw4, ↓reduceIte, Nat.reduceEqDiff, Nat.reduceAdd, beq_self_eq_true, Env.ofArgs_at, Option.getD_some, h]
def smlM (l : List SMsg) : Prop := l.length < 1000000000 ∧ ∀ x ∈ l, x.note.args.length < 1000000000
theorem sized6_M : ∀ l : List SMsg, sized 6 (l.map eMsg) = true
 | [] => rfl
 | x :: l => by simp only [List.map_cons, sized, cells_eMsg, cMsg, List.length_cons, List.length_nil, Nat.reduceAdd, beq_self_eq_true, Bool.true_and, sized6_M l]
theorem app_ms {a b : List SMsg} (h : a.length + b.length < 2147483648) : appV 6 (eMsgs a) (eMsgs b) = some (eMsgs (a ++ b)) := by
 simp only [eMsgs, appV]
 rw [if_pos ⟨sized6_M b, by simp only [List.length_map]; exact h⟩, List.map_append]
theorem copy_V {m : Nat} (l : List SMsg) (hl : smlM l) : callV tVT (m + 4) 44 [eMsgs l] = some (eMsgs l, []) := by
 refine callV_of (F := v_mail_Copy) rfl rfl rfl ?_ (.inl rfl)
 have ho := fun x (hx : x ∈ l) => own_V (m := m) x (hl.2 x hx)
 generalize callV tVT (m + 3) = C at *
 generalize vTab tVT = V
 have ll : lenV (eMsgs l) = some (.int .i64 l.length) := len_ms
 have hl0 := hl.1
 simp only [v_mail_Copy, v_mail_Copy_L1]
 refine nx (by simp only [vw0, vw2, ↓reduceIte]; rfl) ?_
 rw [ras]
 refine nx (by simp only [vw0, vw1, vw2, vw4, ↓reduceIte, reduceCtorEq, Env.ofArgs_at, Option.getD_some, ll]; rfl) ?_
 refine seq_of (range_run (n := l.length) (by omega) (fun k e => e 5 = eMsgs l ∧ e 6 = .int .i64 l.length ∧ e 2 = eMsgs (l.take k)) (fun k e v h => by simpa using h) (fun k e h => h.2.1) (fun k e hk ⟨h1, h2, h3⟩ hv => ?_) ⟨by simp [], by simp, by simp [eMsgs]⟩ (by simp)) (fun e h => ?_)
 ·obtain ⟨x, hx', hm⟩ := get_lt hk
  have hi := ia_ms hx'
  have hc := ho x hm
  have ha := app_ms (a := l.take k) (b := [x]) (by simp; omega)
  simp only [eMsg, cMsg] at hc hi
  simp only [eMsgs, List.map_cons, List.map_nil, eMsg, cMsg] at ha h3
  refine ⟨_, by simp only [vw0, vw1, vw2, vw3, vw4, ↓reduceIte, Nat.reduceEqDiff, Nat.reduceAdd, beq_self_eq_true, h1, h3, hv, hi, hc, ha]; rfl, ?_, by simp [hv]⟩
  rw [take_snoc hx']
  simp [h1, h2, eMsgs, eMsg, cMsg]
 ·refine nx (by simp only [vw0]; rfl) ?_
  simp only [vw0, vw2, h.2.2]
  rw [List.take_length]
end Gv

namespace Gv
open Go
theorem eql_b (x y : Int) : binI .eql .i64 x .i64 y = some (.bool (decide (x = y))) := by
 by_cases h : x = y <;> simp [binI, h]
def toS (l : List SMsg) (w : Int) : Nat := l.countP fun x => decide (x.note.to = w)
theorem toS_le (l : List SMsg) (w : Int) : toS l w ≤ l.length := List.countP_le_length
theorem toS_snoc (l : List SMsg) (x : SMsg) (w : Int) : toS (l ++ [x]) w = toS l w + if x.note.to = w then 1 else 0 := by
 simp [toS, List.countP_append, List.countP_cons]
theorem to_V {m : Nat} (l : List SMsg) (hl : l.length < 1000000000) (w : Int) : callV tVT (m + 1) 41 [eMsgs l, .int .i64 w] = some (.int .i64 (toS l w : Nat), []) := by
 refine callV_of (F := v_mail_To) rfl rfl rfl ?_ (.inr rfl)
 generalize callV tVT m = C
 generalize vTab tVT = V
 have ll : lenV (eMsgs l) = some (.int .i64 l.length) := len_ms
 simp only [v_mail_To, v_mail_To_L1]
 refine nx (by simp only [vw0, vw2, ↓reduceIte]; rfl) ?_
 rw [ras]
 refine nx (by simp only [vw0, vw1, vw2, vw4, ↓reduceIte, reduceCtorEq, Env.ofArgs_at, Option.getD_some, ll]; rfl) ?_
 refine seq_of (range_run (n := l.length) (by omega) (fun k e => e 7 = eMsgs l ∧ e 8 = .int .i64 l.length ∧ e 1 = .int .i64 w ∧ e 4 = .int .i64 (toS (l.take k) w : Nat)) (fun k e v h => by simpa using h) (fun k e h => h.2.1) (fun k e hk ⟨h1, h2, h3, h4⟩ hv => ?_) ⟨by simp [], by simp, by simp [Env.ofArgs_at], by simp [toS]⟩ (by simp)) (fun e h => ?_)
 ·obtain ⟨x, hx', hm⟩ := get_lt hk
  have hi := ia_ms hx'
  simp only [cMsg] at hi
  have hle := toS_le (l.take k) w
  have hlt : (l.take k).length ≤ k := by simp; omega
  have ha := add_idx (k := toS (l.take k) w) (by omega)
  rw [take_snoc hx', toS_snoc]
  by_cases hp : x.note.to = w
  ·have he : binI .eql .i64 x.note.to .i64 w = some (.bool true) := by rw [eql_b, decide_eq_true hp]
   refine ⟨_, by simp only [vw0, vw1, vw2, vw3, vw4, ↓reduceIte, Nat.reduceEqDiff, Nat.reduceAdd, beq_self_eq_true, h1, h3, h4, hv, hi, he, ha]; rfl, ?_, by simp [hv]⟩
   simp [h1, h2, h3, hp]
  ·have he : binI .eql .i64 x.note.to .i64 w = some (.bool false) := by rw [eql_b, decide_eq_false hp]
   refine ⟨_, by simp only [vw0, vw1, vw2, vw3, vw4, ↓reduceIte, Nat.reduceEqDiff, Nat.reduceAdd, beq_self_eq_true, h1, h3, hv, hi, he]; rfl, ?_, by simp [hv]⟩
   simp [h1, h2, h3, h4, hp]
 ·refine nx (by simp only [vw0]; rfl) ?_
  simp only [vw0, vw2, h.2.2.2]
  rw [List.take_length]
end Gv

namespace Gv
open Go
theorem neqI' (x y : Int) : binI .neq .i64 x .i64 y = some (.bool (!decide (x = y))) := by
 by_cases h : x = y <;> simp [binI, h]
theorem eqlI' (x y : Int) : binI .eql .i64 x .i64 y = some (.bool (decide (x = y))) := eql_b x y
theorem ff : (false == true) = false := rfl
theorem neqLn (a b : Nat) : binI .neq .i64 (a : Int) .i64 (b : Int) = some (.bool (!decide (a = b))) := by
 rw [neqI']
 have : decide ((a : Int) = (b : Int)) = decide (a = b) := by rw [decide_eq_decide]; omega
 rw [this]
theorem get_eq' {α : Type} [DecidableEq α] {a b : List α} (hl : a.length = b.length) : (∀ k, k < a.length → decide (a[k]? = b[k]?) = true) ↔ a = b := by
 simp only [decide_eq_true_eq]
 constructor
 ·intro h
  apply List.ext_getElem?
  intro i
  by_cases hi : i < a.length
  ·exact h i hi
  ·rw [List.getElem?_eq_none (by omega), List.getElem?_eq_none (by omega)]
 ·rintro rfl k _; rfl
theorem eqInts_V {m : Nat} (a b : List Int) (ha : a.length < 1000000000) : callV tVT (m + 1) 100 [eI a, eI b] = some (.bool (decide (a = b)), []) := by
 refine callV_of (F := v_slices_Equal_int_int) rfl rfl rfl ?_ (.inr rfl)
 generalize callV tVT m = C
 generalize vTab tVT = V
 refine nx (by simp only [vw0]; rfl) ?_
 by_cases hl : a.length = b.length
 ·refine nx (by simp only [vw0, vw1, vw2, vw3, vw4, ↓reduceIte, Env.ofArgs_at, Option.getD_some, len_eI, neqLn, hl, decide_true, Bool.not_true]; rfl) ?_
  rw [ras]
  refine nx (by simp only [vw0, vw1, vw2, vw4, ↓reduceIte, Env.ofArgs_at, Option.getD_some, len_eI]; rfl) ?_
  refine all_seqA (n := a.length) (by omega) (fun k => decide (a[k]? = b[k]?)) (.bool false) (fun _ e => e 0 = eI a ∧ e 1 = eI b ∧ e 12 = .int .i64 a.length) (a = b) (fun k e v h => by simpa using h) (fun k e h => h.2.2)
   (fun k e hk h hv => by
    obtain ⟨x, hx, _⟩ := get_lt hk
    obtain ⟨y, hy, _⟩ := get_lt (l := b) (k := k) (by omega)
    by_cases hxy : x = y
    ·refine ⟨_, by simp only [vw0, vw1, vw2, vw3, vw4, ↓reduceIte, Nat.reduceEqDiff, reduceCtorEq, h.1, h.2.1, hv, ia_eI hx, ia_eI hy, neqI', hxy, decide_true, Bool.not_true]; rfl, ?_⟩
     simp [hx, hy, hxy, h.1, h.2, hv]
    ·refine ⟨_, by simp only [vw0, vw1, vw2, vw3, vw4, ↓reduceIte, Nat.reduceEqDiff, reduceCtorEq, h.1, h.2.1, hv, ia_eI hx, ia_eI hy, neqI', hxy, decide_false, Bool.not_false]; rfl, ?_⟩
     simp [hx, hy, hxy])
   (get_eq' hl) (fun hab e _ => by simp only [vw0, vw2, ↓reduceIte, hab, decide_true]) (fun hab => by simp [hab]) ⟨by simp [Env.ofArgs_at], by simp [Env.ofArgs_at], by simp⟩ (by simp)
 ·have hab : a ≠ b := fun h => hl (by rw [h])
  refine den_seq_ret ?_
  simp only [vw0, vw1, vw2, vw3, vw4, ↓reduceIte, Env.ofArgs_at, Option.getD_some, len_eI, neqLn, hl, hab, decide_false, Bool.not_false]
theorem note_dec (x y : SNote) : decide (x = y) = (decide (x.to = y.to) && (decide (x.handler = y.handler) && decide (x.args = y.args))) := by
 cases x; cases y; simp only [SNote.mk.injEq, Bool.decide_and]
theorem sameNote_V {m : Nat} (x y : SNote) (hx : x.args.length < 1000000000) : callV tVT (m + 2) 84 [eNote x, eNote y] = some (.bool (decide (x = y)), []) := by
 refine callV_of (F := v_prog_SameNote) rfl rfl rfl ?_ (.inr rfl)
 have h := eqInts_V (m := m) x.args y.args hx
 generalize callV tVT (m + 1) = C at *
 generalize vTab tVT = V
 rw [note_dec]
 simp only [eNote, v_prog_SameNote]
 by_cases h1 : x.to = y.to
 ·by_cases h2 : x.handler = y.handler
  ·simp only [vw0, vw1, vw2, vw3, vw4, ↓reduceIte, Nat.reduceEqDiff, Nat.reduceAdd, beq_self_eq_true, Env.ofArgs_at, Option.getD_some, eqlI', h1, h2, h, decide_true]
  ·simp only [vw0, vw1, vw2, vw3, vw4, ↓reduceIte, Nat.reduceEqDiff, Nat.reduceAdd, beq_self_eq_true, Env.ofArgs_at, Option.getD_some, eqlI', h1, h2, decide_true, decide_false, ff]
 ·simp only [vw0, vw1, vw2, vw3, vw4, ↓reduceIte, Nat.reduceEqDiff, Nat.reduceAdd, beq_self_eq_true, Env.ofArgs_at, Option.getD_some, eqlI', h1, decide_false, ff]
theorem msg_dec (x y : SMsg) : decide (x = y) = (decide (x.id = y.id) && decide (x.note = y.note)) := by
 cases x; cases y; simp only [SMsg.mk.injEq, Bool.decide_and]
theorem samec_V {m : Nat} (x y : SMsg) (hx : x.note.args.length < 1000000000) : callV tVT (m + 3) 83 [eMsg x, eMsg y] = some (.bool (decide (x = y)), []) := by
 refine callV_of (F := v_mail_Same_1) rfl rfl rfl ?_ (.inr rfl)
 have h := sameNote_V (m := m) x.note y.note hx
 generalize callV tVT (m + 2) = C at *
 generalize vTab tVT = V
 have he := eqs3 x.id y.id
 rw [msg_dec]
 simp only [eNote] at h
 simp only [eMsg, cMsg, v_mail_Same_1]
 by_cases h1 : x.id = y.id
 ·have hd : decide (x.id = y.id) = true := decide_eq_true h1
  rw [hd] at he
  simp only [vw0, vw1, vw2, vw3, vw4, ↓reduceIte, Nat.reduceEqDiff, Nat.reduceAdd, beq_self_eq_true, Env.ofArgs_at, Option.getD_some, he, h, hd]
 ·have hd : decide (x.id = y.id) = false := decide_eq_false h1
  rw [hd] at he
  simp only [vw0, vw1, vw2, vw3, vw4, ↓reduceIte, Nat.reduceEqDiff, Nat.reduceAdd, beq_self_eq_true, Env.ofArgs_at, Option.getD_some, he, hd, ff]
theorem eqfM {m fn : Nat} (a b : List SMsg) (ha : a.length < 1000000000) (hC : ∀ x ∈ a, ∀ y, callV tVT m fn [eMsg x, eMsg y] = some (.bool (decide (x = y)), [])) (hV : ∀ x y, vTab tVT fn [x, y] [] = true) : callV tVT (m + 1) 82 [eMsgs a, eMsgs b, .fn fn []] = some (.bool (decide (a = b)), []) := by
 refine callV_of (F := v_slices_EqualFunc_api_Message_api_Message_api_Message_api_Message) rfl rfl rfl ?_ (.inr rfl)
 generalize callV tVT m = C at hC
 generalize vTab tVT = V at hV
 have la : lenV (eMsgs a) = some (.int .i64 a.length) := len_ms
 have lb : lenV (eMsgs b) = some (.int .i64 b.length) := len_ms
 simp only [v_slices_EqualFunc_api_Message_api_Message_api_Message_api_Message, v_slices_EqualFunc_api_Message_api_Message_api_Message_api_Message_L1]
 refine nx (by simp only [vw0]; rfl) ?_
 by_cases hl : a.length = b.length
 ·refine nx (by simp only [vw0, vw1, vw2, vw3, vw4, ↓reduceIte, Env.ofArgs_at, Option.getD_some, la, lb, neqLn, hl, decide_true, Bool.not_true]; rfl) ?_
  rw [ras]
  refine nx (by simp only [vw0, vw1, vw2, vw4, ↓reduceIte, Env.ofArgs_at, Option.getD_some, la]; rfl) ?_
  refine all_seqA (n := a.length) (by omega) (fun k => decide (a[k]? = b[k]?)) (.bool false) (fun _ e => e 15 = eMsgs a ∧ e 1 = eMsgs b ∧ e 2 = .fn fn [] ∧ e 16 = .int .i64 a.length) (a = b) (fun k e v h => by simpa using h) (fun k e h => h.2.2.2)
   (fun k e hk ⟨h1, h2, h3, h4⟩ hv => by
    obtain ⟨x, hx, hm⟩ := get_lt hk
    obtain ⟨y, hy, _⟩ := get_lt (l := b) (k := k) (by omega)
    have hc := hC x hm y
    have ix := ia_ms hx
    have iy := ia_ms hy
    simp only [eMsg, cMsg] at hc ix iy
    by_cases hxy : x = y
    ·subst hxy
     simp only [decide_true] at hc
     refine ⟨_, by simp only [vw0, vw1, vw2, vw3, vw4, ↓reduceIte, Nat.reduceEqDiff, Nat.reduceAdd, beq_self_eq_true, h1, h2, h3, hv, ix, iy, hV, List.append_nil, hc, un, Bool.not_true]; rfl, ?_⟩
     simp [hx, hy, h1, h2, h3, h4, hv]
    ·simp only [decide_eq_false hxy] at hc
     refine ⟨_, by simp only [vw0, vw1, vw2, vw3, vw4, ↓reduceIte, Nat.reduceEqDiff, Nat.reduceAdd, beq_self_eq_true, h1, h2, h3, hv, ix, iy, hV, List.append_nil, hc, un, Bool.not_false]; rfl, ?_⟩
     simp [hx, hy, hxy])
   (get_eq' hl) (fun hab e _ => by simp only [vw0, vw2, ↓reduceIte, hab, decide_true]) (fun hab => by simp [hab]) ⟨by simp [], by simp [Env.ofArgs_at], by simp [Env.ofArgs_at], by simp⟩ (by simp)
 ·have hab : a ≠ b := fun h => hl (by rw [h])
  refine den_seq_ret ?_
  simp only [vw0, vw1, vw2, vw3, vw4, ↓reduceIte, Env.ofArgs_at, Option.getD_some, la, lb, neqLn, hl, hab, decide_false, Bool.not_false]
theorem same_V {m : Nat} (a b : List SMsg) (ha : smlM a) : callV tVT (m + 5) 43 [eMsgs a, eMsgs b] = some (.bool (decide (a = b)), []) := by
 refine callV_of (F := v_mail_Same) rfl rfl rfl ?_ (.inr rfl)
 have h := eqfM (m := m + 3) (fn := 83) a b ha.1 (fun x hx y => samec_V x y (ha.2 x hx)) (fun x y => rfl)
 generalize callV tVT (m + 4) = C at *
 generalize vTab tVT = V
 have hm : mfn 83 (.tup []) = some (.fn 83 []) := rfl
 simp only [v_mail_Same]
 simp only [vw0, vw1, vw2, vw4, ↓reduceIte, Env.ofArgs_at, Option.getD_some, hm, h]
end Gv

namespace Gv
open Go

end Gv

namespace Gv
open Go
theorem nrm_eI (l : List Int) : nrm (eI l) = eI l := by
 have : ∀ l : List Int, nrmL (l.map fun n => PV.int .i64 n) = l.map fun n => PV.int .i64 n := by
  intro l
  induction l with
  | nil => rfl
  | cons x l ih => simp only [List.map_cons, nrmL, nrm, ih]
 simp only [eI, nrm, this]
theorem nrmL_ms : ∀ l : List SMsg, nrmL (l.map eMsg) = l.map eMsg
 | [] => rfl
 | x :: l => by
  have h := nrm_eI x.note.args
  simp only [List.map_cons, nrmL, nrmL_ms l, eMsg, cMsg, nrm, h]
theorem nrm_ms (l : List SMsg) : nrm (.lst (l.map eMsg) false) = eMsgs l := by simp only [nrm, nrmL_ms, eMsgs]
theorem lstSz_ms (l : List SMsg) : lstSz (l.map eMsg) 6 = true := by cases l <;> rfl
theorem slice_lo {l : List SMsg} {k : Nat} (h : k ≤ l.length) : sliceV 6 (eMsgs l) (.tup []) (.int .i64 (k : Nat)) (.tup []) = some (eMsgs (l.take k)) := by
 rw [← nrm_ms (l.take k)]
 simp [eMsgs, sliceV, optV, sliceLst, optNat, asNat, lstSz_ms, h, List.map_take]
theorem slice_hi {l : List SMsg} {k : Nat} (h : k ≤ l.length) : sliceV 6 (eMsgs l) (.int .i64 (k : Nat)) (.tup []) (.tup []) = some (eMsgs (l.drop k)) := by
 rw [← nrm_ms (l.drop k)]
 simp [eMsgs, sliceV, optV, sliceLst, optNat, asNat, lstSz_ms, h, List.map_drop]
 rw [List.take_of_length_le (by simp)]
theorem slice_mid {l : List SMsg} {i j : Nat} (hij : i ≤ j) (h : j ≤ l.length) : (sliceV 6 (eMsgs l) (.int .i64 (i : Nat)) (.int .i64 (j : Nat)) (.tup [])).isSome = true := by
 simp [eMsgs, sliceV, optV, sliceLst, optNat, asNat, lstSz_ms, h, hij]
theorem ins_V {m : Nat} (l : List SMsg) (hl : l.length < 1000000000) {k : Nat} (hk : k ≤ l.length) (x : SMsg) : callV tVT (m + 1) 76 [eMsgs l, .int .i64 (k : Nat), eMsgs [x]] = some (eMsgs (l.take k ++ [x] ++ l.drop k), []) := by
 refine callV_of (F := vIns) rfl rfl rfl ?_ (.inl rfl)
 generalize callV tVT m = C
 generalize vTab tVT = V
 have h1 := slice_lo hk
 have h2 := slice_hi hk
 have h3 := app_ms (a := l.take k) (b := [x]) (by simp; omega)
 have h4 := app_ms (a := l.take k ++ [x]) (b := l.drop k) (by simp; omega)
 have hp : (posV (eMsgs [x])).isSome = true := rfl
 have hb : (binI .eql .i64 (k : Nat) .i64 0).isSome = true := rfl
 simp only [vIns]
 simp only [vw0, vw1, vw2, vw4, ↓reduceIte, Env.ofArgs_at, Option.getD_some, h1, h2, h3, h4, hp, hb, Bool.and_self]
theorem del_V {m : Nat} (l : List SMsg) (hl : l.length < 1000000000) {i j : Nat} (hij : i ≤ j) (hj : j ≤ l.length) : callV tVT (m + 1) 79 [eMsgs l, .int .i64 (i : Nat), .int .i64 (j : Nat)] = some (eMsgs (l.take i ++ l.drop j), []) := by
 refine callV_of (F := vDel) rfl rfl rfl ?_ (.inl rfl)
 generalize callV tVT m = C
 generalize vTab tVT = V
 have h1 := slice_lo (l := l) (k := i) (by omega)
 have h2 := slice_hi hj
 have h3 := app_ms (a := l.take i) (b := l.drop j) (by simp; omega)
 have h0 := slice_mid hij hj
 have hb : (binI .eql .i64 (i : Nat) .i64 0).isSome = true := rfl
 have hc : (binI .eql .i64 (j : Nat) .i64 0).isSome = true := rfl
 simp only [vDel]
 simp only [vw0, vw1, vw2, vw4, ↓reduceIte, Env.ofArgs_at, Option.getD_some, h0, h1, h2, h3, hb, hc, Bool.and_self]
end Gv
