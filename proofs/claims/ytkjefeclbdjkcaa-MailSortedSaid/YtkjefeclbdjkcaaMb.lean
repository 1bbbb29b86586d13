/- What this file proves: one part of the proof that the law answers true for every input, by an interpreter that is proved sound against the given model. -/
import Derived.Test.YtkjefeclbdjkcaaMa
import Derived.KernelRfl
namespace Gv
open Go
def atS (l : List SMsg) (m : SMsg) : Nat := match l.findIdx? (fun x => !lessID x.id m.id) with | some k => k | none => l.length
theorem atS_le (l : List SMsg) (m : SMsg) : atS l m ≤ l.length := by
 unfold atS
 split
 ·rename_i k hk
  rw [List.findIdx?_eq_some_iff_getElem] at hk
  obtain ⟨h, _⟩ := hk
  omega
 ·exact Nat.le_refl _
def insS (l : List SMsg) (m : SMsg) : List SMsg := l.take (atS l m) ++ [m] ++ l.drop (atS l m)
def outPut (l : List SMsg) (m : SMsg) : PV := if findS l m.id < 0 then .tup [eMsgs (insS l m), .int .i64 0] else .tup [eMsgs [], .int .i64 1]
theorem geq0 (x : Int) : binI .geq .i64 x .i64 0 = some (.bool (!decide (x < 0))) := by
 simp only [binI, ne_eq, not_true_eq_false, if_false]
 by_cases h : x < 0
 ·simp [h]
 ·simp [h]; omega
theorem putF_V {m : Nat} (l : List SMsg) (hl : smlM l) (x : SMsg) (hx : x.note.args.length < 1000000000) : callV tVT (m + 7) 311 [eMsgs l, eMsg x] = some (outPut l x, []) := by
 refine callV_of (F := v_mail_Put_F) rfl rfl rfl ?_ (.inl rfl)
 have hl0 := hl.1
 have hf := find_V (m := m + 3) l hl0 x.id
 have hi := idxf_V (m := m + 5) (fn := 74) (caps := [.lptr (cMsg x)]) (p := fun y => !lessID y.id x.id) l hl0 (fun y _ => putc_V y x) (fun y _ => rfl)
 have hc := copy_V (m := m + 2) l hl
 have ho := own_V (m := m + 3) x hx
 have hn := ins_V (m := m + 5) l hl0 (atS_le l x) x
 have ll : lenV (eMsgs l) = some (.int .i64 l.length) := len_ms
 generalize callV tVT (m + 6) = C at *
 generalize vTab tVT = V
 have hm : mfn 74 (.tup [.lptr [.int .i64 x.id.frm, .int .i64 x.id.n, .int .i64 x.id.copy, .int .i64 x.note.to, .int .i64 x.note.handler, eI x.note.args]]) = some (.fn 74 [.lptr [.int .i64 x.id.frm, .int .i64 x.id.n, .int .i64 x.id.copy, .int .i64 x.note.to, .int .i64 x.note.handler, eI x.note.args]]) := rfl
 simp only [eID, cID] at hf
 simp only [cMsg] at hi
 simp only [eMsg, cMsg] at ho
 have hn' : C 76 [eMsgs l, .int .i64 (atS l x : Nat), .lst [.agg [.int .i64 x.id.frm, .int .i64 x.id.n, .int .i64 x.id.copy, .int .i64 x.note.to, .int .i64 x.note.handler, eI x.note.args]] false] = some (eMsgs (insS l x), []) := hn
 have e0 : eMsgs [] = .lst [] false := rfl
 simp only [outPut, eMsg, cMsg, v_mail_Put_F]
 by_cases h0 : findS l x.id < 0
 ·have g0 : binI .geq .i64 (findS l x.id) .i64 0 = some (.bool false) := by rw [geq0]; simp [h0]
  rw [if_pos h0]
  cases hq : l.findIdx? (fun y => !lessID y.id x.id) with
  | some k =>
   have e1 : firstI (fun y : SMsg => !lessID y.id x.id) l = (k : Int) := by simp [firstI, hq]
   have e2 : atS l x = k := by simp [atS, hq]
   rw [e1] at hi
   rw [e2] at hn'
   have g1 : binI .lss .i64 (k : Int) .i64 0 = some (.bool false) := by rw [lss_b, decide_eq_false (by omega)]
   simp only [vw0, vw1, vw2, vw3, vw4, ↓reduceIte, Nat.reduceEqDiff, reduceCtorEq, Nat.reduceAdd, beq_self_eq_true, Env.ofArgs_at, Option.getD_some, hf, g0, hm, hi, g1, hc, ho, hn']
  | none =>
   have e1 : firstI (fun y : SMsg => !lessID y.id x.id) l = -1 := by simp [firstI, hq]
   have e2 : atS l x = l.length := by simp [atS, hq]
   rw [e1] at hi
   rw [e2] at hn'
   have g1 : binI .lss .i64 (-1) .i64 0 = some (.bool true) := rfl
   simp only [vw0, vw1, vw2, vw3, vw4, ↓reduceIte, Nat.reduceEqDiff, reduceCtorEq, Nat.reduceAdd, beq_self_eq_true, Env.ofArgs_at, Option.getD_some, hf, g0, hm, hi, g1, ll, hc, ho, hn']
 ·have g0 : binI .geq .i64 (findS l x.id) .i64 0 = some (.bool true) := by rw [geq0]; simp [h0]
  rw [if_neg h0, e0]
  simp only [vw0, vw1, vw2, vw3, vw4, ↓reduceIte, Nat.reduceEqDiff, reduceCtorEq, Nat.reduceAdd, beq_self_eq_true, Env.ofArgs_at, Option.getD_some, hf, g0]
def zM : SMsg := ⟨⟨0, 0, 0⟩, ⟨0, 0, []⟩⟩
def outTake (l : List SMsg) (i : SID) (ok no : PV) : PV := match l.findIdx? (fun x => decide (x.id = i)) with
 | some k => match l[k]? with
  | some x => .tup [eMsgs (l.take k ++ l.drop (k + 1)), eMsg x, ok]
  | none => .junk
 | none => .tup [eMsgs [], eMsg zM, no]
theorem take_V {m : Nat} (l : List SMsg) (hl : smlM l) (i : SID) : callV tVT (m + 5) 34 [eMsgs l, eID i] = some (outTake l i (.int .i64 0) (.int .i64 8), []) := by
 refine callV_of (F := v_mail_Take) rfl rfl rfl ?_ (.inl rfl)
 have hl0 := hl.1
 have hf := find_V (m := m + 1) l hl0 i
 have hc := copy_V (m := m) l hl
 have ho := fun x (hx : x ∈ l) => own_V (m := m + 1) x (hl.2 x hx)
 have hd : ∀ k, k < l.length → callV tVT (m + 4) 79 [eMsgs l, .int .i64 (k : Nat), .int .i64 ((k + 1 : Nat) : Int)] = some (eMsgs (l.take k ++ l.drop (k + 1)), []) := fun k hk => del_V (m := m + 3) l hl0 (by omega) (by omega)
 generalize callV tVT (m + 4) = C at *
 generalize vTab tVT = V
 simp only [eID, cID] at hf
 have e0 : eMsgs [] = .lst [] false := rfl
 have ez : eI [] = .lst [] false := rfl
 simp only [outTake, v_mail_Take, eID, cID]
 cases hq : l.findIdx? (fun x => decide (x.id = i)) with
 | some k =>
  have e1 : findS l i = (k : Int) := by simp [findS, firstI, hq]
  rw [e1] at hf
  rw [List.findIdx?_eq_some_iff_getElem] at hq
  obtain ⟨hk, _⟩ := hq
  obtain ⟨x, hx, hm⟩ := get_lt hk
  have ix := ia_ms hx
  have hx2 := ho x hm
  have hdk := hd k hk
  have ha := add_idx (k := k) (by omega)
  have g1 : binI .lss .i64 (k : Int) .i64 0 = some (.bool false) := by rw [lss_b, decide_eq_false (by omega)]
  simp only [eMsg, cMsg] at hx2
  simp only [cMsg] at ix
  simp only [hx]
  simp only [eMsg, cMsg]
  simp only [vw0, vw1, vw2, vw3, vw4, ↓reduceIte, Nat.reduceEqDiff, reduceCtorEq, Nat.reduceAdd, beq_self_eq_true, Env.ofArgs_at, Option.getD_some, hf, g1, hc, ha, hdk, ix, hx2]
 | none =>
  have e1 : findS l i = -1 := by simp [findS, firstI, hq]
  rw [e1] at hf
  have g1 : binI .lss .i64 (-1) .i64 0 = some (.bool true) := rfl
  simp only [eMsg, cMsg, zM, e0, ez]
  simp only [vw0, vw1, vw2, vw3, vw4, ↓reduceIte, Nat.reduceEqDiff, reduceCtorEq, Nat.reduceAdd, beq_self_eq_true, Env.ofArgs_at, Option.getD_some, hf, g1]
end Gv

namespace Gv
open Go
theorem awake_V (m : Nat) : callV tVT (m + 12) 31 [] = some (.bool true, []) := by kernel_rfl
end Gv

namespace Gv
open Go
theorem atS_lt {l : List SMsg} {m : SMsg} {k : Nat} (h : k < atS l m) : ∃ x, l[k]? = some x ∧ lessID x.id m.id = true := by
 have hk : k < l.length := by have := atS_le l m; omega
 refine ⟨l[k], List.getElem?_eq_getElem hk, ?_⟩
 unfold atS at h
 split at h
 ·rename_i j hj
  rw [List.findIdx?_eq_some_iff_getElem] at hj
  have := hj.2.2 k h
  simpa using this
 ·rename_i hq
  rw [List.findIdx?_eq_none_iff] at hq
  have := hq l[k] (List.getElem_mem hk)
  simpa using this
theorem atS_at {l : List SMsg} {m x : SMsg} (h : l[atS l m]? = some x) : lessID x.id m.id = false := by
 cases hq : l.findIdx? (fun y => !lessID y.id m.id) with
 | some j =>
  have e : atS l m = j := by simp [atS, hq]
  rw [List.findIdx?_eq_some_iff_getElem] at hq
  obtain ⟨h1, h2, _⟩ := hq
  rw [e, List.getElem?_eq_getElem h1] at h
  cases h
  simpa using h2
 | none =>
  have e : atS l m = l.length := by simp [atS, hq]
  rw [e, List.getElem?_eq_none (Nat.le_refl _)] at h
  cases h
end Gv

namespace Gv
open Go
theorem ret_loop {C : CallV} {V : Nat → List PV → List PV → Bool} {HD BD : VC} {b n k0 : Nat} (hn : n < 1099511627775) (hk0 : k0 ≤ n) (p : Nat → Bool) (R : PV) (St : Nat → Env → Prop) (Q : Env → Prop)
  (hgo : ∀ k env, k0 ≤ k → k < n → p k = true → St k env → ∃ e1 e2, den C V HD env = some (.norm e1) ∧ den C V BD e1 = some (.norm e2) ∧ St (k + 1) e2)
  (hret : ∀ k env, k0 ≤ k → k < n → p k = false → St k env → ∃ e1, den C V HD env = some (.norm e1) ∧ den C V BD e1 = some (.ret R []))
  (hend : ∀ env, St n env → ∃ e, den C V HD env = some (.exit b e) ∧ Q e) {env : Env} (h0 : St k0 env) :
  ((∀ k, k0 ≤ k → k < n → p k = true) ∧ ∃ e, den C V (.block b (.loop (.seq HD BD))) env = some (.norm e) ∧ Q e) ∨ ((∃ k, k0 ≤ k ∧ k < n ∧ p k = false) ∧ den C V (.block b (.loop (.seq HD BD))) env = some (.ret R [])) := by
 have key : ∀ (d k j : Nat) (env : Env), k + d = n → k0 ≤ k → St k env → ((∀ i, k ≤ i → i < n → p i = true) ∧ ∃ e, loopN (den C V (.seq HD BD)) (d + 1 + j) env = some (.exit b e) ∧ Q e) ∨ ((∃ i, k ≤ i ∧ i < n ∧ p i = false) ∧ loopN (den C V (.seq HD BD)) (d + 1 + j) env = some (.ret R [])) := by
  intro d
  induction d with
  | zero =>
   intro k j env hk hkk hs
   obtain rfl : k = n := by omega
   obtain ⟨e, h1, h2⟩ := hend env hs
   refine .inl ⟨fun i hi hi' => by omega, e, ?_, h2⟩
   rw [show 0 + 1 + j = j + 1 by omega]
   simp only [loopN, den, h1]
  | succ d ih =>
   intro k j env hk hkk hs
   rw [show d + 1 + 1 + j = (d + 1 + j) + 1 by omega]
   cases hp : p k with
   | true =>
    obtain ⟨e1, e2, h1, h2, h3⟩ := hgo k env hkk (by omega) hp hs
    rcases ih (k + 1) j e2 (by omega) (by omega) h3 with ⟨a, e, h4, h5⟩ | ⟨⟨i, a1, a2, a3⟩, h4⟩
    ·refine .inl ⟨fun i hi hi' => ?_, e, ?_, h5⟩
     ·rcases Nat.lt_or_ge k i with h | h
      ·exact a i (by omega) hi'
      ·obtain rfl : i = k := by omega
       exact hp
     ·simp only [loopN, den, h1, h2]; exact h4
    ·refine .inr ⟨⟨i, by omega, a2, a3⟩, ?_⟩
     simp only [loopN, den, h1, h2]; exact h4
   | false =>
    obtain ⟨e1, h1, h2⟩ := hret k env hkk (by omega) hp hs
    refine .inr ⟨⟨k, Nat.le_refl _, by omega, hp⟩, ?_⟩
    simp only [loopN, den, h1, h2]
 have hb : n - k0 + 1 + (1099511627775 - (n - k0)) = bigN := by rw [bigN_eq]; omega
 rcases key (n - k0) k0 (1099511627775 - (n - k0)) env (by omega) (Nat.le_refl _) h0 with ⟨a, e, h1, h2⟩ | ⟨a, h1⟩
 ·refine .inl ⟨a, e, den_block ?_, h2⟩
  rw [hb] at h1
  simp only [den]; exact h1
 ·refine .inr ⟨a, den_block_ret ?_⟩
  rw [hb] at h1
  simp only [den]; exact h1
theorem ret_seq {C : CallV} {V : Nat → List PV → List PV → Bool} {HD BD K : VC} {b n k0 : Nat} {X0 : Option VEx} (hn : n < 1099511627775) (hk0 : k0 ≤ n) (p : Nat → Bool) (R : PV) (St : Nat → Env → Prop) (Q : Env → Prop)
  (hgo : ∀ k env, k0 ≤ k → k < n → p k = true → St k env → ∃ e1 e2, den C V HD env = some (.norm e1) ∧ den C V BD e1 = some (.norm e2) ∧ St (k + 1) e2)
  (hret : ∀ k env, k0 ≤ k → k < n → p k = false → St k env → ∃ e1, den C V HD env = some (.norm e1) ∧ den C V BD e1 = some (.ret R []))
  (hend : ∀ env, St n env → ∃ e, den C V HD env = some (.exit b e) ∧ Q e)
  (hk : (∀ k, k0 ≤ k → k < n → p k = true) → ∀ e, Q e → den C V K e = X0) (hr : ∀ k, k0 ≤ k → k < n → p k = false → X0 = some (.ret R [])) {env : Env} (h0 : St k0 env) :
  den C V (.seq (.block b (.loop (.seq HD BD))) K) env = X0 := by
 rcases ret_loop (C := C) (V := V) hn hk0 p R St Q hgo hret hend h0 with ⟨a, e, h1, h2⟩ | ⟨⟨k, a1, a2, a3⟩, h1⟩
 ·exact nx h1 (hk a e h2)
 ·rw [den_seq_ret h1, hr k a1 a2 a3]
def riseAt (l : List SMsg) (k : Nat) : Bool := match l[k]?, l[k + 1]? with | some x, some y => lessID x.id y.id | _, _ => true
def sortedS (l : List SMsg) : Bool := decide (∀ k, k < l.length → riseAt l k = true)
theorem sub_idx {k : Nat} (h0 : 1 ≤ k) (h : k < 4611686018427387903) : binI .sub .i64 (k : Int) .i64 1 = some (.int .i64 ((k - 1 : Nat) : Int)) := by
 have e : IntKind.i64.wrap ((k : Int) - 1) = ((k - 1 : Nat) : Int) := (i64_of (by omega) (by omega)).trans (by omega)
 simp only [binI, ne_eq, not_true_eq_false, if_false, e]
theorem rise_get {l : List SMsg} {k : Nat} (h0 : 1 ≤ k) (hk : k < l.length) : ∃ x y, l[k - 1]? = some x ∧ l[k]? = some y ∧ riseAt l (k - 1) = lessID x.id y.id := by
 have h1 : k - 1 < l.length := by omega
 refine ⟨l[k - 1], l[k], List.getElem?_eq_getElem h1, List.getElem?_eq_getElem hk, ?_⟩
 unfold riseAt
 rw [show k - 1 + 1 = k by omega, List.getElem?_eq_getElem h1, List.getElem?_eq_getElem hk]
theorem sorted_yes {l : List SMsg} {n : Nat} (hn : l.length ≤ n) (h : ∀ k, 1 ≤ k → k < n → riseAt l (k - 1) = true) : sortedS l = true := decide_eq_true fun k hk => by
 by_cases hk1 : k + 1 < l.length
 ·have := h (k + 1) (by omega) (by omega)
  simpa using this
 ·have : l[k + 1]? = none := List.getElem?_eq_none (by omega)
  unfold riseAt
  rw [this]
  cases l[k]? <;> rfl
theorem sorted_no {l : List SMsg} {k : Nat} (h0 : 1 ≤ k) (hk : k < l.length) (h : riseAt l (k - 1) = false) : sortedS l = false := decide_eq_false fun h' => by
 have := h' (k - 1) (by omega)
 rw [this] at h; cases h
end Gv

namespace Gv
open Go
theorem ret_seqA {C : CallV} {V : Nat → List PV → List PV → Bool} {c : X} {BODY K : VC} {vi b n k0 : Nat} {X0 : Option VEx} (hn : n < 1099511627775) (hk0 : k0 ≤ n) (p : Nat → Bool) (R : PV) (St : Nat → Env → Prop) (Q : Env → Prop)
  (hgo : ∀ k env, k0 ≤ k → k < n → p k = true → St k env → ∃ e1 e2, den C V (hdC c b) env = some (.norm e1) ∧ den C V (.seq BODY (incC vi)) e1 = some (.norm e2) ∧ St (k + 1) e2)
  (hret : ∀ k env, k0 ≤ k → k < n → p k = false → St k env → ∃ e1, den C V (hdC c b) env = some (.norm e1) ∧ den C V (.seq BODY (incC vi)) e1 = some (.ret R []))
  (hend : ∀ env, St n env → ∃ e, den C V (hdC c b) env = some (.exit b e) ∧ Q e)
  (hk : (∀ k, k0 ≤ k → k < n → p k = true) → ∀ e, Q e → den C V K e = X0) (hr : ∀ k, k0 ≤ k → k < n → p k = false → X0 = some (.ret R [])) {env : Env} (h0 : St k0 env) :
  den C V (.seq (.block b (.loop (.seq (.st [.asg [c] []]) (.seq (.cond c .skip (.exit b)) (.seq BODY (incC vi)))))) K) env = X0 := by
 have := ret_seq (C := C) (V := V) (K := K) hn hk0 p R St Q hgo hret hend hk hr h0
 rw [← this, den.eq_def, den.eq_def C V (.seq _ K)]
 simp only
 rw [rngA]
theorem sorted_V {m : Nat} (l : List SMsg) (hl : l.length < 1000000000) : callV tVT (m + 5) 37 [eMsgs l] = some (.bool (sortedS l), []) := by
 refine callV_of (F := v_mail_Sorted) rfl rfl rfl ?_ (.inr rfl)
 have hle := fun x y : SMsg => less_V (m := m) x.id y.id
 generalize callV tVT (m + 4) = C at *
 generalize vTab tVT = V
 have ll : lenV (eMsgs l) = some (.int .i64 l.length) := len_ms
 simp only [eID, cID] at hle
 simp only [v_mail_Sorted, v_mail_Sorted_L1]
 refine nx (by simp only [vw0]; rfl) ?_
 rw [ras]
 refine nx (by simp only [vw0, vw1, vw2, vw4, ↓reduceIte, Env.ofArgs_at, Option.getD_some, ll]; rfl) ?_
 have g0 : binI .gtr .i64 ((0 : Nat) : Int) .i64 0 = some (.bool false) := rfl
 have g1 : ∀ k : Nat, 1 ≤ k → binI .gtr .i64 (k : Int) .i64 0 = some (.bool true) := fun k hk => by simp [binI]; omega
 have a0 := add_idx (k := 0) (by omega)
 refine ret_seqA (n := l.length) (k0 := 0) (by omega) (by omega) (fun k => decide (k = 0) || riseAt l (k - 1)) (.bool false) (fun k e => e 0 = eMsgs l ∧ e 5 = .int .i64 l.length ∧ e 6 = .int .i64 (k : Nat)) (fun _ => True)
  (fun k e hk hkn hp ⟨h1, h2, h3⟩ => ?_) (fun k e hk hkn hp ⟨h1, h2, h3⟩ => ?_) (fun e ⟨h1, h2, h3⟩ => ?_) (fun a e _ => ?_) (fun k a1 a2 a3 => ?_) ⟨by simp [Env.ofArgs_at], by simp, by simp⟩
 ·have hb : binI .lss .i64 (k : Int) .i64 (l.length : Int) = some (.bool true) := by rw [lss_idx, decide_eq_true (by omega)]
  by_cases hk0 : k = 0
  ·subst hk0
   refine ⟨_, _, hd_ok (n := l.length) (k := 0) (by simp only [X.ev, h3, h2, obind_some, bin, lss_idx]) |>.trans (by rw [if_pos hkn]), by simp only [vw0, vw1, vw2, vw3, vw4, ↓reduceIte, Nat.reduceEqDiff, reduceCtorEq, Nat.reduceAdd, h1, h3, g0, ff, a0]; rfl, ?_⟩
   simp [h1, h2]
  ·simp only [decide_eq_false hk0, Bool.false_or] at hp
   obtain ⟨x, y, hx, hy, hr⟩ := rise_get (show 1 ≤ k by omega) hkn
   rw [hr] at hp
   have ix := ia_ms hx
   have iy := ia_ms hy
   have hc := hle x y
   rw [hp] at hc
   have hs := sub_idx (show 1 ≤ k by omega) (by omega)
   have ha := add_idx (k := k) (by omega)
   have hg := g1 k (by omega)
   simp only [cMsg] at ix iy
   refine ⟨_, _, hd_ok (n := l.length) (k := k) (by simp only [X.ev, h3, h2, obind_some, bin, lss_idx]) |>.trans (by rw [if_pos hkn]), by simp only [vw0, vw1, vw2, vw3, vw4, ↓reduceIte, Nat.reduceEqDiff, reduceCtorEq, Nat.reduceAdd, Nat.reduceLeDiff, beq_self_eq_true, h1, h3, hg, hs, ix, iy, hc, un, Bool.not_true, ha]; rfl, ?_⟩
   simp [h1, h2]
 ·have hk0 : k ≠ 0 := fun h => by simp [h] at hp
  simp only [decide_eq_false hk0, Bool.false_or] at hp
  obtain ⟨x, y, hx, hy, hr⟩ := rise_get (show 1 ≤ k by omega) hkn
  rw [hr] at hp
  have ix := ia_ms hx
  have iy := ia_ms hy
  have hc := hle x y
  rw [hp] at hc
  have hs := sub_idx (show 1 ≤ k by omega) (by omega)
  have hg := g1 k (by omega)
  simp only [cMsg] at ix iy
  exact ⟨_, hd_ok (n := l.length) (k := k) (by simp only [X.ev, h3, h2, obind_some, bin, lss_idx]) |>.trans (by rw [if_pos hkn]), by simp only [vw0, vw1, vw2, vw3, vw4, ↓reduceIte, Nat.reduceEqDiff, reduceCtorEq, Nat.reduceAdd, Nat.reduceLeDiff, beq_self_eq_true, h1, h3, hg, hs, ix, iy, hc, un, Bool.not_false]⟩
 ·exact ⟨_, hd_ok (n := l.length) (k := l.length) (by simp only [X.ev, h3, h2, obind_some, bin, lss_idx]) |>.trans (by rw [if_neg (Nat.lt_irrefl _)]), trivial⟩
 ·rw [sorted_yes (n := l.length) (Nat.le_refl _) fun k h1 h2 => by
   have := a k (Nat.zero_le _) h2
   simpa [show k ≠ 0 by omega] using this]
  simp only [vw0, vw2, ↓reduceIte]
 ·have hk0 : k ≠ 0 := fun h => by simp [h] at a3
  simp only [decide_eq_false hk0, Bool.false_or] at a3
  rw [sorted_no (by omega) a2 a3]
end Gv

namespace Gv
open Go
end Gv
