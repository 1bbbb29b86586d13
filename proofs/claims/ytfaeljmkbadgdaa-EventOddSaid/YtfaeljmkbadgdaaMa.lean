/- What this file proves: one part of the proof that the law answers true for every input, by an interpreter that is proved sound against the given model. -/
import Derived.Test.YtfaeljmkbadgdaaMp
import Derived.Test.YtfaeljmkbadgdaaVw
import Derived.KernelRfl
namespace Gv
open Go
theorem lss_b (x y : Int) : binI .lss .i64 x .i64 y = some (.bool (decide (x < y))) := by simp [binI]
end Gv

namespace Gv
open Go
theorem eqs3 (x y : SID) : eqsV false [false, false, false] (.agg [.int .i64 x.frm, .int .i64 x.n, .int .i64 x.copy]) (.agg [.int .i64 y.frm, .int .i64 y.n, .int .i64 y.copy]) = some (.bool (decide (x = y))) := by
 have : decide (x = y) = (decide (x.frm = y.frm) && (decide (x.n = y.n) && decide (x.copy = y.copy))) := by
  cases x; cases y; simp only [SID.mk.injEq, Bool.decide_and]
 rw [this]
 have h : ∀ a b : Int, (a == b) = decide (a = b) := fun a b => by by_cases h : a = b <;> simp [h]
 simp [eqsV, eqCells, h]
theorem findc_V {m : Nat} (x : SMsg) (i : SID) : callV tVT (m + 1) 81 [eMsg x, .lptr (cID i)] = some (.bool (decide (x.id = i)), []) := by
 refine callV_of (F := v_mail_Find_1) rfl rfl rfl ?_ (.inr rfl)
 generalize callV tVT m = C
 generalize vTab tVT = V
 have h := eqs3 x.id i
 simp only [eMsg, cMsg, cID, v_mail_Find_1]
 simp only [vw0, vw1, vw2, vw3, vw4, ↓reduceIte, Nat.reduceEqDiff, Nat.reduceAdd, beq_self_eq_true, Env.ofArgs_at, Option.getD_some, h]
def firstI {α : Type} (p : α → Bool) (l : List α) : Int := match l.findIdx? p with | some k => (k : Int) | none => -1
theorem firstI_at {α : Type} {p : α → Bool} {l : List α} {k : Nat} (hk : k < l.length) (hp : ∀ x, l[k]? = some x → p x = true) (hj : ∀ j, j < k → ∀ x, l[j]? = some x → p x = false) : firstI p l = k := by
 have : l.findIdx? p = some k := by
  rw [List.findIdx?_eq_some_iff_getElem]
  exact ⟨hk, hp _ (List.getElem?_eq_getElem hk), fun j hj' => by
   have := hj j hj' _ (List.getElem?_eq_getElem (by omega))
   simp [this]⟩
 simp [firstI, this]
theorem firstI_no {α : Type} {p : α → Bool} {l : List α} (hp : ∀ k, k < l.length → ∀ x, l[k]? = some x → p x = false) : firstI p l = -1 := by
 have : l.findIdx? p = none := by
  rw [List.findIdx?_eq_none_iff]
  intro x hx
  obtain ⟨k, hk⟩ := List.mem_iff_getElem?.1 hx
  exact hp k (List.getElem?_eq_some_iff.1 hk).1 x hk
 simp [firstI, this]
theorem idxf_V {m fn : Nat} {caps : List PV} {p : SMsg → Bool} (l : List SMsg) (hl : l.length < 1000000000) (hC : ∀ x ∈ l, callV tVT m fn (eMsg x :: caps) = some (.bool (p x), [])) (hV : ∀ x ∈ l, vTab tVT fn [eMsg x] caps = true) :
  callV tVT (m + 1) 73 [eMsgs l, .fn fn caps] = some (.int .i64 (firstI p l), []) := by
 refine callV_of (F := v_slices_IndexFunc_api_Message_api_Message) rfl rfl rfl ?_ (.inr rfl)
 generalize callV tVT m = C at *
 generalize vTab tVT = V at *
 have ll : lenV (eMsgs l) = some (.int .i64 l.length) := len_ms
 simp only [v_slices_IndexFunc_api_Message_api_Message, v_slices_IndexFunc_api_Message_api_Message_L1]
 refine nx (by simp only [vw0]; rfl) ?_
 rw [ras]
 refine nx (by simp only [vw0, vw1, vw2, vw4, ↓reduceIte, Env.ofArgs_at, Option.getD_some, ll]; rfl) ?_
 refine find_seqA (n := l.length) (by omega) (fun k => (l[k]?).elim false p) (fun k => .int .i64 (k : Nat)) (fun _ e => e 0 = eMsgs l ∧ e 1 = .fn fn caps ∧ e 7 = .int .i64 l.length) (fun k e v h => by simpa using h)
  (fun k e hk h hv => by simp only [X.ev, hv, h.2.2, obind_some, bin, lss_idx]) (fun k e hk ⟨h1, h2, h3⟩ hv => ?_) (fun k hk hp hj => ?_) (fun hp e h => ?_) ⟨by simp [Env.ofArgs_at], by simp [Env.ofArgs_at], by simp⟩ (by simp)
 ·obtain ⟨x, hx', hm⟩ := get_lt hk
  have hi := ia_ms hx'
  have hc := hC x hm
  have hv' := hV x hm
  simp only [eMsg, cMsg] at hc hv' hi
  cases hp : p x with
  | true =>
   rw [hp] at hc
   refine ⟨_, by simp only [vw0, vw1, vw2, vw3, vw4, ↓reduceIte, Nat.reduceEqDiff, reduceCtorEq, Nat.reduceAdd, beq_self_eq_true, h1, h2, hv, hi, hv', List.cons_append, List.nil_append, hc]; rfl, ?_⟩
   simp [hx', hp]
  | false =>
   rw [hp] at hc
   refine ⟨_, by simp only [vw0, vw1, vw2, vw3, vw4, ↓reduceIte, Nat.reduceEqDiff, reduceCtorEq, Nat.reduceAdd, beq_self_eq_true, h1, h2, hv, hi, hv', List.cons_append, List.nil_append, hc]; rfl, ?_⟩
   simp [hx', hp, h1, h2, h3, hv]
 ·rw [firstI_at hk (fun x hx => by rw [hx] at hp; exact hp) fun j hj' x hx => by have := hj j hj'; rw [hx] at this; exact this]
 ·rw [firstI_no fun k hk x hx => by have := hp k hk; rw [hx] at this; exact this]
  simp only [vw0, vw2, ↓reduceIte]
def findS (l : List SMsg) (i : SID) : Int := firstI (fun x => decide (x.id = i)) l
theorem find_V {m : Nat} (l : List SMsg) (hl : l.length < 1000000000) (i : SID) : callV tVT (m + 3) 39 [eMsgs l, eID i] = some (.int .i64 (findS l i), []) := by
 refine callV_of (F := v_mail_Find) rfl rfl rfl ?_ (.inr rfl)
 have h := idxf_V (m := m + 1) (fn := 81) (caps := [.lptr (cID i)]) (p := fun x => decide (x.id = i)) l hl (fun x _ => findc_V x i) (fun x _ => rfl)
 generalize callV tVT (m + 2) = C at *
 generalize vTab tVT = V
 simp only [cID] at h
 have hm : mfn 81 (.tup [.lptr [.int .i64 i.frm, .int .i64 i.n, .int .i64 i.copy]]) = some (.fn 81 [.lptr [.int .i64 i.frm, .int .i64 i.n, .int .i64 i.copy]]) := rfl
 simp only [eID, cID, v_mail_Find]
 simp only [vw0, vw1, vw2, vw3, vw4, ↓reduceIte, reduceCtorEq, Nat.reduceAdd, beq_self_eq_true, Env.ofArgs_at, Option.getD_some, hm, h]
 rfl
def smlM (l : List SMsg) : Prop := l.length < 1000000000 ∧ ∀ x ∈ l, x.note.args.length < 1000000000
end Gv

namespace Gv
open Go
theorem eql_b (x y : Int) : binI .eql .i64 x .i64 y = some (.bool (decide (x = y))) := by
 by_cases h : x = y <;> simp [binI, h]
end Gv

namespace Gv
open Go
theorem ff : (false == true) = false := rfl
end Gv

namespace Gv
open Go
end Gv

namespace Gv
open Go
end Gv

namespace Gv
open Go
theorem geq0 (x : Int) : binI .geq .i64 x .i64 0 = some (.bool (!decide (x < 0))) := by
 simp only [binI, ne_eq, not_true_eq_false, if_false]
 by_cases h : x < 0
 ·simp [h]
 ·simp [h]; omega
end Gv

namespace Gv
open Go
end Gv

namespace Gv
open Go
end Gv

namespace Gv
open Go
end Gv

namespace Gv
open Go
end Gv

namespace Gv
open Go
end Gv

namespace Gv
open Go
theorem find_neg {l : List SMsg} {i : SID} : findS l i < 0 ↔ ∀ x ∈ l, x.id ≠ i := by
 unfold findS firstI
 split
 ·rename_i k hk
  rw [List.findIdx?_eq_some_iff_getElem] at hk
  obtain ⟨h1, h2, _⟩ := hk
  refine ⟨fun h => by omega, fun h => absurd (of_decide_eq_true h2) (h _ (List.getElem_mem h1))⟩
 ·rename_i hk
  rw [List.findIdx?_eq_none_iff] at hk
  exact ⟨fun _ x hx => of_decide_eq_false (hk x hx), fun _ => by omega⟩
theorem find_pos {l : List SMsg} {i : SID} (h : ¬ findS l i < 0) : ∃ (k : Nat) (x : SMsg), findS l i = k ∧ l.findIdx? (fun x => decide (x.id = i)) = some k ∧ l[k]? = some x ∧ x.id = i := by
 unfold findS firstI at h ⊢
 split at h
 ·rename_i k hk
  have hk' := hk
  rw [List.findIdx?_eq_some_iff_getElem] at hk
  obtain ⟨h1, h2, _⟩ := hk
  exact ⟨k, l[k], rfl, hk', List.getElem?_eq_getElem h1, of_decide_eq_true h2⟩
 ·omega
structure ActInv (now inn : List SMsg) : Prop where
 len : now.length = inn.length
 mem : ∀ x, x ∈ now ↔ x ∈ inn
 few : ∀ x ∈ inn, x.note.args.length ≤ 6
end Gv

namespace Gv
open Go
def msgN (k : Nat) : SMsg := ⟨⟨(k % 3 : Nat), (k / 3 : Nat), 0⟩, ⟨(k % 2 : Nat), 0, [(k : Int)]⟩⟩
structure SrtInv (now : List SMsg) (ins : List Bool) (b : Nat) : Prop where
 len : ins.length = 30
 mem : ∀ x, x ∈ now ↔ ∃ k, k < b ∧ ins[k]? = some true ∧ x = msgN k
end Gv

namespace Gv
open Go
def popsO (op : Int) : Int := if op = 4 ∨ (9 ≤ op ∧ op ≤ 13) ∨ (15 ≤ op ∧ op ≤ 18) then 2 else if op = 2 ∨ op = 3 ∨ op = 6 ∨ op = 14 ∨ op = 19 ∨ op = 21 ∨ op = 22 then 1 else 0
def putsO (op : Int) : Int := if op = 3 ∨ op = 4 then 2 else if op = 1 ∨ op = 5 ∨ op = 7 ∨ op = 8 ∨ (9 ≤ op ∧ op ≤ 19) then 1 else 0
def argsOf (p : SProg) (k : Int) : Int := match p.handlers[k.toNat]? with | some h => h.args | none => 0
def noteE (p : SProg) (n : SNote) : Int :=
 if n.to < 0 ∨ (p.actors.length : Int) ≤ n.to ∨ n.handler < 0 ∨ (p.handlers.length : Int) ≤ n.handler then 7
 else if (n.args.length : Int) ≠ argsOf p n.handler then 1 else 0
def takesO (p : SProg) (i : SInstr) : Int := popsO i.op + if i.op = 22 then argsOf p i.a else 0
def nextO (k : Nat) (i : SInstr) : List Nat := if i.op = 20 then [i.a.toNat] else if i.op = 21 then [i.a.toNat, k + 1] else if i.op = 25 then [] else [k + 1]
end Gv

namespace Gv
open Go
end Gv

namespace Gv
open Go
end Gv

namespace Gv
open Go
structure SLocal where
 regs : List Int
 armed : Bool
 down : Int
 sent : Int
 over : Int
 deriving DecidableEq
structure SWorld where
 actors : List SLocal
 mail : List SMsg
 used : SBudget
 deriving DecidableEq
def cLocal (l : SLocal) : List PV := [eI l.regs, .bool l.armed, .int .i64 l.down, .int .i64 l.sent, .int .i64 l.over]
def eLocal (l : SLocal) : PV := .agg (cLocal l)
def eLocals (l : List SLocal) : PV := .lst (l.map eLocal) false
def cWorld (w : SWorld) : List PV := [eLocals w.actors, eMsgs w.mail, .int .i64 w.used.drop, .int .i64 w.used.dup, .int .i64 w.used.time, .int .i64 w.used.crash]
def eWorld (w : SWorld) : PV := .agg (cWorld w)
def eHs (l : List SHandler) : PV := .lst (l.map eHandler) false
def eAs (l : List SActor) : PV := .lst (l.map eActor) false
def eNs (l : List SNote) : PV := .lst (l.map eNote) false
theorem cProg_eq (p : SProg) : cProg p = [eHs p.handlers, eAs p.actors, eNs p.boot, .int .i64 p.fuel] := rfl
def eProg (p : SProg) : PV := .agg (cProg p)
theorem ia_ls {k : Nat} {l : List SLocal} {x : SLocal} (h : l[k]? = some x) : indexAddrPV 5 (eLocals l) (.int .i64 (k : Nat)) = some (.lptr (cLocal x)) := ia_map (f := eLocal) h rfl
theorem len_ls {l : List SLocal} : lenV (eLocals l) = some (.int .i64 l.length) := len_map
def mayS (b : SBudget) : Bool := decide (0 ≤ b.drop ∧ 0 ≤ b.dup ∧ 0 ≤ b.time ∧ 0 ≤ b.crash ∧ b.drop ≤ 1000 ∧ b.dup ≤ 1000 ∧ b.time ≤ 1000 ∧ b.crash ≤ 1000)
def lessN (a b : Int) : Int := max (IntKind.i64.wrap (a - b)) 0
def leftS (b : SBudget) (w : SWorld) : SBudget := ⟨lessN b.drop w.used.drop, lessN b.dup w.used.dup, lessN b.time w.used.time, lessN b.crash w.used.crash⟩
end Gv

namespace Gv
open Go
theorem gtr_b (x y : Int) : binI .gtr .i64 x .i64 y = some (.bool (decide (y < x))) := by simp [binI]
theorem leq_b (x y : Int) : binI .leq .i64 x .i64 y = some (.bool (decide (x ≤ y))) := by simp [binI]
theorem geq_b (x y : Int) : binI .geq .i64 x .i64 y = some (.bool (decide (y ≤ x))) := by simp [binI]
theorem ne_b (x y : Int) : binI .neq .i64 x .i64 y = some (.bool (!decide (x = y))) := by by_cases h : x = y <;> simp [binI, h]
end Gv

namespace Gv
open Go
end Gv

namespace Gv
open Go
theorem cl_hs (l : List SHandler) : (eHs l).isCell = true := rfl
theorem cl_as (l : List SActor) : (eAs l).isCell = true := rfl
theorem cl_ns (l : List SNote) : (eNs l).isCell = true := rfl
theorem ft_hs (l : List SHandler) : (eHs l).fits none = true := rfl
theorem ft_as (l : List SActor) : (eAs l).fits none = true := rfl
theorem ft_ns (l : List SNote) : (eNs l).fits none = true := rfl
end Gv

namespace Gv
open Go
end Gv

namespace Gv
open Go
end Gv

namespace Gv
open Go
end Gv

namespace Gv
open Go
structure OkP (p : SProg) : Prop where
 hs : p.handlers.length ≤ 16
 as : p.actors.length ≤ 8
 ns : p.boot.length ≤ 16
 fuel : 1 ≤ p.fuel ∧ p.fuel ≤ 256
 args : ∀ h ∈ p.handlers, 0 ≤ h.args ∧ h.args ≤ 4
 code : ∀ h ∈ p.handlers, h.code.length ≤ 64
 regs : ∀ a ∈ p.actors, a.regs.length ≤ 8
 cap : ∀ a ∈ p.actors, 0 ≤ a.cap ∧ a.cap ≤ 16
 timer : ∀ a ∈ p.actors, a.timer ≠ -1 → 0 ≤ a.timer ∧ a.timer < p.handlers.length ∧ argsOf p a.timer = 0
 armed : ∀ a ∈ p.actors, a.armed = true → a.timer ≠ -1
 boot : ∀ n ∈ p.boot, noteE p n = 0
end Gv

namespace Gv
open Go
def LeftI (code : List SInstr) (out : List Int) (left : List Nat) : Prop := ∀ k ∈ left, k ≤ code.length ∧ ∃ d, out[k]? = some d ∧ d ≠ -1
theorem LeftI.set {code : List SInstr} {out : List Int} {left : List Nat} {k : Nat} {v : Int} (h : LeftI code out left) (hk : out[k]? = some (-1)) (hv : v ≠ -1) (hc : k ≤ code.length) : LeftI code (out.set k v) (left ++ [k]) := fun j hj => by
 have hl := (List.getElem?_eq_some_iff.1 hk).1
 rcases List.mem_append.1 hj with hj | hj
 ·obtain ⟨a, d, b, c⟩ := h j hj
  refine ⟨a, d, ?_, c⟩
  rw [List.getElem?_set_ne (fun e => by subst e; rw [hk] at b; cases b; exact c rfl)]; exact b
 ·rw [List.mem_singleton] at hj; subst hj
  exact ⟨hc, v, List.getElem?_set_self hl, hv⟩
end Gv

namespace Gv
open Go
end Gv

namespace Gv
open Go
end Gv

namespace Gv
open Go
end Gv

namespace Gv
open Go
end Gv

namespace Gv
open Go
end Gv

namespace Gv
open Go
end Gv

namespace Gv
open Go
theorem cl_ls (l : List SLocal) : (eLocals l).isCell = true := rfl
theorem cl_ms (l : List SMsg) : (eMsgs l).isCell = true := rfl
theorem ft_ls (l : List SLocal) : (eLocals l).fits none = true := rfl
theorem ft_ms (l : List SMsg) : (eMsgs l).fits none = true := rfl
theorem mm_max (x y : Int) : mmV true [.int .i64 x, .int .i64 y] = some (.int .i64 (max x y)) := by
 simp only [mmV, mmPV, mm2]
 by_cases h : x < y <;> simp [h] <;> omega
end Gv

namespace Gv
open Go
structure SmallW (w : SWorld) : Prop where
 as : w.actors.length < 1000000000
 mail : smlM w.mail
 regs : ∀ a ∈ w.actors, a.regs.length < 1000000000
theorem mm_min4 (a b c d : Int) : mmV false [.int .i64 a, .int .i64 b, .int .i64 c, .int .i64 d] = some (.int .i64 (min (min (min a b) c) d)) := by
 have key : ∀ x y : Int, mm2 false (.int .i64 x) (.int .i64 y) = some (.int .i64 (min x y)) := fun x y => by
  simp only [mm2]
  by_cases h : y < x <;> simp [h] <;> omega
 simp only [mmV, mmPV, key]
end Gv

namespace Gv
open Go
end Gv

namespace Gv
open Go
def paidB (b : SBudget) (kind : Int) : Bool := if kind = 2 then decide (0 < b.drop) else if kind = 3 then decide (0 < b.dup) else if kind = 4 then decide (0 < b.time) else if kind = 5 then decide (0 < b.crash) else true
def downAt (w : SWorld) (k : Int) : Int := match w.actors[k.toNat]? with | some l => l.down | none => 0
def armedAt (w : SWorld) (k : Int) : Bool := match w.actors[k.toNat]? with | some l => l.armed | none => false
def toAt (w : SWorld) (k : Int) : Int := match w.mail[k.toNat]? with | some m => m.note.to | none => 0
def zID : SID := ⟨0, 0, 0⟩
def canM (w : SWorld) (e : SEvent) : Bool := decide (e.who = 0) && (!decide (findS w.mail e.id < 0) && (!decide (e.kind = 1) || decide (downAt w (toAt w (findS w.mail e.id)) = 0)))
def canA (w : SWorld) (e : SEvent) : Bool := decide (e.id = zID) && (decide (0 ≤ e.who) && (decide (e.who < w.actors.length) && (decide (downAt w e.who = 0) && (!decide (e.kind = 4) || armedAt w e.who))))
def canB (w : SWorld) (e : SEvent) : Bool := if e.kind = 1 ∨ e.kind = 2 ∨ e.kind = 3 then canM w e else if e.kind = 4 ∨ e.kind = 5 then canA w e else false
def ToOk (w : SWorld) : Prop := ∀ m ∈ w.mail, 0 ≤ m.note.to ∧ m.note.to < w.actors.length
def eBudget (b : SBudget) : PV := .agg (cBudget b)
theorem eventLess_V {m : Nat} (a b : Int) : callV tVT (m + 1) 144 [.int .i64 a, .int .i64 b] = some (.int .i64 (lessN a b), []) := by
 refine callV_of (F := v_event_less) rfl rfl rfl ?_ (.inr rfl)
 have hs : binI .sub .i64 a .i64 b = some (.int .i64 (IntKind.i64.wrap (a - b))) := by simp only [binI]; rw [if_neg (by decide)]
 have mx := mm_max (IntKind.i64.wrap (a - b)) 0
 simp only [vw0, vw1, vw2, vw4, ↓reduceIte, Env.ofArgs_at, Option.getD_some, v_event_less, hs, mx, lessN]
theorem left_V {m : Nat} (b : SBudget) (w : SWorld) : callV tVT (m + 2) 131 [eBudget b, eWorld w] = some (eBudget (leftS b w), []) := by
 refine callV_of (F := v_event_Left) rfl rfl rfl ?_ (.inl rfl)
 have hl := fun a b => eventLess_V (m := m) a b
 generalize callV tVT (m + 1) = C at *
 generalize vTab tVT = V
 simp only [eBudget, cBudget, eWorld, cWorld, v_event_Left, leftS]
 simp only [vw0, vw1, vw2, vw3, vw4, ↓reduceIte, Nat.reduceEqDiff, Nat.reduceAdd, beq_self_eq_true, Env.ofArgs_at, Option.getD_some, cl_ls, cl_ms, ft_ls, ft_ms, hl]
theorem mm_max4 (a b c d : Int) : mmV true [.int .i64 a, .int .i64 b, .int .i64 c, .int .i64 d] = some (.int .i64 (max (max (max a b) c) d)) := by
 have key : ∀ x y : Int, mm2 true (.int .i64 x) (.int .i64 y) = some (.int .i64 (max x y)) := fun x y => by
  simp only [mm2]
  by_cases h : x < y <;> simp [h] <;> omega
 simp only [mmV, mmPV, key]
theorem may_V {m : Nat} (b : SBudget) : callV tVT (m + 1) 124 [eBudget b] = some (.bool (mayS b), []) := by
 refine callV_of (F := v_event_May) rfl rfl rfl ?_ (.inr rfl)
 have mn := mm_min4 b.drop b.dup b.time b.crash
 have mx := mm_max4 b.drop b.dup b.time b.crash
 simp only [eBudget, cBudget, v_event_May, mayS]
 by_cases h1 : 0 ≤ min (min (min b.drop b.dup) b.time) b.crash
 ·by_cases h2 : max (max (max b.drop b.dup) b.time) b.crash ≤ 1000
  ·rw [decide_eq_true (by omega)]
   simp only [vw0, vw1, vw2, vw3, vw4, ↓reduceIte, Nat.reduceAdd, beq_self_eq_true, leq_b, geq_b, decide_true, Env.ofArgs_at, Option.getD_some, mn, mx, h1, h2]
  ·rw [decide_eq_false (by omega)]
   simp only [vw0, vw1, vw2, vw3, vw4, ↓reduceIte, Nat.reduceAdd, beq_self_eq_true, leq_b, geq_b, decide_true, decide_false, Env.ofArgs_at, Option.getD_some, mn, mx, h1, h2]
 ·rw [decide_eq_false (by omega)]
  simp only [vw0, vw1, vw2, vw3, vw4, ↓reduceIte, Nat.reduceAdd, beq_self_eq_true, leq_b, geq_b, decide_false, Env.ofArgs_at, Option.getD_some, mn, mx, h1]
theorem paid_V {m : Nat} (b : SBudget) (k : Int) : callV tVT (m + 1) 137 [eBudget b, .int .i64 k] = some (.bool (paidB b k), []) := by
 refine callV_of (F := v_event_paid) rfl rfl rfl ?_ (.inr rfl)
 simp only [eBudget, cBudget, v_event_paid, paidB]
 by_cases h2 : k = 2
 ·simp only [vw0, vw1, vw2, vw3, vw4, ↓reduceIte, Nat.reduceEqDiff, Nat.reduceAdd, beq_self_eq_true, eql_b, gtr_b, decide_true, Env.ofArgs_at, Option.getD_some, h2]
 by_cases h3 : k = 3
 ·simp only [vw0, vw1, vw2, vw3, vw4, ↓reduceIte, Nat.reduceEqDiff, Nat.reduceAdd, beq_self_eq_true, eql_b, gtr_b, decide_true, decide_false, Int.reduceEq, Env.ofArgs_at, Option.getD_some, h3]
 by_cases h4 : k = 4
 ·simp only [vw0, vw1, vw2, vw3, vw4, ↓reduceIte, Nat.reduceEqDiff, Nat.reduceAdd, beq_self_eq_true, eql_b, gtr_b, decide_true, decide_false, Int.reduceEq, Env.ofArgs_at, Option.getD_some, h4]
 by_cases h5 : k = 5
 ·simp only [vw0, vw1, vw2, vw3, vw4, ↓reduceIte, Nat.reduceEqDiff, Nat.reduceAdd, beq_self_eq_true, eql_b, gtr_b, decide_true, decide_false, Int.reduceEq, Env.ofArgs_at, Option.getD_some, h5]
 simp only [vw0, vw1, vw2, vw3, vw4, ↓reduceIte, Nat.reduceEqDiff, Nat.reduceAdd, beq_self_eq_true, eql_b, decide_false, Env.ofArgs_at, Option.getD_some, h2, h3, h4, h5]
end Gv

namespace Gv
open Go
theorem find_to {w : SWorld} (ht : ToOk w) {i : SID} (h : ¬ findS w.mail i < 0) : ∃ (k : Nat) (x : SMsg) (j : Nat) (l : SLocal), findS w.mail i = k ∧ w.mail[k]? = some x ∧ x.id = i ∧ x.note.to = (j : Int) ∧ w.actors[j]? = some l ∧ toAt w (findS w.mail i) = (j : Int) ∧ downAt w (j : Int) = l.down := by
 obtain ⟨k, x, h1, _, h3, h4⟩ := find_pos h
 obtain ⟨t0, t1⟩ := ht x (List.mem_of_getElem? h3)
 obtain ⟨j, hj⟩ := Int.eq_ofNat_of_zero_le t0
 obtain ⟨l, hl, _⟩ := get_lt (l := w.actors) (k := j) (by omega)
 exact ⟨k, x, j, l, h1, h3, h4, hj, hl, by rw [h1]; simp [toAt, h3, hj], by simp [downAt, hl]⟩
theorem actor_of {w : SWorld} {k : Int} (h0 : 0 ≤ k) (h1 : k < w.actors.length) : ∃ (j : Nat) (l : SLocal), k = (j : Int) ∧ w.actors[j]? = some l ∧ downAt w k = l.down ∧ armedAt w k = l.armed := by
 obtain ⟨j, rfl⟩ := Int.eq_ofNat_of_zero_le h0
 obtain ⟨l, hh, _⟩ := get_lt (l := w.actors) (k := j) (by omega)
 exact ⟨j, l, rfl, hh, by simp [downAt, hh], by simp [armedAt, hh]⟩
theorem eqsZ (x : SID) : eqsV false [false, false, false] (.agg [.int .i64 x.frm, .int .i64 x.n, .int .i64 x.copy]) (.agg [.int .i64 0, .int .i64 0, .int .i64 0]) = some (.bool (decide (x = zID))) := eqs3 x zID
theorem can_V {m : Nat} (w : SWorld) (hw : SmallW w) (ht : ToOk w) (e : SEvent) : callV tVT (m + 4) 136 [eWorld w, eEvent e] = some (.bool (canB w e), []) := by
 refine callV_of (F := v_event_Can) rfl rfl rfl ?_ (.inr rfl)
 have fd := find_V (m := m) w.mail hw.mail.1 e.id
 generalize callV tVT (m + 3) = C at *
 generalize vTab tVT = V
 have gq := geq0 (findS w.mail e.id)
 have ez := eqsZ e.id
 simp only [eID, cID] at fd
 simp only [eWorld, cWorld, eEvent, cEvent, v_event_Can]
 refine nx (by simp only [vw0, vw1, vw2, vw3, vw4, ↓reduceIte, Nat.reduceAdd, beq_self_eq_true, Env.ofArgs_at, Option.getD_some, cl_ls, cl_ms, ft_ls, ft_ms]; rfl) ?_
 by_cases hk : e.kind = 1 ∨ e.kind = 2 ∨ e.kind = 3
 ·rw [canB, if_pos hk, canM]
  refine den_seq_ret ?_
  refine nx (by simp only [vw0, vw1, vw2, vw3, vw4, ↓reduceIte, Nat.reduceEqDiff]; rfl) (den_block_ret ?_)
  have head : ∀ env : Env, env 7 = .int .i64 e.kind → ∃ e1, den C V (.seq (.st [.asg [] [(8, (.bin .eql (.v 7) (N 1)))]]) (.cond (.v 8) .skip (.seq (.st [.asg [] [(8, (.bin .eql (.v 7) (N 2)))]]) (.cond (.v 8) .skip (.st [.asg [] [(8, (.bin .eql (.v 7) (N 3)))]]))))) env = some (.norm e1) ∧ e1 8 = .bool true ∧ ∀ n, n ≠ 8 → e1 n = env n := fun env h7 => by
   by_cases k1 : e.kind = 1
   ·exact ⟨_, by simp only [vw0, vw1, vw2, ↓reduceIte, eql_b, decide_true, h7, k1]; rfl, by simp, fun n hn => by simp [hn]⟩
   by_cases k2 : e.kind = 2
   ·exact ⟨_, by simp only [vw0, vw1, vw2, ↓reduceIte, Nat.reduceEqDiff, eql_b, decide_true, decide_false, Int.reduceEq, h7, k2]; rfl, by simp, fun n hn => by simp [hn]⟩
   have k3 : e.kind = 3 := by omega
   exact ⟨_, by simp only [vw0, vw1, vw2, ↓reduceIte, Nat.reduceEqDiff, eql_b, decide_true, decide_false, Int.reduceEq, h7, k3]; rfl, by simp, fun n hn => by simp [hn]⟩
  obtain ⟨e1, g1, g8, gn⟩ := head ((((Env.ofArgs [.agg [eLocals w.actors, eMsgs w.mail, .int .i64 w.used.drop, .int .i64 w.used.dup, .int .i64 w.used.time, .int .i64 w.used.crash], .agg [.int .i64 e.kind, .int .i64 e.id.frm, .int .i64 e.id.n, .int .i64 e.id.copy, .int .i64 e.who]]).set 3 (.lptr [.int .i64 e.kind, .int .i64 e.id.frm, .int .i64 e.id.n, .int .i64 e.id.copy, .int .i64 e.who])).set 2 (.lptr [eLocals w.actors, eMsgs w.mail, .int .i64 w.used.drop, .int .i64 w.used.dup, .int .i64 w.used.time, .int .i64 w.used.crash])).set 7 (.int .i64 e.kind)) (by simp)
  refine nx g1 ?_
  have g2 := gn 2 (by omega)
  have g3 := gn 3 (by omega)
  simp only [Env.set_at, Nat.reduceEqDiff, if_false, if_true] at g2 g3
  by_cases q1 : e.who = 0
  rotate_left
  ·rw [decide_eq_false q1, Bool.false_and]
   simp only [vw0, vw1, vw2, vw3, vw4, ↓reduceIte, Nat.reduceEqDiff, eql_b, ne_b, geq_b, decide_false, ft_ls, ft_ms, g8, g2, g3, fd, q1]
  by_cases q2 : findS w.mail e.id < 0
  ·rw [decide_eq_true q2] at gq
   rw [decide_eq_true q2, Bool.not_true, Bool.false_and, Bool.and_false]
   have q2' : ¬ 0 ≤ findS w.mail e.id := by omega
   simp only [vw0, vw1, vw2, vw3, vw4, ↓reduceIte, Nat.reduceEqDiff, eql_b, ne_b, geq_b, decide_true, decide_false, ft_ls, ft_ms, g8, g2, g3, fd, q1, q2']
  obtain ⟨k, x, j, l, f1, f2, f3, f4, f5, f6, f7⟩ := find_to ht q2
  have ix := ia_ms f2
  have il := ia_ls f5
  simp only [cMsg] at ix
  simp only [cLocal] at il
  have q3 : (0 : Int) ≤ (k : Int) := by omega
  rw [f6, f7, decide_eq_true q1, decide_eq_false q2, Bool.not_false, Bool.true_and, Bool.true_and]
  rw [f1] at fd
  by_cases k1 : e.kind = 1
  ·by_cases q4 : l.down = 0
   ·simp only [vw0, vw1, vw2, vw3, vw4, ↓reduceIte, Nat.reduceEqDiff, eql_b, ne_b, geq_b, decide_true, Bool.not_true, ft_ls, ft_ms, g8, g2, g3, fd, q1, q3, k1, ix, f4, il, q4, Bool.or_true]
   ·simp only [vw0, vw1, vw2, vw3, vw4, ↓reduceIte, Nat.reduceEqDiff, eql_b, ne_b, geq_b, decide_true, decide_false, Bool.not_true, ft_ls, ft_ms, g8, g2, g3, fd, q1, q3, k1, ix, f4, il, q4, Bool.or_false]
  ·simp only [vw0, vw1, vw2, vw3, vw4, ↓reduceIte, Nat.reduceEqDiff, reduceCtorEq, eql_b, ne_b, geq_b, decide_true, decide_false, Bool.not_false, ft_ls, ft_ms, g8, g2, g3, fd, q1, q3, k1, Bool.true_or]
 ·rw [canB, if_neg hk]
  have k1 : ¬ e.kind = 1 := fun h => hk (.inl h)
  have k2 : ¬ e.kind = 2 := fun h => hk (.inr (.inl h))
  have k3 : ¬ e.kind = 3 := fun h => hk (.inr (.inr h))
  by_cases hk2 : e.kind = 4 ∨ e.kind = 5
  rotate_left
  ·have k4 : ¬ e.kind = 4 := fun h => hk2 (.inl h)
   have k5 : ¬ e.kind = 5 := fun h => hk2 (.inr h)
   rw [if_neg hk2]
   simp only [vw0, vw1, vw2, vw3, vw4, ↓reduceIte, Nat.reduceEqDiff, eql_b, decide_false, k1, k2, k3, k4, k5]
  rw [if_pos hk2, canA]
  refine den_seq_ret ?_
  refine nx (by simp only [vw0, vw1, vw2, vw3, vw4, ↓reduceIte, Nat.reduceEqDiff]; rfl) (den_block_ret ?_)
  refine nx (by simp only [vw0, vw1, vw2, ↓reduceIte, Nat.reduceEqDiff, eql_b, decide_false, k1, k2, k3]; rfl) ?_
  have k45 : ¬ e.kind = 4 → e.kind = 5 := fun h => by omega
  by_cases q1 : e.id = zID
  rotate_left
  ·rw [decide_eq_false q1] at ez
   rw [decide_eq_false q1, Bool.false_and]
   by_cases k4 : e.kind = 4
   ·simp only [vw0, vw1, vw2, vw3, vw4, ↓reduceIte, Nat.reduceEqDiff, eql_b, ne_b, geq_b, decide_true, Bool.not_true, ft_ls, k4, ez]
   ·simp only [vw0, vw1, vw2, vw3, vw4, ↓reduceIte, Nat.reduceEqDiff, eql_b, ne_b, geq_b, decide_true, decide_false, Int.reduceEq, Bool.not_false, ft_ls, k45 k4, ez]
  rw [decide_eq_true q1] at ez
  rw [decide_eq_true q1, Bool.true_and]
  by_cases q2 : 0 ≤ e.who
  rotate_left
  ·rw [decide_eq_false q2, Bool.false_and]
   by_cases k4 : e.kind = 4
   ·simp only [vw0, vw1, vw2, vw3, vw4, ↓reduceIte, Nat.reduceEqDiff, eql_b, ne_b, geq_b, decide_true, decide_false, Bool.not_true, ft_ls, k4, ez, q2]
   ·simp only [vw0, vw1, vw2, vw3, vw4, ↓reduceIte, Nat.reduceEqDiff, eql_b, ne_b, geq_b, decide_true, decide_false, Int.reduceEq, Bool.not_false, ft_ls, k45 k4, ez, q2]
  rw [decide_eq_true q2, Bool.true_and]
  by_cases q3 : e.who < w.actors.length
  rotate_left
  ·rw [decide_eq_false q3, Bool.false_and]
   by_cases k4 : e.kind = 4
   ·simp only [vw0, vw1, vw2, vw3, vw4, ↓reduceIte, Nat.reduceEqDiff, eql_b, ne_b, lss_b, geq_b, decide_true, decide_false, Bool.not_true, ft_ls, k4, ez, q2, len_ls, q3]
   ·simp only [vw0, vw1, vw2, vw3, vw4, ↓reduceIte, Nat.reduceEqDiff, eql_b, ne_b, lss_b, geq_b, decide_true, decide_false, Int.reduceEq, Bool.not_false, ft_ls, k45 k4, ez, q2, len_ls, q3]
  rw [decide_eq_true q3, Bool.true_and]
  obtain ⟨j, l, f1, f2, f3, f4⟩ := actor_of q2 q3
  have il := ia_ls f2
  simp only [cLocal] at il
  rw [f3, f4]
  rw [f1] at q2 q3
  by_cases q4 : l.down = 0
  rotate_left
  ·rw [decide_eq_false q4, Bool.false_and]
   by_cases k4 : e.kind = 4
   ·simp only [vw0, vw1, vw2, vw3, vw4, ↓reduceIte, Nat.reduceEqDiff, eql_b, ne_b, lss_b, geq_b, decide_true, decide_false, Bool.not_true, ft_ls, k4, ez, f1, q2, len_ls, q3, il, q4]
   ·simp only [vw0, vw1, vw2, vw3, vw4, ↓reduceIte, Nat.reduceEqDiff, eql_b, ne_b, lss_b, geq_b, decide_true, decide_false, Int.reduceEq, Bool.not_false, ft_ls, k45 k4, ez, f1, q2, len_ls, q3, il, q4]
  rw [decide_eq_true q4, Bool.true_and]
  by_cases k4 : e.kind = 4
  ·simp only [vw0, vw1, vw2, vw3, vw4, ↓reduceIte, Nat.reduceEqDiff, eql_b, ne_b, lss_b, geq_b, decide_true, Bool.not_true, ft_ls, k4, ez, f1, q2, len_ls, q3, il, q4, Bool.false_or]
  ·simp only [vw0, vw1, vw2, vw3, vw4, ↓reduceIte, Nat.reduceEqDiff, reduceCtorEq, eql_b, ne_b, lss_b, geq_b, decide_true, decide_false, Int.reduceEq, Bool.not_false, ft_ls, k45 k4, ez, f1, q2, len_ls, q3, il, q4, Bool.true_or]
end Gv
