/- What this file proves: one part of the proof that the law answers true for every input, by an interpreter that is proved sound against the given model. -/
import Derived.Test.YtkjefeclbdjkcaaVc
/- What this file proves: one part of the proof that the law answers true for every input, by an interpreter that is proved sound against the given model. -/
namespace Gv
open Go
theorem shr7 {u : Nat} (_hu : u < 18446744073709551616) : ((u : Int).fdiv (2 ^ (min (Int.toNat 7) 64))) = ((u / 128 : Nat) : Int) := by
 have : (2 : Int) ^ (min (Int.toNat 7) 64) = ((128 : Nat) : Int) := by decide
 rw [this, Int.fdiv_eq_ediv_of_nonneg _ (by omega)]
 exact (Int.natCast_ediv u 128).symm
theorem or128n : ∀ m : Nat, m < 256 → (BitVec.ofInt 8 (m : Int) ||| BitVec.ofInt 8 128).toNat = m % 128 + 128 := by decide +kernel
theorem or128 {u : Nat} : binI .or .u8 (IntKind.u8.wrap (u : Int)) .u8 128 = some (.int .u8 ((u % 128 + 128 : Nat) : Int)) := by
 have hw : IntKind.u8.wrap (u : Int) = ((u % 256 : Nat) : Int) := by
  unfold IntKind.wrap
  simp [IntKind.signed, IntKind.bits]
 have h1 := or128n (u % 256) (Nat.mod_lt _ (by decide))
 have h2 : u % 256 % 128 = u % 128 := by omega
 have h3 : IntKind.u8.wrap ((u % 128 + 128 : Nat) : Int) = ((u % 128 + 128 : Nat) : Int) := by
  unfold IntKind.wrap
  simp [IntKind.signed, IntKind.bits]
  omega
 rw [hw]
 show some (PV.int .u8 (IntKind.u8.wrap ((BitVec.ofInt 8 ((u % 256 : Nat) : Int) ||| BitVec.ofInt 8 128).toNat : Int))) = _
 rw [h1, h2, h3]
def nb : Nat → Nat → List Nat
 | 0, _ => []
 | k + 1, u => if 128 ≤ u then (u % 128 + 128) :: nb k (u / 128) else [u]

def zz (n : Int) : Nat := if 0 ≤ n then (2 * n).toNat else (-2 * n - 1).toNat
theorem u64_of (x : Int) : IntKind.u64.wrap x = x % 18446744073709551616 := by
 unfold IntKind.wrap
 simp [IntKind.signed, IntKind.bits]
theorem i64_of {x : Int} (h1 : -9223372036854775808 ≤ x) (h2 : x ≤ 9223372036854775807) : IntKind.i64.wrap x = x := by
 rw [IntKind.wrap_i64]; omega
theorem zz_shr {n : Int} (h1 : -9223372036854775808 ≤ n) (h2 : n ≤ 9223372036854775807) : binI .shr .i64 n .u64 63 = some (.int .i64 (if 0 ≤ n then 0 else -1)) := by
 simp only [binI, IntKind.bits]
 rw [if_neg (by decide)]
 have e : (2 : Int) ^ (min (Int.toNat 63) 64) = 9223372036854775808 := by decide
 rw [e, Int.fdiv_eq_ediv_of_nonneg _ (by decide)]
 congr 2
 split <;> omega
theorem zz_shl {n : Int} (_h1 : -9223372036854775808 ≤ n) (_h2 : n ≤ 9223372036854775807) : binI .shl .u64 (IntKind.u64.wrap n) .u64 1 = some (.int .u64 ((2 * n) % 18446744073709551616)) := by
 simp only [binI, IntKind.bits]
 rw [if_neg (by decide)]
 have e : (2 : Int) ^ (min (Int.toNat 1) 64) = 2 := by decide
 rw [e, u64_of, u64_of]
 congr 2
 omega
theorem zz_xor {n : Int} (h1 : -9223372036854775808 ≤ n) (h2 : n ≤ 9223372036854775807) : binI .xor .u64 ((2 * n) % 18446744073709551616) .u64 (IntKind.u64.wrap (if 0 ≤ n then 0 else -1)) = some (.int .u64 (zz n)) := by
 simp only [binI, ne_eq, not_true_eq_false, if_false]
 show some (PV.int .u64 (IntKind.u64.wrap ((BitVec.ofInt 64 ((2 * n) % 18446744073709551616) ^^^ BitVec.ofInt 64 (IntKind.u64.wrap (if 0 ≤ n then 0 else -1))).toNat : Int))) = _
 rw [u64_of, u64_of]
 congr 2
 by_cases hn : 0 ≤ n
 ·rw [if_pos hn]
  have e : BitVec.ofInt 64 ((0 : Int) % 18446744073709551616) = 0#64 := by decide
  rw [e, BitVec.xor_zero, BitVec.toNat_ofInt]
  unfold zz
  rw [if_pos hn]
  simp
  omega
 ·rw [if_neg hn]
  have e : BitVec.ofInt 64 ((-1 : Int) % 18446744073709551616) = BitVec.allOnes 64 := by decide
  rw [e, BitVec.xor_allOnes, BitVec.toNat_not, BitVec.toNat_ofInt]
  unfold zz
  rw [if_neg hn]
  simp
  omega
theorem zz_lt {n : Int} (h1 : -9223372036854775808 ≤ n) (h2 : n ≤ 9223372036854775807) : zz n < 18446744073709551616 := by
 unfold zz; split <;> omega
def bytesV (l : List Nat) : List PV := l.map fun (n : Nat) => PV.int .u8 (n : Int)
def number (n : Int) : List Nat := nb 10 (zz n)
end Gv

namespace Gv
open Go
def unzz (u : Nat) : Int := if u % 2 = 0 then (u / 2 : Nat) else -((u / 2 : Nat) : Int) - 1
theorem zz_unzz (u : Nat) : zz (unzz u) = u := by
 unfold zz unzz
 split <;> split <;> omega
theorem unzz_zz (n : Int) : unzz (zz n) = n := by
 unfold zz unzz
 split <;> split <;> omega
theorem unzz_lo {u : Nat} (h : u < 18446744073709551616) : -9223372036854775808 ≤ unzz u ∧ unzz u ≤ 9223372036854775807 := by
 unfold unzz; split <;> omega
def val : List Nat → Nat
 | [] => 0
 | c :: cs => c % 128 + 128 * val cs
theorem val_app : ∀ (l : List Nat) (m : List Nat), val (l ++ m) = val l + 128 ^ l.length * val m
 | [], m => by simp [val]
 | c :: l, m => by
  simp only [List.cons_append, val, val_app l m, List.length_cons, Nat.pow_succ, Nat.mul_add, Nat.mul_comm, Nat.mul_left_comm]
  omega
theorem val_lt : ∀ (l : List Nat), val l < 128 ^ l.length
 | [] => by simp [val]
 | c :: l => by
  have := val_lt l
  simp only [val, List.length_cons, Nat.pow_succ]
  omega
theorem val_nb : ∀ (k w : Nat), w < 128 ^ k → val (nb k w) = w
 | 0, w, h => by simp at h; subst h; rfl
 | k + 1, w, h => by
  rw [nb]
  split
  ·have hd : w / 128 < 128 ^ k := by
    rw [Nat.div_lt_iff_lt_mul (by decide)]
    have : 128 ^ (k + 1) = 128 ^ k * 128 := Nat.pow_succ ..
    omega
   rw [val, val_nb k _ hd]; omega
  ·simp [val]; omega
theorem nb_val : ∀ (pre : List Nat) (c k : Nat), (∀ x ∈ pre, 128 ≤ x ∧ x < 256) → c < 128 → (pre ≠ [] → c ≠ 0) → pre.length + 1 ≤ k → nb k (val (pre ++ [c])) = pre ++ [c]
 | [], c, k + 1, _, hc, _, _ => by
  have : val ([] ++ [c]) = c := by simp [val]; omega
  rw [this, nb, if_neg (by omega)]; rfl
 | p :: ps, c, k + 1, hp, hc, hn, hk => by
  have h0 := hp p (by simp)
  have hc0 := hn (by simp)
  have ih := nb_val ps c k (fun x hx => hp x (by simp [hx])) hc (fun _ => hc0) (by simp at hk; omega)
  have hv : 1 ≤ val (ps ++ [c]) := by
   rw [val_app]
   have : 1 ≤ 128 ^ ps.length := Nat.pos_of_ne_zero (by simp)
   have h2 : val [c] = c := by simp [val]; omega
   rw [h2]
   have : 1 ≤ 128 ^ ps.length * c := Nat.mul_le_mul this (by omega : 1 ≤ c)
   omega
  have hv2 : val (p :: ps ++ [c]) = p % 128 + 128 * val (ps ++ [c]) := rfl
  rw [hv2, nb, if_pos (by omega)]
  have e1 : (p % 128 + 128 * val (ps ++ [c])) % 128 + 128 = p := by omega
  have e2 : (p % 128 + 128 * val (ps ++ [c])) / 128 = val (ps ++ [c]) := by omega
  rw [e1, e2, ih]; rfl
 | _, _, 0, _, _, _, h => by omega
theorem nb_last : ∀ (k u : Nat) (ps : List Nat), u ≠ 0 → nb k u ≠ ps ++ [0]
 | 0, u, ps, h => by simp [nb]
 | k + 1, u, ps, h => by
  rw [nb]
  split
  ·rename_i hu
   cases ps with
   | nil => simp
   | cons p ps =>
    intro he
    simp only [List.cons_append, List.cons.injEq] at he
    exact nb_last k (u / 128) ps (by omega) he.2
  ·intro he
   cases ps with
   | nil => simp at he; exact h he
   | cons p ps => simp at he
def takeW : List Nat → Nat → Nat → Option (Nat × Nat)
 | [], _, _ => none
 | c :: cs, i, u => if 10 ≤ i ∨ (i = 9 ∧ 2 ≤ c % 128) ∨ (c = 0 ∧ 0 < i) then none else if c < 128 then some (u + c % 128 * 128 ^ i, i + 1) else takeW cs (i + 1) (u + c % 128 * 128 ^ i)
def takeR (b : List Nat) : List Nat → Nat → Nat → Option (Nat × Nat)
 | [], _, _ => none
 | c :: cs, i, u => if 10 ≤ i then none else if 128 ≤ c then takeR b cs (i + 1) ((u + c % 128 * 128 ^ i) % 18446744073709551616) else
   if nb 10 ((u + c % 128 * 128 ^ i) % 18446744073709551616) = b.take (i + 1) then some ((u + c % 128 * 128 ^ i) % 18446744073709551616, i + 1) else none
theorem pow9 {i : Nat} (h : i < 9) : 128 ^ (i + 1) ≤ 9223372036854775808 := by
 have : 128 ^ (i + 1) ≤ 128 ^ 9 := Nat.pow_le_pow_right (by decide) (by omega)
 omega
theorem val_snoc (pre : List Nat) (c : Nat) : val (pre ++ [c]) = val pre + c % 128 * 128 ^ pre.length := by
 rw [val_app]; simp [val, Nat.mul_comm]
theorem take_same : ∀ (rest pre : List Nat), (∀ x ∈ pre, 128 ≤ x ∧ x < 256) → (∀ x ∈ rest, x < 256) → pre.length ≤ 10 → (pre.length = 10 ∨ True) →
  (pre.length < 10 → takeW rest pre.length (val pre) = takeR (pre ++ rest) rest pre.length (val pre))
 | [], pre, _, _, _, _ => fun _ => rfl
 | c :: cs, pre, hp, hr, hl, _ => fun hlt => by
  have hc256 := hr c (by simp)
  have hs := val_snoc pre c
  have hb := val_lt (pre ++ [c])
  have hlen : (pre ++ [c]).length = pre.length + 1 := by simp
  rw [hlen] at hb
  rw [takeW, takeR, if_neg (by omega : ¬ 10 ≤ pre.length)]
  rw [← hs]
  by_cases hc : 128 ≤ c
  ·rw [if_pos hc]
   by_cases h9 : pre.length = 9
   ·-- no more bytes are taken
    have n1 : ∀ (l : List Nat) u, takeW l 10 u = none := fun l u => by cases l <;> simp [takeW]
    have n2 : ∀ (b l : List Nat) u, takeR b l 10 u = none := fun b l u => by cases l <;> simp [takeR]
    rw [h9]
    rw [show 9 + 1 = 10 from rfl, n1, n2]
    simp
    intro _; omega
   ·rw [if_neg (by omega), if_neg (by omega)]
    have hm : val (pre ++ [c]) < 18446744073709551616 := by have := pow9 (i := pre.length) (by omega); omega
    rw [Nat.mod_eq_of_lt hm]
    have ih := take_same cs (pre ++ [c]) (fun x hx => by
     rcases List.mem_append.1 hx with h | h
     ·exact hp x h
     ·rw [List.mem_singleton.1 h]; exact ⟨hc, hc256⟩) (fun x hx => hr x (by simp [hx])) (by simp; omega) (.inr trivial) (by simp; omega)
    rw [hlen] at ih
    simpa using ih
  ·rw [if_neg hc]
   have htk : (pre ++ c :: cs).take (pre.length + 1) = pre ++ [c] := by
    rw [List.take_append, List.take_of_length_le (by omega)]; simp
   rw [htk]
   by_cases hbad : (pre.length = 9 ∧ 2 ≤ c % 128) ∨ (c = 0 ∧ 0 < pre.length)
   ·rw [if_pos (.inr hbad), if_neg]
    intro he
    have hw : val (pre ++ [c]) % 18446744073709551616 < 128 ^ 10 := by
     have := Nat.mod_lt (val (pre ++ [c])) (show 0 < 18446744073709551616 by decide)
     omega
    have hv := val_nb 10 _ hw
    rw [he] at hv
    rcases hbad with ⟨h9, h2⟩ | ⟨h0, hpos⟩
    ·have : 2 * 128 ^ 9 ≤ c % 128 * 128 ^ 9 := Nat.mul_le_mul_right _ h2
     rw [h9] at hs
     have := Nat.mod_lt (val (pre ++ [c])) (show 0 < 18446744073709551616 by decide)
     omega
    ·subst h0
     have hne : val (pre ++ [0]) % 18446744073709551616 ≠ 0 := by
      intro hz
      rw [hz] at he
      cases pre with
      | nil => simp at hpos
      | cons p ps =>
       have := congrArg List.length he
       simp [nb] at this
     exact nb_last 10 _ pre hne he
   ·have hm : val (pre ++ [c]) < 18446744073709551616 := by
     by_cases h9 : pre.length = 9
     ·have h2 : c % 128 < 2 := by omega
      have h3 := val_lt pre
      rw [h9] at hs h3
      have : c % 128 * 128 ^ 9 ≤ 1 * 128 ^ 9 := Nat.mul_le_mul_right _ (by omega)
      omega
     ·have := pow9 (i := pre.length) (by omega); omega
    rw [if_neg (by omega), if_pos (by omega), Nat.mod_eq_of_lt hm, if_pos (nb_val pre c 10 hp (by omega) (fun hne h0 => by
     have : 0 < pre.length := List.length_pos_iff.2 hne
     omega) (by omega))]
theorem take_number : ∀ (k w i u : Nat) (rest : List Nat), w < 128 ^ (k + 1) → i + k + 1 ≤ 10 → (0 < i → w ≠ 0) → u + w * 128 ^ i < 18446744073709551616 → takeW (nb (k + 1) w ++ rest) i u = some (u + w * 128 ^ i, i + (nb (k + 1) w).length)
 | k, w, i, u, rest, hw, hi, h0, hb => by
  rw [nb]
  by_cases hc : 128 ≤ w
  ·rw [if_pos hc]
   cases k with
   | zero => omega
   | succ k =>
    simp only [List.cons_append, takeW]
    rw [if_neg (by omega), if_neg (by omega)]
    have e1 : (w % 128 + 128) % 128 = w % 128 := by omega
    rw [e1]
    have hd : w / 128 < 128 ^ (k + 1) := by
     rw [Nat.div_lt_iff_lt_mul (by decide)]
     have : 128 ^ (k + 1 + 1) = 128 ^ (k + 1) * 128 := Nat.pow_succ ..
     omega
    have e2 : u + w % 128 * 128 ^ i + w / 128 * 128 ^ (i + 1) = u + w * 128 ^ i := by
     rw [Nat.pow_succ, Nat.mul_comm (128 ^ i) 128, ← Nat.mul_assoc, Nat.add_assoc, ← Nat.add_mul]
     congr 2; omega
    rw [take_number k (w / 128) (i + 1) _ rest hd (by omega) (by omega) (by rw [e2]; exact hb), e2]
    simp only [List.length_cons, Option.some.injEq, Prod.mk.injEq, true_and]
    omega
  ·rw [if_neg hc]
   simp only [List.cons_append, takeW, List.nil_append]
   have h9 : ¬ (i = 9 ∧ 2 ≤ w % 128) := by
    rintro ⟨rfl, h2⟩
    have : 2 * 128 ^ 9 ≤ w * 128 ^ 9 := Nat.mul_le_mul_right _ (by omega)
    omega
   rw [if_neg (by omega), if_pos (by omega), Nat.mod_eq_of_lt (by omega)]
   rfl
end Gv

namespace Gv
open Go
structure SInstr where
 op : Int
 a : Int
 deriving DecidableEq
structure SHandler where
 args : Int
 code : List SInstr
 deriving DecidableEq
structure SActor where
 regs : List Int
 cap : Int
 timer : Int
 armed : Bool
 deriving DecidableEq
structure SNote where
 to : Int
 handler : Int
 args : List Int
 deriving DecidableEq
structure SProg where
 handlers : List SHandler
 actors : List SActor
 boot : List SNote
 fuel : Int
 deriving DecidableEq
structure SBudget where
 drop : Int
 dup : Int
 time : Int
 crash : Int
 deriving DecidableEq
structure SLimits where
 depth : Int
 runs : Int
 deriving DecidableEq
structure STask where
 prog : SProg
 watch : List (List SInstr)
 budget : SBudget
 limits : SLimits
 deriving DecidableEq
structure SID where
 frm : Int
 n : Int
 copy : Int
structure SEvent where
 kind : Int
 id : SID
 who : Int
def I64 (n : Int) : Prop := -9223372036854775808 ≤ n ∧ n ≤ 9223372036854775807
def SInstr.ok (i : SInstr) : Prop := I64 i.op ∧ I64 i.a
def SHandler.ok (h : SHandler) : Prop := I64 h.args ∧ ∀ i ∈ h.code, i.ok
def SActor.ok (a : SActor) : Prop := (∀ n ∈ a.regs, I64 n) ∧ I64 a.cap ∧ I64 a.timer
def SNote.ok (n : SNote) : Prop := I64 n.to ∧ I64 n.handler ∧ ∀ x ∈ n.args, I64 x
def SProg.ok (p : SProg) : Prop := (∀ h ∈ p.handlers, h.ok) ∧ (∀ a ∈ p.actors, a.ok) ∧ (∀ n ∈ p.boot, n.ok) ∧ I64 p.fuel
def SBudget.ok (b : SBudget) : Prop := I64 b.drop ∧ I64 b.dup ∧ I64 b.time ∧ I64 b.crash
def SLimits.ok (c : SLimits) : Prop := I64 c.depth ∧ I64 c.runs
def STask.ok (t : STask) : Prop := t.prog.ok ∧ (∀ w ∈ t.watch, ∀ i ∈ w, i.ok) ∧ t.budget.ok ∧ t.limits.ok
def SID.ok (i : SID) : Prop := I64 i.frm ∧ I64 i.n ∧ I64 i.copy
def SEvent.ok (e : SEvent) : Prop := I64 e.kind ∧ e.id.ok ∧ I64 e.who
def eB (l : List Nat) : PV := .lst (bytesV l) false
def eI (l : List Int) : PV := .lst (l.map fun n => .int .i64 n) false
def eInstr (i : SInstr) : PV := .agg [.int .i64 i.op, .int .i64 i.a]
def eCode (l : List SInstr) : PV := .lst (l.map eInstr) false
def eHandler (h : SHandler) : PV := .agg [.int .i64 h.args, eCode h.code]
def eActor (a : SActor) : PV := .agg [eI a.regs, .int .i64 a.cap, .int .i64 a.timer, .bool a.armed]
def eNote (n : SNote) : PV := .agg [.int .i64 n.to, .int .i64 n.handler, eI n.args]
def cProg (p : SProg) : List PV := [.lst (p.handlers.map eHandler) false, .lst (p.actors.map eActor) false, .lst (p.boot.map eNote) false, .int .i64 p.fuel]
def cBudget (b : SBudget) : List PV := [.int .i64 b.drop, .int .i64 b.dup, .int .i64 b.time, .int .i64 b.crash]
def cLimits (c : SLimits) : List PV := [.int .i64 c.depth, .int .i64 c.runs]
def cTask (t : STask) : List PV := cProg t.prog ++ [.lst (t.watch.map eCode) false] ++ cBudget t.budget ++ cLimits t.limits
def enN (l : List Int) : List Nat := l.flatMap number
def enNums (l : List Int) : List Nat := number l.length ++ enN l
def enInstr (i : SInstr) : List Nat := number i.op ++ number i.a
def enCode (l : List SInstr) : List Nat := number l.length ++ l.flatMap enInstr
def enHandler (h : SHandler) : List Nat := number h.args ++ enCode h.code
def flagI (b : Bool) : Int := if b then 1 else 0
def enActor (a : SActor) : List Nat := enNums a.regs ++ (number a.cap ++ number a.timer ++ number (flagI a.armed))
def enNote (n : SNote) : List Nat := number n.to ++ number n.handler ++ enNums n.args
def enProg (p : SProg) : List Nat := number p.handlers.length ++ p.handlers.flatMap enHandler ++ (number p.actors.length ++ p.actors.flatMap enActor) ++ (number p.boot.length ++ p.boot.flatMap enNote) ++ number p.fuel
def enSign : List Nat := [71, 65, 86, 49]
def enTask (t : STask) : List Nat := enSign ++ enProg t.prog ++ (number t.watch.length ++ t.watch.flatMap enCode) ++ enN [t.budget.drop, t.budget.dup, t.budget.time, t.budget.crash, t.limits.depth, t.limits.runs]
end Gv

namespace Gv
open Go
def BOk (b : List Nat) : Prop := (∀ x ∈ b, x < 256) ∧ b.length < 4611686018427387904
theorem BOk.app {a b : List Nat} (h : BOk (a ++ b)) : BOk a ∧ BOk b := by
  have h2 := h.2
  rw [List.length_append] at h2
  exact ⟨⟨fun x hx => h.1 x (List.mem_append_left _ hx), by omega⟩, ⟨fun x hx => h.1 x (List.mem_append_right _ hx), by omega⟩⟩
theorem takeR_some : ∀ {b cs : List Nat} {i u v k : Nat}, takeR b cs i u = some (v, k) → nb 10 v = b.take k ∧ v < 18446744073709551616
  | b, [], i, u, v, k, h => by simp [takeR] at h
  | b, c :: cs, i, u, v, k, h => by
    simp only [takeR] at h
    split at h
    · cases h
    · split at h
      · exact takeR_some h
      · split at h
        · rename_i he; cases h; exact ⟨he, Nat.mod_lt _ (by decide)⟩
        · cases h
theorem takeW_bd : ∀ (l : List Nat) (i u v k : Nat), takeW l i u = some (v, k) → 0 < k ∧ k ≤ i + l.length
  | [], _, _, _, _, h => by simp [takeW] at h
  | c :: cs, i, u, v, k, h => by
    simp only [takeW] at h
    split at h
    · cases h
    · split at h
      · cases h; simp
      · have := takeW_bd cs _ _ _ _ h; simp only [List.length_cons]; omega
theorem take_sound {b : List Nat} (hb : BOk b) {u k : Nat} (h : takeW b 0 0 = some (u, k)) : b = number (unzz u) ++ b.drop k ∧ I64 (unzz u) ∧ 0 < k ∧ k ≤ b.length := by
  have hs := take_same b [] (by simp) hb.1 (by simp) (.inr trivial) (by simp)
  simp only [List.nil_append, List.length_nil, val] at hs
  have h2 := h
  rw [hs] at h2
  obtain ⟨h3, h4⟩ := takeR_some h2
  have hbd := takeW_bd _ _ _ _ _ h
  have e : number (unzz u) = b.take k := by show nb 10 (zz (unzz u)) = _; rw [zz_unzz]; exact h3
  refine ⟨by rw [e, List.take_append_drop], unzz_lo h4, hbd.1, by omega⟩
theorem zz_lt' {n : Int} (h : I64 n) : zz n < 18446744073709551616 := by
  obtain ⟨h1, h2⟩ := h
  unfold zz; split <;> omega
theorem take_complete {n : Int} (h : I64 n) (rest : List Nat) : takeW (number n ++ rest) 0 0 = some (zz n, (number n).length) := by
  have hz := zz_lt' h
  have := take_number 9 (zz n) 0 0 rest (by have : 18446744073709551616 < 128 ^ (9 + 1) := by decide
                                            omega) (by omega) (by omega) (by simpa using hz)
  simpa [number] using this
theorem i64_0 : I64 0 := ⟨by decide, by decide⟩
abbrev RS := List Nat × Bool
def rNum (s : RS) : Int × RS := match takeW s.1 0 0 with
  | some p => if s.2 then (0, s) else (unzz p.1, (s.1.drop p.2, false))
  | none => (0, (s.1, true))
def rCount (s : RS) : Nat × RS := if (rNum s).2.2 = true ∨ (rNum s).1 < 0 ∨ ((rNum s).2.1.length : Int) < (rNum s).1 then (0, ((rNum s).2.1, true)) else ((rNum s).1.toNat, (rNum s).2)
def rAcc {α : Type} (f : RS → α × RS) : Nat → RS → List α × RS
  | 0, s => ([], s)
  | n + 1, s => ((rAcc f n s).1 ++ [(f (rAcc f n s).2).1], (f (rAcc f n s).2).2)
def rList {α : Type} (f : RS → α × RS) (s : RS) : List α × RS := rAcc f (rCount s).1 (rCount s).2
structure Dec {α : Type} (f : RS → α × RS) (en : α → List Nat) (ok : α → Prop) : Prop where
  snd : ∀ b x b', BOk b → f (b, false) = (x, (b', false)) → b = en x ++ b'
  okr : ∀ s, BOk s.1 → ok (f s).1
  suf : ∀ s, ∃ p, s.1 = p ++ (f s).2.1
  mono : ∀ s, s.2 = true → (f s).2.2 = true
  cpl : ∀ x rest, ok x → f (en x ++ rest, false) = (x, (rest, false))
theorem suf_bok {a b : List Nat} (h : ∃ p, a = p ++ b) (ha : BOk a) : BOk b := by obtain ⟨p, rfl⟩ := h; exact ha.app.2
theorem unzz_zz' (n : Int) : unzz (zz n) = n := unzz_zz n
theorem rNum_dec : Dec rNum number I64 where
  snd b x b' hb h := by
    unfold rNum at h
    split at h
    · rename_i p hp
      obtain ⟨u, k⟩ := p
      simp only [Bool.false_eq_true, if_false, Prod.mk.injEq] at h
      obtain ⟨rfl, rfl, _⟩ := h
      exact (take_sound hb hp).1
    · simp at h
  okr s hb := by
    unfold rNum
    split
    · rename_i p hp
      split
      · exact i64_0
      · exact (take_sound (u := p.1) (k := p.2) hb hp).2.1
    · exact i64_0
  suf s := by
    unfold rNum
    split
    · split
      · exact ⟨[], rfl⟩
      · rename_i p _ _; exact ⟨s.1.take p.2, (List.take_append_drop _ _).symm⟩
    · exact ⟨[], rfl⟩
  mono s h := by
    unfold rNum
    split
    · rw [if_pos h]; exact h
    · rfl
  cpl n rest h := by
    unfold rNum
    rw [take_complete h]
    simp [unzz_zz']
def okLen {α : Type} (ok : α → Prop) (l : List α) : Prop := (∀ x ∈ l, ok x) ∧ l.length < 4611686018427387904
theorem rAcc_mono {α : Type} {f : RS → α × RS} (hm : ∀ s, s.2 = true → (f s).2.2 = true) : ∀ (n : Nat) (s : RS), s.2 = true → (rAcc f n s).2.2 = true
  | 0, s, h => h
  | n + 1, s, h => hm _ (rAcc_mono hm n s h)
theorem rAcc_suf {α : Type} {f : RS → α × RS} (hf : ∀ s, ∃ p, s.1 = p ++ (f s).2.1) : ∀ (n : Nat) (s : RS), ∃ p, s.1 = p ++ (rAcc f n s).2.1
  | 0, s => ⟨[], rfl⟩
  | n + 1, s => by
    obtain ⟨p, h1⟩ := rAcc_suf hf n s
    obtain ⟨q, h2⟩ := hf (rAcc f n s).2
    exact ⟨p ++ q, by rw [h1, h2, List.append_assoc]; rfl⟩
theorem rAcc_len {α : Type} {f : RS → α × RS} : ∀ (n : Nat) (s : RS), (rAcc f n s).1.length = n
  | 0, s => rfl
  | n + 1, s => by simp [rAcc, rAcc_len n s]
theorem rAcc_snd {α : Type} {f : RS → α × RS} {en : α → List Nat} {ok : α → Prop} (D : Dec f en ok) : ∀ (n : Nat) (b : List Nat), BOk b → (rAcc f n (b, false)).2.2 = false → b = (rAcc f n (b, false)).1.flatMap en ++ (rAcc f n (b, false)).2.1
  | 0, b, _, _ => by simp [rAcc]
  | n + 1, b, hb, h => by
    have h0 : (rAcc f n (b, false)).2.2 = false := by
      cases h1 : (rAcc f n (b, false)).2.2 with
      | false => rfl
      | true => have := D.mono _ h1; simp only [rAcc] at h; rw [this] at h; cases h
    have ih := rAcc_snd D n b hb h0
    have hbn : BOk (rAcc f n (b, false)).2.1 := suf_bok (rAcc_suf D.suf n (b, false)) hb
    simp only [rAcc] at h ⊢
    generalize rAcc f n (b, false) = q at *
    obtain ⟨l, t, bad⟩ := q
    simp only at h0 ih hbn h ⊢
    subst h0
    generalize hq : f (t, false) = r at *
    obtain ⟨x, t', bad'⟩ := r
    simp only at h
    subst h
    have := D.snd t x t' hbn hq
    simp only [List.flatMap_append, List.flatMap_cons, List.flatMap_nil, List.append_nil, List.append_assoc]
    rw [← this]; exact ih
theorem rAcc_ok {α : Type} {f : RS → α × RS} {en : α → List Nat} {ok : α → Prop} (D : Dec f en ok) : ∀ (n : Nat) (s : RS), BOk s.1 → ∀ x ∈ (rAcc f n s).1, ok x
  | 0, s, _, x, hx => by simp [rAcc] at hx
  | n + 1, s, hb, x, hx => by
    simp only [rAcc, List.mem_append, List.mem_singleton] at hx
    rcases hx with hx | rfl
    · exact rAcc_ok D n s hb x hx
    · exact D.okr _ (suf_bok (rAcc_suf D.suf n s) hb)
theorem rAcc_cpl {α : Type} {f : RS → α × RS} {en : α → List Nat} {ok : α → Prop} (D : Dec f en ok) (l : List α) (hl : ∀ x ∈ l, ok x) (rest : List Nat) : ∀ n, n ≤ l.length → rAcc f n (l.flatMap en ++ rest, false) = (l.take n, ((l.drop n).flatMap en ++ rest, false))
  | 0, _ => by simp [rAcc]
  | n + 1, h => by
    have ih := rAcc_cpl D l hl rest n (by omega)
    have hn : n < l.length := by omega
    have e : l.drop n = l[n] :: l.drop (n + 1) := List.drop_eq_getElem_cons hn
    simp only [rAcc, ih]
    rw [e]
    simp only [List.flatMap_cons, List.append_assoc]
    rw [D.cpl _ _ (hl _ (List.getElem_mem hn))]
    simp only [Prod.mk.injEq, and_true]
    rw [List.take_add_one, List.getElem?_eq_getElem hn]; rfl
def enList {α : Type} (en : α → List Nat) (l : List α) : List Nat := number l.length ++ l.flatMap en
theorem flat_ge' {α : Type} {f : α → List Nat} (h : ∀ x, 1 ≤ (f x).length) : ∀ (l : List α), l.length ≤ (l.flatMap f).length
  | [] => by simp
  | x :: l => by
    have h1 := h x
    have h2 := flat_ge' h l
    simp only [List.flatMap_cons, List.length_append, List.length_cons]; omega
theorem rCount_suf (s : RS) : ∃ p, s.1 = p ++ (rCount s).2.1 := by
  unfold rCount; split <;> exact rNum_dec.suf s
theorem rCount_mono (s : RS) (h : s.2 = true) : (rCount s).2.2 = true := by
  unfold rCount; rw [if_pos (.inl (rNum_dec.mono s h))]
theorem rCount_le (s : RS) : (rCount s).1 ≤ (rCount s).2.1.length := by
  unfold rCount
  split
  · exact Nat.zero_le _
  · rename_i h; simp only [not_or] at h; simp only; omega
theorem rCount_cpl {n : Nat} {rest : List Nat} (h : n ≤ rest.length) (hn : n < 4611686018427387904) : rCount (number (n : Int) ++ rest, false) = (n, (rest, false)) := by
  have e := rNum_dec.cpl (n : Int) rest ⟨by omega, by omega⟩
  unfold rCount
  rw [e]
  simp only
  rw [if_neg (by simp; omega)]
  simp
theorem rCount_snd {b : List Nat} {n : Nat} {b' : List Nat} (hb : BOk b) (h : rCount (b, false) = (n, (b', false))) : b = number (n : Int) ++ b' := by
  unfold rCount at h
  split at h
  · simp at h
  · rename_i hc
    simp only [not_or] at hc
    simp only [Prod.mk.injEq] at h
    obtain ⟨h1, h2⟩ := h
    have := rNum_dec.snd b (rNum (b, false)).1 b' hb (by rw [← h2])
    rw [show ((n : Nat) : Int) = (rNum (b, false)).1 by omega]
    exact this
theorem rList_dec {α : Type} {f : RS → α × RS} {en : α → List Nat} {ok : α → Prop} (D : Dec f en ok) (he : ∀ x, 1 ≤ (en x).length) : Dec (rList f) (enList en) (okLen ok) where
  snd b x b' hb h := by
    unfold rList at h
    cases h0 : (rCount (b, false)).2.2 with
    | true =>
      have := rAcc_mono D.mono (rCount (b, false)).1 _ h0
      rw [h] at this; cases this
    | false =>
      generalize hq : rCount (b, false) = q at *
      obtain ⟨n, t, bad⟩ := q
      simp only at h0 h
      subst h0
      have h1 := rCount_snd hb hq
      have hbt : BOk t := by rw [h1] at hb; exact hb.app.2
      have h2 := rAcc_snd D n t hbt (by rw [h])
      have h3 := rAcc_len (f := f) n (t, false)
      rw [h] at h2 h3
      simp only at h2 h3
      rw [h1, enList, List.append_assoc, ← h2, h3]
  okr s hb := by
    refine ⟨rAcc_ok D _ _ (suf_bok (rCount_suf s) hb), ?_⟩
    show (rAcc f (rCount s).1 (rCount s).2).1.length < _
    rw [rAcc_len]
    have h1 := rCount_le s
    have h2 := suf_bok (rCount_suf s) hb
    have := h2.2
    omega
  suf s := by
    obtain ⟨p, h1⟩ := rCount_suf s
    obtain ⟨q, h2⟩ := rAcc_suf D.suf (rCount s).1 (rCount s).2
    exact ⟨p ++ q, by rw [h1, h2, List.append_assoc]; rfl⟩
  mono s h := rAcc_mono D.mono _ _ (rCount_mono s h)
  cpl l rest h := by
    unfold rList
    have hge := flat_ge' he l
    rw [enList, List.append_assoc, rCount_cpl (by rw [List.length_append]; omega) h.2]
    simp only
    rw [rAcc_cpl D l h.1 rest l.length (Nat.le_refl _)]
    simp
theorem Dec.pair {α β : Type} {f : RS → α × RS} {g : RS → β × RS} {ea : α → List Nat} {eb : β → List Nat} {oa : α → Prop} {ob : β → Prop} (F : Dec f ea oa) (G : Dec g eb ob) :
    Dec (fun s => (((f s).1, (g (f s).2).1), (g (f s).2).2)) (fun p => ea p.1 ++ eb p.2) (fun p => oa p.1 ∧ ob p.2) where
  snd b x b' hb h := by
    simp only [Prod.mk.injEq] at h
    obtain ⟨rfl, h2⟩ := h
    have h0 : (f (b, false)).2.2 = false := by
      cases h1 : (f (b, false)).2.2 with
      | false => rfl
      | true => have := G.mono _ h1; rw [h2] at this; cases this
    obtain ⟨p, hp⟩ := F.suf (b, false)
    have hb1 : BOk (f (b, false)).2.1 := suf_bok (F.suf (b, false)) hb
    generalize hq : f (b, false) = q at *
    obtain ⟨y, t, bad⟩ := q
    simp only at h0 h2 hb1 ⊢
    subst h0
    have h3 := F.snd b y t hb hq
    have h4 := G.snd t (g (t, false)).1 b' hb1 (by rw [← h2])
    rw [h3, List.append_assoc, ← h4]
  okr s hb := ⟨F.okr s hb, G.okr _ (suf_bok (F.suf s) hb)⟩
  suf s := by
    obtain ⟨p, h1⟩ := F.suf s
    obtain ⟨q, h2⟩ := G.suf (f s).2
    exact ⟨p ++ q, by rw [h1, h2, List.append_assoc]⟩
  mono s h := G.mono _ (F.mono s h)
  cpl x rest h := by
    simp only [List.append_assoc]
    rw [F.cpl x.1 _ h.1]
    simp only
    rw [G.cpl x.2 _ h.2]
def rInstr (s : RS) : SInstr × RS := (⟨(rNum s).1, (rNum (rNum s).2).1⟩, (rNum (rNum s).2).2)
theorem Dec.iso {α β : Type} {f : RS → α × RS} {ea : α → List Nat} {oa : α → Prop} (F : Dec f ea oa) (to : α → β) (fro : β → α) (h1 : ∀ x, fro (to x) = x) (h2 : ∀ y, to (fro y) = y) {eb : β → List Nat} (he : ∀ y, eb y = ea (fro y)) {ob : β → Prop} (ho : ∀ y, ob y ↔ oa (fro y)) :
    Dec (fun s => (to (f s).1, (f s).2)) eb ob where
  snd b x b' hb h := by
    simp only [Prod.mk.injEq] at h
    obtain ⟨rfl, h3⟩ := h
    rw [he, h1]
    exact F.snd b _ b' hb (by rw [← h3])
  okr s hb := by rw [ho, h1]; exact F.okr s hb
  suf s := F.suf s
  mono s h := F.mono s h
  cpl x rest h := by
    rw [he, F.cpl _ rest ((ho x).1 h)]
    simp only [h2]
theorem rInstr_dec : Dec rInstr enInstr SInstr.ok :=
  (rNum_dec.pair rNum_dec).iso (fun p => (⟨p.1, p.2⟩ : SInstr)) (fun i => (i.op, i.a)) (fun _ => rfl) (fun _ => rfl) (fun _ => rfl) (fun _ => Iff.rfl)
end Gv
namespace Gv
section
variable {α : Type} {f : RS → α × RS} {en : α → List Nat} {ok : α → Prop}
structure DecR {α : Type} (f : RS → α × RS) (en : α → List Nat) (ok : α → Prop) : Prop where
  okr : ∀ s, BOk s.1 → ok (f s).1
  suf : ∀ s, ∃ p, s.1 = p ++ (f s).2.1
  mono : ∀ s, s.2 = true → (f s).2.2 = true
  cpl : ∀ x rest, ok x → f (en x ++ rest, false) = (x, (rest, false))
theorem Dec.r (D : Dec f en ok) : DecR f en ok := ⟨D.okr, D.suf, D.mono, D.cpl⟩
end
end Gv
namespace Gv
end Gv

namespace Gv
open Go
theorem num_pos (n : Int) : 1 ≤ (number n).length := by
 show 1 ≤ (nb 10 (zz n)).length
 rw [nb]; split <;> simp
theorem instr_pos (i : SInstr) : 1 ≤ (enInstr i).length := by rw [enInstr, List.length_append]; have := num_pos i.op; omega
def rCode (s : RS) : List SInstr × RS := rList rInstr s
def rNums (s : RS) : List Int × RS := rList rNum s
def rHandler (s : RS) : SHandler × RS := (⟨(rNum s).1, (rCode (rNum s).2).1⟩, (rCode (rNum s).2).2)
def rFlag (s : RS) : Bool × RS := ((rNum s).1 == 1, ((rNum s).2.1, (rNum s).2.2 || ((rNum s).1 != 0 && (rNum s).1 != 1)))
def rActor (s : RS) : SActor × RS :=
 let a := rNums s; let b := rNum a.2; let c := rNum b.2; let d := rFlag c.2
 (⟨a.1, b.1, c.1, d.1⟩, d.2)
def rNote (s : RS) : SNote × RS :=
 let a := rNum s; let b := rNum a.2; let c := rNums b.2
 (⟨a.1, b.1, c.1⟩, c.2)
def rProg (s : RS) : SProg × RS :=
 let a := rList rHandler s; let b := rList rActor a.2; let c := rList rNote b.2; let d := rNum c.2
 (⟨a.1, b.1, c.1, d.1⟩, d.2)
def rBudget (s : RS) : SBudget × RS :=
 let a := rNum s; let b := rNum a.2; let c := rNum b.2; let d := rNum c.2
 (⟨a.1, b.1, c.1, d.1⟩, d.2)
def rLimits (s : RS) : SLimits × RS := (⟨(rNum s).1, (rNum (rNum s).2).1⟩, (rNum (rNum s).2).2)
def pairD {α β : Type} (f : RS → α × RS) (g : RS → β × RS) (s : RS) : (α × β) × RS := (((f s).1, (g (f s).2).1), (g (f s).2).2)
def toTask (p : SProg × List (List SInstr) × SBudget × SLimits) : STask := ⟨p.1, p.2.1, p.2.2.1, p.2.2.2⟩
def rTaskP : RS → (SProg × List (List SInstr) × SBudget × SLimits) × RS := pairD rProg (pairD (rList rCode) (pairD rBudget rLimits))
def rTask (s : RS) : STask × RS := (toTask (rTaskP s).1, (rTaskP s).2)
def okCode (l : List SInstr) : Prop := okLen SInstr.ok l
def okHandler (h : SHandler) : Prop := I64 h.args ∧ okCode h.code
def okActor (a : SActor) : Prop := okLen I64 a.regs ∧ I64 a.cap ∧ I64 a.timer
def okNote (n : SNote) : Prop := I64 n.to ∧ I64 n.handler ∧ okLen I64 n.args
def okProg (p : SProg) : Prop := okLen okHandler p.handlers ∧ okLen okActor p.actors ∧ okLen okNote p.boot ∧ I64 p.fuel
def okTask (t : STask) : Prop := okProg t.prog ∧ okLen okCode t.watch ∧ t.budget.ok ∧ t.limits.ok
theorem rCode_dec : Dec rCode enCode okCode := rList_dec rInstr_dec instr_pos
theorem rNums_dec : Dec rNums enNums (okLen I64) := rList_dec rNum_dec num_pos
theorem rHandler_dec : Dec rHandler enHandler okHandler :=
 (rNum_dec.pair rCode_dec).iso (fun p => (⟨p.1, p.2⟩ : SHandler)) (fun h => (h.args, h.code)) (fun _ => rfl) (fun _ => rfl) (fun _ => rfl) (fun _ => Iff.rfl)
theorem rFlag_dec : Dec rFlag (fun b => number (flagI b)) (fun _ => True) where
 snd b x b' hb h := by
  simp only [rFlag, Prod.mk.injEq, Bool.or_eq_false_iff] at h
  obtain ⟨h1, h2, h3, h4⟩ := h
  have := rNum_dec.snd b (rNum (b, false)).1 b' hb (Prod.ext rfl (Prod.ext h2 h3))
  have e : (rNum (b, false)).1 = flagI x := by
   generalize (rNum (b, false)).1 = n at *
   cases x
   ·simp only [beq_eq_false_iff_ne, ne_eq] at h1
    simp [h1] at h4
    simp [flagI, h4]
   ·simp only [beq_iff_eq] at h1
    simp [flagI, h1]
  rw [← e]; exact this
 okr _ _ := trivial
 suf s := rNum_dec.suf s
 mono s h := by simp only [rFlag, rNum_dec.mono s h, Bool.true_or]
 cpl x rest _ := by
  unfold rFlag
  rw [rNum_dec.cpl (flagI x) rest (by cases x <;> constructor <;> decide)]
  cases x <;> rfl
theorem rActor_dec : Dec rActor enActor okActor :=
 (rNums_dec.pair (rNum_dec.pair (rNum_dec.pair rFlag_dec))).iso (fun p => (⟨p.1, p.2.1, p.2.2.1, p.2.2.2⟩ : SActor)) (fun a => (a.regs, a.cap, a.timer, a.armed)) (fun _ => rfl) (fun _ => rfl)
  (fun a => by simp [enActor]) (fun a => ⟨fun ⟨x, y, z⟩ => ⟨x, y, z, trivial⟩, fun ⟨x, y, z, _⟩ => ⟨x, y, z⟩⟩)
theorem rNote_dec : Dec rNote enNote okNote :=
 (rNum_dec.pair (rNum_dec.pair rNums_dec)).iso (fun p => (⟨p.1, p.2.1, p.2.2⟩ : SNote)) (fun n => (n.to, n.handler, n.args)) (fun _ => rfl) (fun _ => rfl) (fun n => by simp [enNote]) (fun _ => Iff.rfl)
theorem handler_pos (h : SHandler) : 1 ≤ (enHandler h).length := by rw [enHandler, List.length_append]; have := num_pos h.args; omega
theorem actor_pos (a : SActor) : 1 ≤ (enActor a).length := by simp only [enActor, List.length_append]; have := num_pos a.cap; omega
theorem note_pos (n : SNote) : 1 ≤ (enNote n).length := by rw [enNote, List.length_append, List.length_append]; have := num_pos n.to; omega
theorem code_pos (l : List SInstr) : 1 ≤ (enCode l).length := by rw [enCode, List.length_append]; have := num_pos (l.length : Int); omega
theorem rProg_dec : Dec rProg enProg okProg :=
 ((rList_dec rHandler_dec handler_pos).pair ((rList_dec rActor_dec actor_pos).pair ((rList_dec rNote_dec note_pos).pair rNum_dec))).iso (fun p => (⟨p.1, p.2.1, p.2.2.1, p.2.2.2⟩ : SProg)) (fun p => (p.handlers, p.actors, p.boot, p.fuel)) (fun _ => rfl) (fun _ => rfl)
  (fun p => by simp [enProg, enList]) (fun _ => Iff.rfl)
theorem rBudget_dec : Dec rBudget (fun b => number b.drop ++ (number b.dup ++ (number b.time ++ number b.crash))) SBudget.ok :=
 (rNum_dec.pair (rNum_dec.pair (rNum_dec.pair rNum_dec))).iso (fun p => (⟨p.1, p.2.1, p.2.2.1, p.2.2.2⟩ : SBudget)) (fun b => (b.drop, b.dup, b.time, b.crash)) (fun _ => rfl) (fun _ => rfl) (fun _ => rfl) (fun _ => Iff.rfl)
theorem rLimits_dec : Dec rLimits (fun c => number c.depth ++ number c.runs) SLimits.ok :=
 (rNum_dec.pair rNum_dec).iso (fun p => (⟨p.1, p.2⟩ : SLimits)) (fun c => (c.depth, c.runs)) (fun _ => rfl) (fun _ => rfl) (fun _ => rfl) (fun _ => Iff.rfl)
def enBody (t : STask) : List Nat := enProg t.prog ++ (enList enCode t.watch ++ ((number t.budget.drop ++ (number t.budget.dup ++ (number t.budget.time ++ number t.budget.crash))) ++ (number t.limits.depth ++ number t.limits.runs)))
theorem enTask_body (t : STask) : enTask t = enSign ++ enBody t := by simp [enTask, enBody, enList, enN]
theorem rTaskP_dec : Dec rTaskP (fun p => enProg p.1 ++ (enList enCode p.2.1 ++ ((number p.2.2.1.drop ++ (number p.2.2.1.dup ++ (number p.2.2.1.time ++ number p.2.2.1.crash))) ++ (number p.2.2.2.depth ++ number p.2.2.2.runs)))) (fun p => okProg p.1 ∧ okLen okCode p.2.1 ∧ p.2.2.1.ok ∧ p.2.2.2.ok) :=
 rProg_dec.pair ((rList_dec rCode_dec code_pos).pair (rBudget_dec.pair rLimits_dec))
theorem rTask_dec : Dec rTask enBody okTask :=
 rTaskP_dec.iso toTask (fun t => (t.prog, t.watch, t.budget, t.limits)) (fun _ => rfl) (fun _ => rfl) (fun _ => rfl) (fun _ => Iff.rfl)
def decTask (b : List Nat) : Option STask := if b.take 4 = enSign then (if (rTask (b.drop 4, false)).2 = ([], false) then some (rTask (b.drop 4, false)).1 else none) else none
theorem decTask_iff {b : List Nat} (hb : BOk b) {t : STask} : decTask b = some t ↔ enTask t = b ∧ okTask t := by
 unfold decTask
 constructor
 ·intro h
  split at h
  ·rename_i hs
   have hbd : BOk (b.drop 4) := ⟨fun x hx => hb.1 x (List.mem_of_mem_drop hx), by rw [List.length_drop]; have := hb.2; omega⟩
   have hok := rTask_dec.okr (b.drop 4, false) hbd
   have hsn := rTask_dec.snd (b.drop 4)
   generalize rTask (b.drop 4, false) = q at h hok hsn
   obtain ⟨x, r⟩ := q
   simp only at h hok
   split at h
   ·rename_i hc
    subst hc
    cases h
    have h1 := hsn _ _ hbd rfl
    rw [List.append_nil] at h1
    refine ⟨?_, hok⟩
    rw [enTask_body, ← h1, ← hs, List.take_append_drop]
   ·cases h
  ·cases h
 ·rintro ⟨rfl, h⟩
  have h1 := rTask_dec.cpl t [] h
  rw [List.append_nil] at h1
  have e1 : (enTask t).take 4 = enSign := by rw [enTask_body]; rfl
  have e2 : (enTask t).drop 4 = enBody t := by rw [enTask_body]; rfl
  rw [e1, if_pos rfl, e2, h1]
  simp
theorem DecR.pair {α β : Type} {f : RS → α × RS} {g : RS → β × RS} {ea : α → List Nat} {eb : β → List Nat} {oa : α → Prop} {ob : β → Prop} (F : DecR f ea oa) (G : DecR g eb ob) :
  DecR (fun s => (((f s).1, (g (f s).2).1), (g (f s).2).2)) (fun p => ea p.1 ++ eb p.2) (fun p => oa p.1 ∧ ob p.2) where
 okr s hb := ⟨F.okr s hb, G.okr _ (suf_bok (F.suf s) hb)⟩
 suf s := by
  obtain ⟨p, h1⟩ := F.suf s
  obtain ⟨q, h2⟩ := G.suf (f s).2
  exact ⟨p ++ q, by rw [h1, h2, List.append_assoc]⟩
 mono s h := G.mono _ (F.mono s h)
 cpl x rest h := by
  simp only [List.append_assoc]
  rw [F.cpl x.1 _ h.1]
  simp only
  rw [G.cpl x.2 _ h.2]
theorem DecR.iso {α β : Type} {f : RS → α × RS} {ea : α → List Nat} {oa : α → Prop} (F : DecR f ea oa) (to : α → β) (fro : β → α) (h1 : ∀ x, fro (to x) = x) (h2 : ∀ y, to (fro y) = y) {eb : β → List Nat} (he : ∀ y, eb y = ea (fro y)) {ob : β → Prop} (ho : ∀ y, ob y ↔ oa (fro y)) :
  DecR (fun s => (to (f s).1, (f s).2)) eb ob where
 okr s hb := by rw [ho, h1]; exact F.okr s hb
 suf s := F.suf s
 mono s h := F.mono s h
 cpl x rest h := by
  rw [he, F.cpl _ rest ((ho x).1 h)]
  simp only [h2]
end Gv
