/- What this file proves: one part of the proof that the law answers true for every input, by an interpreter that is proved sound against the given model. -/
import Derived.Test.YtkjefeclbdjkcaaVw
import Derived.Test.YtkjefeclbdjkcaaWp
import Derived.Test.YtkjefeclbdjkcaaVc
namespace Gv
open Go
theorem sized_bytes (l : List Nat) : sized 1 (bytesV l) = true := by
 induction l with
 | nil => rfl
 | cons x l ih =>
  show (1 == 1 && sized 1 (bytesV l)) = true
  rw [ih]; rfl
theorem bytesV_len (l : List Nat) : (bytesV l).length = l.length := by simp [bytesV]
theorem bytesV_app (l m : List Nat) : bytesV l ++ bytesV m = bytesV (l ++ m) := by simp [bytesV]
theorem app_bytes {l m : List Nat} (h : l.length + m.length < 2147483648) : appV 1 (.lst (bytesV l) false) (.lst (bytesV m) false) = some (.lst (bytesV (l ++ m)) false) := by
 have hc : sized 1 (bytesV m) = true ∧ (bytesV l).length + (bytesV m).length < maxNew := ⟨sized_bytes m, by rw [bytesV_len, bytesV_len]; exact h⟩
 simp only [appV]
 rw [if_pos hc, bytesV_app]
theorem app_byte {l : List Nat} {n : Nat} {x : Int} (hx : x = n) (h : l.length + 1 < 2147483648) : appV 1 (.lst (bytesV l) false) (.lst [.int .u8 x] false) = some (.lst (bytesV (l ++ [n])) false) := by
 subst hx
 exact app_bytes (m := [n]) h
theorem u8_small {u : Nat} (h : u < 256) : IntKind.u8.wrap (u : Int) = u := by
 unfold IntKind.wrap
 simp [IntKind.signed, IntKind.bits]
 omega
theorem number_step {C : CallV} {V : Nat → List PV → List PV → Bool} {u : Nat} {os : List Nat} {env : Env} (h2 : env 2 = .lst (bytesV os) false) (h3 : env 3 = .int .u64 u) (hu : u < 18446744073709551616) (ho : os.length < 1000) :
  den C V v_wire_Number_L1 env = some (if 128 ≤ u then .norm ((env.set 2 (.lst (bytesV (os ++ [u % 128 + 128])) false)).set 3 (.int .u64 (u / 128 : Nat))) else .exit 0 env) := by
 by_cases hc : 128 ≤ u
 ·have hi : (128 : Int) ≤ u := by omega
  have hb := or128 (u := u)
  have h9 : binI .shr .u64 (u : Int) .u64 7 = some (.int .u64 ((u / 128 : Nat) : Int)) := by
   have h9 := shr7 (u := u) hu
   simp only [binI, IntKind.bits] at h9 ⊢
   rw [if_neg (by decide), h9]
  have h10 : binI .geq .u64 (u : Int) .u64 128 = some (.bool true) := by simp [binI, hi]
  have ha := app_byte (l := os) (n := u % 128 + 128) rfl (by omega)
  simp only [v_wire_Number_L1, den, runVS, VS.run, allGood, X.ev, h2, h3, obind_some, bin, hb, h10, bindAll, Option.isSome_some, Bool.true_and, if_true, toIntV, listOf, ha, hc, Env.set]
  simp [h9]
 ·have hi : ¬ (128 : Int) ≤ u := by omega
  have h10 : binI .geq .u64 (u : Int) .u64 128 = some (.bool false) := by simp [binI, hi]
  simp only [v_wire_Number_L1, den, runVS, VS.run, allGood, X.ev, h3, obind_some, bin, h10, bindAll, Option.isSome_some, Bool.true_and, if_true, hc, if_false]
theorem number_loop {C : CallV} {V : Nat → List PV → List PV → Bool} : ∀ (k j : Nat) {u : Nat} {os : List Nat} {env : Env}, env 2 = .lst (bytesV os) false → env 3 = .int .u64 u → u < 18446744073709551616 → u < 128 ^ (k + 1) → os.length + k < 1000 →
  ∃ env' l us, loopN (den C V v_wire_Number_L1) (k + 1 + j) env = some (.exit 0 env') ∧ env' 2 = .lst (bytesV (os ++ l)) false ∧ env' 3 = .int .u64 (us : Nat) ∧ us < 128 ∧ l.length ≤ k ∧ nb (k + 1) u = l ++ [us]
 | 0, j, u, os, env, h2, h3, hu, hk, ho => by
  have hc : ¬ 128 ≤ u := by omega
  refine ⟨env, [], u, ?_, by simpa using h2, h3, by omega, by simp, by simp [nb, hc]⟩
  rw [show 0 + 1 + j = j + 1 by omega]
  simp only [loopN, number_step h2 h3 hu (by omega), hc, if_false]
 | k + 1, j, u, os, env, h2, h3, hu, hk, ho => by
  have hs := number_step (C := C) (V := V) h2 h3 hu (by omega)
  rw [show k + 1 + 1 + j = (k + 1 + j) + 1 by omega]
  by_cases hc : 128 ≤ u
  ·rw [if_pos hc] at hs
   have hd : u / 128 < 128 ^ (k + 1) := by
    rw [Nat.div_lt_iff_lt_mul (by decide)]
    have : 128 ^ (k + 1 + 1) = 128 ^ (k + 1) * 128 := Nat.pow_succ ..
    omega
   obtain ⟨env', l, us, e1, e2, e3, e4, e5, e6⟩ := number_loop (C := C) (V := V) k j (u := u / 128) (os := os ++ [u % 128 + 128]) (env := (env.set 2 (.lst (bytesV (os ++ [u % 128 + 128])) false)).set 3 (.int .u64 (u / 128 : Nat))) (by simp) (by simp) (by omega) hd (by simp; omega)
   refine ⟨env', (u % 128 + 128) :: l, us, ?_, by simpa using e2, e3, e4, by simpa using e5, ?_⟩
   ·simp only [loopN, hs]
    exact e1
   ·rw [nb, if_pos hc, e6]; rfl
  ·rw [if_neg hc] at hs
   refine ⟨env, [], u, ?_, by simpa using h2, h3, by omega, by simp, by simp [nb, hc]⟩
   simp only [loopN, hs]
theorem number_V {m : Nat} {n : Int} (h1 : -9223372036854775808 ≤ n) (h2 : n ≤ 9223372036854775807) : callV tVT (m + 1) 11 [.int .i64 n] = some (.lst (bytesV (number n)) false, []) := by
 have hl := zz_lt h1 h2
 have e1 := zz_shl h1 h2
 have e2 := zz_shr h1 h2
 have e3 := zz_xor h1 h2
 have hF : tVT 11 = some v_wire_Number := rfl
 simp only [callV, hF]
 simp only [v_wire_Number, bindAll, obind_some, den, runVS, VS.run, allGood, X.ev, listOf, toIntV, Env.set, Env.ofArgs, List.getElem?_cons_zero, Option.getD_some, bin, if_true]
 simp [e1, e2, e3]
 obtain ⟨env', l, us, f1, f2, f3, f4, f5, f6⟩ := number_loop (C := callV tVT m) (V := vTab tVT) 9 (bigN - 10) (u := zz n) (os := []) (env := ((Env.ofArgs [PV.int IntKind.i64 n]).set 2 (PV.lst [] false)).set 3 (PV.int IntKind.u64 ↑(zz n))) (by simp [bytesV]) (by simp) hl (by omega) (by simp)
 rw [show bigN = 9 + 1 + (bigN - 10) from rfl, f1]
 have ha := app_byte (l := l) (n := us) rfl (by omega)
 have hw : IntKind.u8.wrap (us : Int) = us := u8_small (by omega)
 simp [f2, f3, hw, ha, evAll]
 rw [number, f6]
end Gv

namespace Gv
open Go
end Gv

namespace Gv
open Go
theorem andNot128n : ∀ m : Nat, m < 256 → (BitVec.ofInt 64 (m : Int) &&& ~~~ BitVec.ofInt 64 128).toNat = m % 128 := by decide +kernel
theorem andNot128 {c : Nat} (h : c < 256) : binI .andNot .u64 (c : Int) .u64 128 = some (.int .u64 ((c % 128 : Nat) : Int)) := by
 show some (PV.int .u64 (IntKind.u64.wrap ((BitVec.ofInt 64 (c : Int) &&& ~~~ BitVec.ofInt 64 128).toNat : Int))) = _
 rw [andNot128n c h, u64_of]
 congr 2; omega
theorem or_u64 {a b : Nat} (ha : a < 18446744073709551616) (hb : b < 18446744073709551616) : binI .or .u64 (a : Int) .u64 (b : Int) = some (.int .u64 ((a ||| b : Nat) : Int)) := by
 show some (PV.int .u64 (IntKind.u64.wrap ((BitVec.ofInt 64 (a : Int) ||| BitVec.ofInt 64 (b : Int)).toNat : Int))) = _
 have e1 : (BitVec.ofInt 64 (a : Int)).toNat = a := by rw [BitVec.toNat_ofInt]; omega
 have e2 : (BitVec.ofInt 64 (b : Int)).toNat = b := by rw [BitVec.toNat_ofInt]; omega
 rw [BitVec.toNat_or, e1, e2, u64_of]
 have : a ||| b < 2 ^ 64 := Nat.or_lt_two_pow (by omega) (by omega)
 congr 2; omega
theorem or_add {u x i : Nat} (hu : u < 128 ^ i) : u ||| x * 128 ^ i = u + x * 128 ^ i := by
 have e : 128 ^ i = 2 ^ (7 * i) := by rw [Nat.pow_mul]
 rw [e] at hu ⊢
 have := Nat.two_pow_add_eq_or_of_lt hu x
 rw [Nat.mul_comm, Nat.or_comm, ← this, Nat.add_comm]
theorem shl_u64 {x i : Nat} (h : i < 10) : binI .shl .u64 (x : Int) .i64 ((7 * i : Nat) : Int) = some (.int .u64 ((x * 128 ^ i % 18446744073709551616 : Nat) : Int)) := by
 simp only [binI]
 rw [if_neg (by omega)]
 have e : (2 : Int) ^ (min ((7 * i : Nat) : Int).toNat IntKind.u64.bits) = ((128 ^ i : Nat) : Int) := by
  have : min ((7 * i : Nat) : Int).toNat IntKind.u64.bits = 7 * i := by
   simp only [Int.toNat_natCast, IntKind.bits]; omega
  rw [this, Nat.pow_mul' 2 i 7 |> fun _ => (show (128 : Nat) ^ i = 2 ^ (7 * i) by rw [Nat.pow_mul])]
  simp
 rw [e, u64_of]
 congr 2
theorem shr1_u64 {u : Nat} : binI .shr .u64 (u : Int) .u64 1 = some (.int .u64 ((u / 2 : Nat) : Int)) := by
 simp only [binI]
 rw [if_neg (by decide)]
 have e : (2 : Int) ^ (min (1 : Int).toNat IntKind.u64.bits) = 2 := by decide
 rw [e, Int.fdiv_eq_ediv_of_nonneg _ (by decide)]
 congr 2
theorem shr1_u64' {u : Nat} : binI .shr .u64 (u : Int) .i64 1 = some (.int .u64 ((u / 2 : Nat) : Int)) := shr1_u64
theorem and1_u64 {u : Nat} (h : u < 18446744073709551616) : binI .and .u64 (u : Int) .u64 1 = some (.int .u64 ((u % 2 : Nat) : Int)) := by
 show some (PV.int .u64 (IntKind.u64.wrap ((BitVec.ofInt 64 (u : Int) &&& BitVec.ofInt 64 1).toNat : Int))) = _
 have e1 : (BitVec.ofInt 64 (u : Int)).toNat = u := by rw [BitVec.toNat_ofInt]; omega
 have e2 : (BitVec.ofInt 64 (1 : Int)).toNat = 1 := by decide
 rw [BitVec.toNat_and, e1, e2, Nat.and_one_is_mod, u64_of]
 congr 2; omega
theorem xor_sign {u : Nat} (h : u < 18446744073709551616) : binI .xor .i64 ((u / 2 : Nat) : Int) .i64 (IntKind.i64.wrap (0 - ((u % 2 : Nat) : Int))) = some (.int .i64 (unzz u)) := by
 show some (PV.int .i64 (IntKind.i64.wrap ((BitVec.ofInt 64 ((u / 2 : Nat) : Int) ^^^ BitVec.ofInt 64 (IntKind.i64.wrap (0 - ((u % 2 : Nat) : Int)))).toNat : Int))) = _
 have ew : IntKind.i64.wrap (0 - ((u % 2 : Nat) : Int)) = 0 - ((u % 2 : Nat) : Int) := i64_of (by omega) (by omega)
 rw [ew]
 have e1 : (BitVec.ofInt 64 ((u / 2 : Nat) : Int)).toNat = u / 2 := by rw [BitVec.toNat_ofInt]; omega
 unfold unzz
 by_cases hu : u % 2 = 0
 ·rw [if_pos hu, hu]
  have e : BitVec.ofInt 64 (0 - ((0 : Nat) : Int)) = 0#64 := by decide
  rw [e, BitVec.xor_zero, e1, i64_of (by omega) (by omega)]
 ·rw [if_neg hu, show u % 2 = 1 by omega]
  have e : BitVec.ofInt 64 (0 - ((1 : Nat) : Int)) = BitVec.allOnes 64 := by decide
  rw [e, BitVec.xor_allOnes, BitVec.toNat_not, e1]
  congr 2
  rw [IntKind.wrap_i64]
  omega
theorem ia_byte {b : List Nat} {i c : Nat} (h : b[i]? = some c) : indexAddrPV 1 (.lst (bytesV b) false) (.int .i64 i) = some (.lptr [.int .u8 c]) := by
 have h2 : (bytesV b)[i]? = some (.int .u8 c) := by simp [bytesV, h]
 have hi : i < b.length := by
  rcases Nat.lt_or_ge i b.length with h' | h'
  ·exact h'
  ·rw [List.getElem?_eq_none h'] at h; cases h
 simp only [indexAddrPV, bytesV_len, Int.toNat_natCast, h2]
 rw [if_pos ⟨by omega, by omega⟩]
 rfl
theorem ld_byte {c : Int} : ldV none 0 (.lptr [.int .u8 c]) = some (.int .u8 c) := rfl
def noneT : PV := .tup [.int .i64 0, .int .i64 0, .int .i64 2]
def someT (u k : Nat) : PV := .tup [.int .i64 (unzz u), .int .i64 k, .int .i64 0]
structure TakeSt (b : List Nat) (i u : Nat) (env : Env) : Prop where
 l : env 10 = .lst (bytesV b) false
 n : env 11 = .int .i64 b.length
 i : env 12 = .int .i64 i
 u : env 5 = .int .u64 u
theorem take_bad {C : CallV} {V : Nat → List PV → List PV → Bool} {b : List Nat} {i u c : Nat} {env : Env} (S : TakeSt b i u env) (hi : b[i]? = some c) (hc : c < 256) (hl : b.length < 2147483648) (hbad : 10 ≤ i ∨ (i = 9 ∧ 2 ≤ c % 128) ∨ (c = 0 ∧ 0 < i)) :
  den C V v_wire_Take_L1 env = some (.ret noneT []) := by
 obtain ⟨s1, s2, s3, s4⟩ := S
 have hil : i < b.length := by
  rcases Nat.lt_or_ge i b.length with h' | h'
  ·exact h'
  ·rw [List.getElem?_eq_none h'] at hi; cases hi
 have f1 : binI .lss .i64 (i : Int) .i64 (b.length : Int) = some (.bool true) := by simp [binI, hil]
 have f2 := ia_byte hi
 have f3 := andNot128 hc
 have fw : IntKind.u64.wrap (c : Int) = c := by rw [u64_of]; omega
 have f4 : binI .mul .i64 7 .i64 (i : Int) = some (.int .i64 (7 * i : Nat)) := by
  simp only [binI]; rw [i64_of (by omega) (by omega)]; simp
 by_cases h10 : 10 ≤ i
 ·have f5 : binI .geq .i64 ((7 * i : Nat) : Int) .i64 64 = some (.bool true) := by simp only [binI]; rw [if_neg (by decide)]; congr 2; simp; omega
  rw [v_wire_Take_L1]
  simp only [den, runVS, VS.run, allGood, bindAll, evAll, X.ev, obind_some, Option.isSome_some, Bool.and_true, ↓reduceIte, Env.set_at, Nat.reduceEqDiff, listOf, toIntV, bin, s1, s2, s3, f1, f2, ld_byte, fw, f3, f4, f5]
  rfl
 ·have f5 : binI .geq .i64 ((7 * i : Nat) : Int) .i64 64 = some (.bool false) := by simp only [binI]; rw [if_neg (by decide)]; congr 2; simp; omega
  have f6 : binI .add .i64 ((7 * i : Nat) : Int) .i64 7 = some (.int .i64 (7 * i + 7 : Nat)) := by
   simp only [binI]; rw [i64_of (by omega) (by omega)]; simp
  by_cases h9 : i = 9
  ·subst h9
   have f7 : binI .gtr .i64 ((7 * 9 + 7 : Nat) : Int) .i64 64 = some (.bool true) := by rfl
   have f8 : binI .sub .i64 64 .i64 ((7 * 9 : Nat) : Int) = some (.int .i64 1) := by rfl
   have f9 := shr1_u64' (u := c % 128)
   by_cases h2 : 2 ≤ c % 128
   ·have f10 : binI .neq .u64 ((c % 128 / 2 : Nat) : Int) .u64 0 = some (.bool true) := by simp only [binI]; rw [if_neg (by decide)]; congr 2; simp; omega
    rw [v_wire_Take_L1]
    simp only [den, runVS, VS.run, allGood, bindAll, evAll, X.ev, obind_some, Option.isSome_some, Bool.and_true, ↓reduceIte, Env.set_at, Nat.reduceEqDiff, listOf, toIntV, bin, s1, s2, s3, f1, f2, ld_byte, fw, f3, f4, f5, f6, f7, f8, f9, f10]
    rfl
   ·have h0 : c = 0 := by omega
    subst h0
    have f10 : binI .neq .u64 ((0 % 128 / 2 : Nat) : Int) .u64 0 = some (.bool false) := by rfl
    have f11 : binI .eql .u8 ((0 : Nat) : Int) .u8 0 = some (.bool true) := by rfl
    have f12 : binI .gtr .i64 ((9 : Nat) : Int) .i64 0 = some (.bool true) := by rfl
    rw [v_wire_Take_L1]
    simp only [den, runVS, VS.run, allGood, bindAll, evAll, X.ev, obind_some, Option.isSome_some, Bool.and_true, ↓reduceIte, Env.set_at, Nat.reduceEqDiff, listOf, toIntV, bin, s1, s2, s3, f1, f2, ld_byte, fw, f3, f4, f5, f6, f7, f8, f9, f10, f11, f12]
    rfl
  ·have f7 : binI .gtr .i64 ((7 * i + 7 : Nat) : Int) .i64 64 = some (.bool false) := by simp only [binI]; rw [if_neg (by decide)]; congr 2; simp; omega
   have h0 : c = 0 ∧ 0 < i := by omega
   obtain ⟨rfl, hp⟩ := h0
   have f11 : binI .eql .u8 ((0 : Nat) : Int) .u8 0 = some (.bool true) := by rfl
   have f12 : binI .gtr .i64 (i : Int) .i64 0 = some (.bool true) := by simp only [binI]; rw [if_neg (by decide)]; congr 2; simp; omega
   rw [v_wire_Take_L1]
   simp only [den, runVS, VS.run, allGood, bindAll, evAll, X.ev, obind_some, Option.isSome_some, Bool.and_true, ↓reduceIte, Env.set_at, Nat.reduceEqDiff, listOf, toIntV, bin, Bool.false_eq_true, s1, s2, s3, f1, f2, ld_byte, fw, f3, f4, f5, f6, f7, f11, f12]
   rfl
theorem lt128 {c : Nat} (h : c < 128) : binI .lss .u8 (c : Int) .u8 128 = some (.bool true) := by
 have h2 : (c : Int) < 128 := by omega
 simp [binI, h2]
theorem nlt128 {c : Nat} (h : ¬ c < 128) : binI .lss .u8 (c : Int) .u8 128 = some (.bool false) := by
 have h2 : ¬ (c : Int) < 128 := by omega
 simp [binI, h2]
theorem take_good {C : CallV} {V : Nat → List PV → List PV → Bool} {b : List Nat} {i u c : Nat} {env : Env} (S : TakeSt b i u env) (hi : b[i]? = some c) (hc : c < 256) (hl : b.length < 2147483648) (hgood : ¬ (10 ≤ i ∨ (i = 9 ∧ 2 ≤ c % 128) ∨ (c = 0 ∧ 0 < i))) (hu : u < 128 ^ i) (hu' : u + c % 128 * 128 ^ i < 18446744073709551616) :
  ∃ env', den C V v_wire_Take_L1 env = some (if c < 128 then .ret (someT (u + c % 128 * 128 ^ i) (i + 1)) [] else .norm env') ∧ TakeSt b (i + 1) (u + c % 128 * 128 ^ i) env' := by
 obtain ⟨s1, s2, s3, s4⟩ := S
 have hil : i < b.length := by
  rcases Nat.lt_or_ge i b.length with h' | h'
  ·exact h'
  ·rw [List.getElem?_eq_none h'] at hi; cases hi
 have f1 : binI .lss .i64 (i : Int) .i64 (b.length : Int) = some (.bool true) := by simp [binI, hil]
 have f2 := ia_byte hi
 have f3 := andNot128 hc
 have fw : IntKind.u64.wrap (c : Int) = c := by rw [u64_of]; omega
 have f4 : binI .mul .i64 7 .i64 (i : Int) = some (.int .i64 (7 * i : Nat)) := by
  simp only [binI]; rw [i64_of (by omega) (by omega)]; simp
 have f5 : binI .geq .i64 ((7 * i : Nat) : Int) .i64 64 = some (.bool false) := by simp only [binI]; rw [if_neg (by decide)]; congr 2; simp; omega
 have f6 : binI .add .i64 ((7 * i : Nat) : Int) .i64 7 = some (.int .i64 (7 * i + 7 : Nat)) := by
  simp only [binI]; rw [i64_of (by omega) (by omega)]; simp
 have fs := shl_u64 (x := c % 128) (i := i) (by omega)
 rw [Nat.mod_eq_of_lt (show c % 128 * 128 ^ i < 18446744073709551616 by omega)] at fs
 have fo := or_u64 (a := u) (b := c % 128 * 128 ^ i) (by omega) (by omega)
 rw [or_add hu] at fo
 have fi : binI .add .i64 (i : Int) .i64 1 = some (.int .i64 (i + 1 : Nat)) := by
  simp only [binI]; rw [i64_of (by omega) (by omega)]; simp
 -- what is not bad
 have hcz : ∃ x y, binI .eql .u8 (c : Int) .u8 0 = some (.bool x) ∧ binI .gtr .i64 (i : Int) .i64 0 = some (.bool y) ∧ (x && y) = false := by
  refine ⟨_, _, rfl, rfl, ?_⟩
  simp
  omega
 obtain ⟨x, y, g1, g2, g3⟩ := hcz
 have hsh : ∃ w s q r, binI .gtr .i64 ((7 * i + 7 : Nat) : Int) .i64 64 = some (.bool w) ∧ binI .sub .i64 64 .i64 ((7 * i : Nat) : Int) = some (.int .i64 s) ∧ binI .shr .u64 ((c % 128 : Nat) : Int) .i64 s = some (.int .u64 q) ∧ binI .neq .u64 q .u64 0 = some (.bool r) ∧ (w && r) = false := by
  by_cases h9 : i = 9
  ·subst h9
   exact ⟨true, 1, (c % 128 / 2 : Nat), false, rfl, rfl, shr1_u64', by simp only [binI]; rw [if_neg (by decide)]; congr 2; simp; omega, rfl⟩
  ·refine ⟨false, 64 - (7 * i : Nat), ((c % 128 : Nat) : Int).fdiv (2 ^ (min (64 - ((7 * i : Nat) : Int)).toNat IntKind.u64.bits)), _, by simp only [binI]; rw [if_neg (by decide)]; congr 2; simp; omega, by simp only [binI]; rw [i64_of (by omega) (by omega)]; rfl, ?_, rfl, rfl⟩
   simp only [binI]
   rw [if_neg (by omega)]
 obtain ⟨w, s, q, r, k1, k2, k3, k4, k5⟩ := hsh
 have e1 := shr1_u64 (u := u + c % 128 * 128 ^ i)
 have e2 := and1_u64 hu'
 have e3 := xor_sign hu'
 have ew1 : IntKind.i64.wrap (((u + c % 128 * 128 ^ i) / 2 : Nat) : Int) = (((u + c % 128 * 128 ^ i) / 2 : Nat) : Int) := i64_of (by omega) (by omega)
 have ew2 : IntKind.i64.wrap (((u + c % 128 * 128 ^ i) % 2 : Nat) : Int) = (((u + c % 128 * 128 ^ i) % 2 : Nat) : Int) := i64_of (by omega) (by omega)
 have nx : binI .add .i64 (i : Int) .i64 1 = some (.int .i64 (i + 1 : Nat)) := fi
 by_cases hlt : c < 128
 ·have f8 := lt128 hlt
  refine ⟨(env.set 12 (.int .i64 (i + 1 : Nat))).set 5 (.int .u64 (u + c % 128 * 128 ^ i : Nat)), ?_, ⟨s1, s2, rfl, rfl⟩⟩
  rw [if_pos hlt, v_wire_Take_L1]
  cases w <;> cases r <;> (try (simp at k5; done)) <;> cases x <;> cases y <;> (try (simp at g3; done)) <;>
   (simp only [den, runVS, VS.run, allGood, bindAll, evAll, X.ev, obind_some, Option.isSome_some, Bool.and_true, ↓reduceIte, Env.set_at, Nat.reduceEqDiff, listOf, toIntV, bin, Bool.false_eq_true, s1, s2, s3, s4, f1, f2, ld_byte, fw, f3, f4, f5, f6, k1, k2, k3, k4, g1, g2, fs, fo, f8, fi, e1, e2, e3, ew1, ew2, un]; rfl)
 ·have f8 := nlt128 hlt
  rw [v_wire_Take_L1]
  simp only [if_neg hlt]
  cases w <;> cases r <;> (try (simp at k5; done)) <;> cases x <;> cases y <;> (try (simp at g3; done)) <;>
   (refine ⟨_, by simp only [den, runVS, VS.run, allGood, bindAll, X.ev, obind_some, Option.isSome_some, Bool.and_true, ↓reduceIte, Env.set_at, Nat.reduceEqDiff, toIntV, bin, Bool.false_eq_true, s1, s2, s3, s4, f1, f2, ld_byte, fw, f3, f4, f5, f6, k1, k2, k3, k4, g1, g2, fs, fo, f8, fi]; rfl, ?_⟩; exact ⟨s1, s2, rfl, rfl⟩)
theorem take_loop {C : CallV} {V : Nat → List PV → List PV → Bool} {b : List Nat} (hb : ∀ x ∈ b, x < 256) (hl : b.length < 2147483648) : ∀ (rest pre : List Nat) (u : Nat) (j : Nat) {env : Env}, b = pre ++ rest → TakeSt b pre.length u env → u < 128 ^ pre.length →
  (∃ env', takeW rest pre.length u = none ∧ loopN (den C V v_wire_Take_L1) (rest.length + 1 + j) env = some (.exit 0 env')) ∨ (∃ r, loopN (den C V v_wire_Take_L1) (rest.length + 1 + j) env = some (.ret r []) ∧ r = match takeW rest pre.length u with | some (v, k) => someT v k | none => noneT)
 | [], pre, u, j, env, hp, S, hu => by
  left
  refine ⟨env, rfl, ?_⟩
  obtain ⟨s1, s2, s3, s4⟩ := S
  have hn : b.length = pre.length := by rw [hp]; simp
  have f1 : binI .lss .i64 (pre.length : Int) .i64 (b.length : Int) = some (.bool false) := by simp [binI, hn]
  rw [show ([] : List Nat).length + 1 + j = j + 1 by simp; omega]
  simp only [loopN]
  rw [v_wire_Take_L1]
  simp only [den, runVS, VS.run, allGood, bindAll, X.ev, obind_some, Option.isSome_some, Bool.and_true, ↓reduceIte, bin, s2, s3, f1]
 | c :: cs, pre, u, j, env, hp, S, hu => by
  have hi : b[pre.length]? = some c := by rw [hp]; simp
  have hc : c < 256 := hb c (by rw [hp]; simp)
  rw [show (c :: cs).length + 1 + j = (cs.length + 1 + j) + 1 by simp; omega]
  simp only [loopN, takeW]
  by_cases hbad : 10 ≤ pre.length ∨ (pre.length = 9 ∧ 2 ≤ c % 128) ∨ (c = 0 ∧ 0 < pre.length)
  ·right
   rw [take_bad S hi hc hl hbad, if_pos hbad]
   exact ⟨_, rfl, rfl⟩
  ·rw [if_neg hbad]
   have hlt : u + c % 128 * 128 ^ pre.length < 128 ^ (pre.length + 1) := by
    have : c % 128 * 128 ^ pre.length ≤ 127 * 128 ^ pre.length := Nat.mul_le_mul_right _ (by omega)
    rw [Nat.pow_succ]; omega
   have h64 : u + c % 128 * 128 ^ pre.length < 18446744073709551616 := by
    by_cases h9 : pre.length = 9
    ·have h2 : c % 128 < 2 := by omega
     rw [h9] at hu ⊢
     have : c % 128 * 128 ^ 9 ≤ 1 * 128 ^ 9 := Nat.mul_le_mul_right _ (by omega)
     omega
    ·have := pow9 (i := pre.length) (by omega); omega
   obtain ⟨env', h1, h2⟩ := take_good (C := C) (V := V) S hi hc hl hbad hu h64
   rw [h1]
   by_cases hc8 : c < 128
   ·right
    rw [if_pos hc8, if_pos hc8]
    exact ⟨_, rfl, rfl⟩
   ·rw [if_neg hc8, if_neg hc8]
    simp only
    have ih := take_loop (C := C) (V := V) hb hl cs (pre ++ [c]) _ j (env := env') (by rw [hp]; simp) (by simpa using h2) (by simpa using hlt)
    simpa using ih
def outT (x : Option (Nat × Nat)) : PV := match x with | some (v, k) => someT v k | none => noneT
theorem take_V {m : Nat} {b : List Nat} (hb : ∀ x ∈ b, x < 256) (hl : b.length < 2147483648) : callV tVT (m + 1) 12 [.lst (bytesV b) false] = some (outT (takeW b 0 0), []) := by
 refine callV_of (F := v_wire_Take) rfl rfl rfl ?_ (.inr ?_)
 ·generalize callV tVT m = C
  generalize vTab tVT = V
  have S : TakeSt b 0 0 (((((Env.ofArgs [PV.lst (bytesV b) false]).set 5 (.int .u64 0)).set 12 (.int .i64 0)).set 11 (.int .i64 b.length)).set 10 (.lst (bytesV b) false)) := ⟨rfl, rfl, rfl, rfl⟩
  have hbig : b.length + 1 + (bigN - (b.length + 1)) = bigN := by unfold bigN; omega
  have hlen : lenV (.lst (bytesV b) false) = some (.int .i64 b.length) := by simp [lenV, bytesV_len]
  refine (den_seq (env1 := (Env.ofArgs [PV.lst (bytesV b) false]).set 5 (.int .u64 0)) (by simp only [den, runVS, VS.run, allGood, bindAll, X.ev, obind_some, ↓reduceIte])).trans ?_
  have h0 : Env.ofArgs [PV.lst (bytesV b) false] 0 = PV.lst (bytesV b) false := rfl
  have hst : den C V (.st [.asg [] [(12, (N 0)), (11, (.len (.v 0))), (10, (.v 0))]]) ((Env.ofArgs [PV.lst (bytesV b) false]).set 5 (.int .u64 0)) = some (.norm (((((Env.ofArgs [PV.lst (bytesV b) false]).set 5 (.int .u64 0)).set 12 (.int .i64 0)).set 11 (.int .i64 b.length)).set 10 (.lst (bytesV b) false))) := by
   simp only [den, runVS, VS.run, allGood, bindAll, X.ev, obind_some, ↓reduceIte, Env.set_at, reduceCtorEq, h0, hlen]
  rcases take_loop (C := C) (V := V) hb hl b [] 0 (bigN - (b.length + 1)) (by simp) S (by decide) with ⟨env', h1, h2⟩ | ⟨r, h1, h2⟩
  ·have hd := den_loop (C := C) (V := V) _ _ h2 hbig
   refine (den_seq (env1 := env') ((den_seq hst).trans (den_block hd))).trans ?_
   have : takeW b 0 0 = none := h1
   rw [this]
   simp only [den, runVS, VS.run, allGood, bindAll, evAll, X.ev, obind_some, ↓reduceIte, Env.set_at, Nat.reduceEqDiff, listOf]
   rfl
  ·have hd := den_loop (C := C) (V := V) _ _ h1 hbig
   have hr : r = outT (takeW b 0 0) := h2
   rw [← hr]
   exact den_seq_ret ((den_seq hst).trans (den_block_ret hd))
 ·cases takeW b 0 0 with
  | none => rfl
  | some p => rfl
end Gv

namespace Gv
open Go
theorem bytesOf_bytesV : ∀ l : List Nat, bytesOf (bytesV l) = some (l.map UInt8.ofNat)
 | [] => rfl
 | x :: l => by
  have e : bytesV (x :: l) = .int .u8 (x : Int) :: bytesV l := rfl
  rw [e, bytesOf, bytesOf_bytesV l]
  simp
theorem b2s_bytes (l : List Nat) : b2sV (.lst (bytesV l) false) = some (.str (l.map UInt8.ofNat)) := by
 simp only [b2sV, bytesOf_bytesV, Option.map_some]
theorem u8_inj : ∀ {l m : List Nat}, (∀ x ∈ l, x < 256) → (∀ x ∈ m, x < 256) → l.map UInt8.ofNat = m.map UInt8.ofNat → l = m
 | [], [], _, _, _ => rfl
 | [], _ :: _, _, _, h => by simp at h
 | _ :: _, [], _, _, h => by simp at h
 | x :: l, y :: m, h1, h2, h => by
  simp only [List.map_cons, List.cons.injEq] at h
  have hx := h1 x (by simp)
  have hy := h2 y (by simp)
  have hxy : x = y := by
   have h3 := congrArg UInt8.toNat h.1
   simp at h3
   omega
  rw [hxy, u8_inj (fun z hz => h1 z (by simp [hz])) (fun z hz => h2 z (by simp [hz])) h.2]
theorem nb_small : ∀ (k u : Nat), ∀ x ∈ nb k u, x < 256
 | 0, u, x, h => by simp [nb] at h
 | k + 1, u, x, h => by
  rw [nb] at h
  split at h
  ·rcases List.mem_cons.1 h with h | h
   ·omega
   ·exact nb_small k _ x h
  ·rw [List.mem_singleton.1 h]; omega
theorem nrmL_bytes (l : List Nat) : nrmL (bytesV l) = bytesV l := by
 rw [nrmL_map]; simp [bytesV, nrm]
theorem lstSz_bytes (l : List Nat) : lstSz (bytesV l) 1 = true := by
 cases l <;> rfl
theorem slice_bytes {b : List Nat} {k : Nat} (h : k ≤ b.length) : sliceV 1 (.lst (bytesV b) false) (.tup []) (.int .i64 k) (.tup []) = some (.lst (bytesV (b.take k)) false) := by
 have h1 : optNat (bytesV b).length (some (.int .i64 k)) = some k := by simp [optNat, asNat]
 have h2 : (0 ≤ k ∧ k ≤ (bytesV b).length ∧ (bytesV b).length ≤ (bytesV b).length ∧ lstSz (bytesV b) 1 = true) := ⟨by omega, by rw [bytesV_len]; exact h, Nat.le_refl _, lstSz_bytes b⟩
 have h3 : sliceLst 1 (bytesV b) false none (some (.int .i64 k)) none = some (.lst (bytesV (b.take k)) false) := by
  unfold sliceLst
  rw [h1]
  show (if 0 ≤ k ∧ k ≤ (bytesV b).length ∧ (bytesV b).length ≤ (bytesV b).length ∧ lstSz (bytesV b) 1 = true then _ else none) = _
  rw [if_pos h2]
  simp [bytesV, List.map_take]
 simp only [sliceV, optV]
 rw [if_neg (by simp), h3]
 simp [nrm, nrmL_bytes]
structure TakeRSt (b : List Nat) (i u : Nat) (env : Env) : Prop where
 l : env 0 = .lst (bytesV b) false
 i : env 5 = .int .i64 i
 u : env 4 = .int .u64 u
theorem lenV_bytes (b : List Nat) : lenV (.lst (bytesV b) false) = some (.int .i64 b.length) := by simp [lenV, bytesV_len]
end Gv
