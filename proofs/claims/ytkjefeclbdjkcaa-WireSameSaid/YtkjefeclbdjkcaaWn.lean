/- What this file proves: one part of the proof that the law answers true for every input, by an interpreter that is proved sound against the given model. -/
import Derived.Test.YtkjefeclbdjkcaaVw
import Derived.Test.YtkjefeclbdjkcaaWp
import Derived.Test.YtkjefeclbdjkcaaVc
/- What this file proves: one part of the proof that the law answers true for every input, by an interpreter that is proved sound against the given model. -/
namespace Gv
open Go
theorem sized_bytes (l : List Nat) : sized 1 (bytesV l) = true := by
 induction l with
 | nil => rfl
 | cons x l ih =>
  show (1 == 1 && sized 1 (bytesV l)) = true
  rw [ih]; rfl
theorem bytesV_len (l : List Nat) : (bytesV l).length = l.length := by simp [bytesV]
theorem bytesV_app (l m : List Nat) : bytesV l ++ bytesV m = bytesV (l ++ m) := by simp [bytesV]
theorem app_bytes {l m : List Nat} (h : l.length + m.length < 2147483648) : appV 1 (.lst (bytesV l) false) (.lst (bytesV m) false) = some (.lst (bytesV (l ++ m)) false) := by
 have hc : sized 1 (bytesV m) = true ∧ (bytesV l).length + (bytesV m).length < maxNew := ⟨sized_bytes m, by rw [bytesV_len, bytesV_len]; exact h⟩
 simp only [appV]
 rw [if_pos hc, bytesV_app]
theorem app_byte {l : List Nat} {n : Nat} {x : Int} (hx : x = n) (h : l.length + 1 < 2147483648) : appV 1 (.lst (bytesV l) false) (.lst [.int .u8 x] false) = some (.lst (bytesV (l ++ [n])) false) := by
 subst hx
 exact app_bytes (m := [n]) h
theorem u8_small {u : Nat} (h : u < 256) : IntKind.u8.wrap (u : Int) = u := by
 unfold IntKind.wrap
 simp [IntKind.signed, IntKind.bits]
 omega
theorem number_step {C : CallV} {V : Nat → List PV → List PV → Bool} {u : Nat} {os : List Nat} {env : Env} (h2 : env 2 = .lst (bytesV os) false) (h3 : env 3 = .int .u64 u) (hu : u < 18446744073709551616) (ho : os.length < 1000) :
  den C V v_wire_Number_L1 env = some (if 128 ≤ u then .norm ((env.set 2 (.lst (bytesV (os ++ [u % 128 + 128])) false)).set 3 (.int .u64 (u / 128 : Nat))) else .exit 0 env) := by
 by_cases hc : 128 ≤ u
 ·have hi : (128 : Int) ≤ u := by omega
  have hb := or128 (u := u)
  have h9 : binI .shr .u64 (u : Int) .u64 7 = some (.int .u64 ((u / 128 : Nat) : Int)) := by
   have h9 := shr7 (u := u) hu
   simp only [binI, IntKind.bits] at h9 ⊢
   rw [if_neg (by decide), h9]
  have h10 : binI .geq .u64 (u : Int) .u64 128 = some (.bool true) := by simp [binI, hi]
  have ha := app_byte (l := os) (n := u % 128 + 128) rfl (by omega)
  simp only [v_wire_Number_L1, den, runVS, VS.run, allGood, X.ev, h2, h3, obind_some, bin, hb, h10, bindAll, Option.isSome_some, Bool.true_and, if_true, toIntV, listOf, ha, hc, Env.set]
  simp [h9]
 ·have hi : ¬ (128 : Int) ≤ u := by omega
  have h10 : binI .geq .u64 (u : Int) .u64 128 = some (.bool false) := by simp [binI, hi]
  simp only [v_wire_Number_L1, den, runVS, VS.run, allGood, X.ev, h3, obind_some, bin, h10, bindAll, Option.isSome_some, Bool.true_and, if_true, hc, if_false]
theorem number_loop {C : CallV} {V : Nat → List PV → List PV → Bool} : ∀ (k j : Nat) {u : Nat} {os : List Nat} {env : Env}, env 2 = .lst (bytesV os) false → env 3 = .int .u64 u → u < 18446744073709551616 → u < 128 ^ (k + 1) → os.length + k < 1000 →
  ∃ env' l us, loopN (den C V v_wire_Number_L1) (k + 1 + j) env = some (.exit 0 env') ∧ env' 2 = .lst (bytesV (os ++ l)) false ∧ env' 3 = .int .u64 (us : Nat) ∧ us < 128 ∧ l.length ≤ k ∧ nb (k + 1) u = l ++ [us]
 | 0, j, u, os, env, h2, h3, hu, hk, ho => by
  have hc : ¬ 128 ≤ u := by omega
  refine ⟨env, [], u, ?_, by simpa using h2, h3, by omega, by simp, by simp [nb, hc]⟩
  rw [show 0 + 1 + j = j + 1 by omega]
  simp only [loopN, number_step h2 h3 hu (by omega), hc, if_false]
 | k + 1, j, u, os, env, h2, h3, hu, hk, ho => by
  have hs := number_step (C := C) (V := V) h2 h3 hu (by omega)
  rw [show k + 1 + 1 + j = (k + 1 + j) + 1 by omega]
  by_cases hc : 128 ≤ u
  ·rw [if_pos hc] at hs
   have hd : u / 128 < 128 ^ (k + 1) := by
    rw [Nat.div_lt_iff_lt_mul (by decide)]
    have : 128 ^ (k + 1 + 1) = 128 ^ (k + 1) * 128 := Nat.pow_succ ..
    omega
   obtain ⟨env', l, us, e1, e2, e3, e4, e5, e6⟩ := number_loop (C := C) (V := V) k j (u := u / 128) (os := os ++ [u % 128 + 128]) (env := (env.set 2 (.lst (bytesV (os ++ [u % 128 + 128])) false)).set 3 (.int .u64 (u / 128 : Nat))) (by simp) (by simp) (by omega) hd (by simp; omega)
   refine ⟨env', (u % 128 + 128) :: l, us, ?_, by simpa using e2, e3, e4, by simpa using e5, ?_⟩
   ·simp only [loopN, hs]
    exact e1
   ·rw [nb, if_pos hc, e6]; rfl
  ·rw [if_neg hc] at hs
   refine ⟨env, [], u, ?_, by simpa using h2, h3, by omega, by simp, by simp [nb, hc]⟩
   simp only [loopN, hs]
theorem number_V {m : Nat} {n : Int} (h1 : -9223372036854775808 ≤ n) (h2 : n ≤ 9223372036854775807) : callV tVT (m + 1) 11 [.int .i64 n] = some (.lst (bytesV (number n)) false, []) := by
 have hl := zz_lt h1 h2
 have e1 := zz_shl h1 h2
 have e2 := zz_shr h1 h2
 have e3 := zz_xor h1 h2
 have hF : tVT 11 = some v_wire_Number := rfl
 simp only [callV, hF]
 simp only [v_wire_Number, bindAll, obind_some, den, runVS, VS.run, allGood, X.ev, listOf, toIntV, Env.set, Env.ofArgs, List.getElem?_cons_zero, Option.getD_some, bin, if_true]
 simp [e1, e2, e3]
 obtain ⟨env', l, us, f1, f2, f3, f4, f5, f6⟩ := number_loop (C := callV tVT m) (V := vTab tVT) 9 (bigN - 10) (u := zz n) (os := []) (env := ((Env.ofArgs [PV.int IntKind.i64 n]).set 2 (PV.lst [] false)).set 3 (PV.int IntKind.u64 ↑(zz n))) (by simp [bytesV]) (by simp) hl (by omega) (by simp)
 rw [show bigN = 9 + 1 + (bigN - 10) from rfl, f1]
 have ha := app_byte (l := l) (n := us) rfl (by omega)
 have hw : IntKind.u8.wrap (us : Int) = us := u8_small (by omega)
 simp [f2, f3, hw, ha, evAll]
 rw [number, f6]
end Gv

namespace Gv
open Go
end Gv

namespace Gv
open Go
structure TakeSt (b : List Nat) (i u : Nat) (env : Env) : Prop where
 l : env 10 = .lst (bytesV b) false
 n : env 11 = .int .i64 b.length
 i : env 12 = .int .i64 i
 u : env 5 = .int .u64 u
end Gv

namespace Gv
open Go
theorem bytesOf_bytesV : ∀ l : List Nat, bytesOf (bytesV l) = some (l.map UInt8.ofNat)
 | [] => rfl
 | x :: l => by
  have e : bytesV (x :: l) = .int .u8 (x : Int) :: bytesV l := rfl
  rw [e, bytesOf, bytesOf_bytesV l]
  simp
theorem nb_small : ∀ (k u : Nat), ∀ x ∈ nb k u, x < 256
 | 0, u, x, h => by simp [nb] at h
 | k + 1, u, x, h => by
  rw [nb] at h
  split at h
  ·rcases List.mem_cons.1 h with h | h
   ·omega
   ·exact nb_small k _ x h
  ·rw [List.mem_singleton.1 h]; omega
structure TakeRSt (b : List Nat) (i u : Nat) (env : Env) : Prop where
 l : env 0 = .lst (bytesV b) false
 i : env 5 = .int .i64 i
 u : env 4 = .int .u64 u
theorem lenV_bytes (b : List Nat) : lenV (.lst (bytesV b) false) = some (.int .i64 b.length) := by simp [lenV, bytesV_len]
end Gv
