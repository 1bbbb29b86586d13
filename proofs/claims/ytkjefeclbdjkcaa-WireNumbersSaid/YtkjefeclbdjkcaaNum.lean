/- What this file proves: one part of the proof that the law answers true for every input, by an interpreter that is proved sound against the given model. -/
import Derived.Test.YtkjefeclbdjkcaaVc
import Derived.Test.YtkjefeclbdjkcaaIrn
import Derived.KernelRfl
import Derived.Test.YtkjefeclbdjkcaaEc
namespace Gv
open Go
abbrev N (n : Int) : X := .int .i64 n
def v_Number_L1 : VC :=
 (.seq
  (.seq
   (.st [.asg [(.bin .geq (.v 3) (.int .u64 128))] []])
   (.cond (.bin .geq (.v 3) (.int .u64 128))
    .skip
    (.exit 0)))
  (.seq
   (.block 1
    (.st [.asg [] [(2, (.app 1 (.v 2) (.lst (.cn (.bin .or (.toInt .u8 (.v 3)) (.int .u8 128)) .nl))))]]))
   (.st [.asg [] [(3, (.bin .shr (.v 3) (.int .u64 7)))]])))
def v_Number : VFun := ⟨⟨[.F], .F, false⟩, [],
 (.seq
  (.st [.asg [] [(2, (.lst .nl))], .asg [] [(3, (.bin .xor (.bin .shl (.toInt .u64 (.v 0)) (.int .u64 1)) (.toInt .u64 (.bin .shr (.v 0) (.int .u64 63)))))]])
  (.seq
   (.block 0
    (.loop v_Number_L1))
   (.seq
    (.st [.asg [] [(2, (.app 1 (.v 2) (.lst (.cn (.toInt .u8 (.v 3)) .nl))))]])
    (.ret (.v 2) []))))⟩
def v_Take_L1 : VC :=
 (.seq
  (.st [.asg [(.bin .lss (.v 12) (.v 11))] []])
  (.seq
   (.cond (.bin .lss (.v 12) (.v 11))
    .skip
    (.exit 0))
   (.seq
    (.block 1
     (.seq
      (.st [.asg [] [(7, (.ld none (.ia 1 (.v 10) (.v 12)) 0)), (6, (.v 12))], .asg [] [(8, (.bin .andNot (.toInt .u64 (.v 7)) (.int .u64 128)))]])
      (.seq
       (.seq
        (.st [.asg [] [(9, (.bin .mul (N 7) (.v 6)))]])
        (.block 2
         (.seq
          (.seq
           (.st [.asg [] [(27, (.bin .geq (.v 9) (N 64)))]])
           (.cond (.v 27)
            .skip
            (.seq
             (.st [.asg [(.gd (.bin .gtr (.bin .add (.v 9) (N 7)) (N 64)) true (.bin .sub (N 64) (.v 9))), (.gd (.bin .gtr (.bin .add (.v 9) (N 7)) (N 64)) true (.bin .shr (.v 8) (.bin .sub (N 64) (.v 9)))), (.gd (.bin .gtr (.bin .add (.v 9) (N 7)) (N 64)) true (.bin .neq (.bin .shr (.v 8) (.bin .sub (N 64) (.v 9))) (.int .u64 0)))] [(27, (.ite (.bin .gtr (.bin .add (.v 9) (N 7)) (N 64)) (.bin .neq (.bin .shr (.v 8) (.bin .sub (N 64) (.v 9))) (.int .u64 0)) (.boo false)))]])
             (.cond (.v 27)
              .skip
              (.st [.asg [(.gd (.bin .eql (.v 7) (.int .u8 0)) true (.bin .gtr (.v 6) (N 0)))] [(27, (.ite (.bin .eql (.v 7) (.int .u8 0)) (.bin .gtr (.v 6) (N 0)) (.boo false)))]])))))
          (.cond (.v 27)
           (.seq
            (.st [.asg [] [(4, (N 2)), (3, (N 0)), (2, (N 0))]])
            (.ret (.tup (.cn (.v 2) (.cn (.v 3) (.cn (.v 4) .nl)))) []))
           (.st [.asg [] [(5, (.bin .or (.v 5) (.bin .shl (.v 8) (.v 9))))]])))))
       (.seq
        (.st [.asg [(.bin .lss (.v 7) (.int .u8 128))] []])
        (.cond (.bin .lss (.v 7) (.int .u8 128))
         (.seq
          (.st [.asg [] [(4, (N 0)), (3, (.bin .add (.v 6) (N 1))), (2, (.bin .xor (.toInt .i64 (.bin .shr (.v 5) (.int .u64 1))) (.un .neg (.toInt .i64 (.bin .and (.v 5) (.int .u64 1))))))]])
          (.ret (.tup (.cn (.v 2) (.cn (.v 3) (.cn (.v 4) .nl)))) []))
         .skip)))))
    (.st [.asg [] [(12, (.bin .add (.v 12) (N 1)))]]))))
def v_Take : VFun := ⟨⟨[.F], (.T [.F, .F, .F]), true⟩, [],
 (.seq
  (.st [.asg [] [(5, (.int .u64 0))]])
  (.seq
   (.seq
    (.st [.asg [] [(12, (N 0)), (11, (.len (.v 0))), (10, (.v 0))]])
    (.block 0
     (.loop v_Take_L1)))
   (.seq
    (.st [.asg [] [(4, (N 2)), (3, (N 0)), (2, (N 0))]])
    (.ret (.tup (.cn (.v 2) (.cn (.v 3) (.cn (.v 4) .nl)))) []))))⟩
def v_NumberR_L1 : VC :=
 (.seq
  (.seq
   (.st [.asg [(.bin .geq (.v 3) (.int .u64 128))] []])
   (.cond (.bin .geq (.v 3) (.int .u64 128))
    .skip
    (.exit 0)))
  (.block 1
   (.st [.asg [] [(4, (.app 1 (.v 4) (.lst (.cn (.bin .or (.toInt .u8 (.v 3)) (.int .u8 128)) .nl))))], .asg [] [(3, (.bin .shr (.v 3) (.int .u64 7)))]])))
def v_NumberR : VFun := ⟨⟨[.F], .F, false⟩, [],
 (.seq
  (.st [.asg [] [(3, (.bin .mul (.toInt .u64 (.v 0)) (.int .u64 2)))]])
  (.seq
   (.seq
    (.st [.asg [(.bin .lss (.v 0) (N 0))] []])
    (.cond (.bin .lss (.v 0) (N 0))
     (.st [.asg [] [(3, (.bin .add (.bin .mul (.toInt .u64 (.un .neg (.bin .add (.v 0) (N 1)))) (.int .u64 2)) (.int .u64 1)))]])
     .skip))
   (.seq
    (.st [.asg [] [(4, (.lst .nl))]])
    (.seq
     (.block 0
      (.loop v_NumberR_L1))
     (.seq
      (.st [.asg [] [(2, (.app 1 (.v 4) (.lst (.cn (.toInt .u8 (.v 3)) .nl))))]])
      (.ret (.v 2) []))))))⟩
def v_TakeR_L1 : VC :=
 (.seq
  (.seq
   (.st [.asg [(.gd (.bin .lss (.v 5) (.len (.v 0))) true (.bin .lss (.v 5) (N 10))), (.ite (.bin .lss (.v 5) (.len (.v 0))) (.bin .lss (.v 5) (N 10)) (.boo false))] []])
   (.cond (.ite (.bin .lss (.v 5) (.len (.v 0))) (.bin .lss (.v 5) (N 10)) (.boo false))
    .skip
    (.exit 0)))
  (.seq
   (.block 1
    (.seq
     (.st [.asg [] [(4, (.bin .or (.v 4) (.bin .shl (.toInt .u64 (.bin .and (.ld none (.ia 1 (.v 0) (.v 5)) 0) (.int .u8 127))) (.bin .mul (N 7) (.v 5)))))]])
     (.seq
      (.seq
       (.st [.asg [(.bin .geq (.ld none (.ia 1 (.v 0) (.v 5)) 0) (.int .u8 128))] []])
       (.cond (.bin .geq (.ld none (.ia 1 (.v 0) (.v 5)) 0) (.int .u8 128))
        (.exit 1)
        .skip))
      (.seq
       (.st [.asg [] [(6, (.toInt .i64 (.bin .shr (.v 4) (.int .u64 1))))]])
       (.seq
        (.seq
         (.st [.asg [(.bin .eql (.bin .and (.v 4) (.int .u64 1)) (.int .u64 1))] []])
         (.cond (.bin .eql (.bin .and (.v 4) (.int .u64 1)) (.int .u64 1))
          (.st [.asg [] [(6, (.bin .sub (.un .neg (.v 6)) (N 1)))]])
          .skip))
        (.seq
         (.seq
          (.st [.call [] none 43 14 [(.v 6)] [], .asg [(.bin .neq (.b2s (.v 43)) (.b2s (.slice 1 (.v 0) .nl (.bin .add (.v 5) (N 1)) .nl)))] []])
          (.cond (.bin .neq (.b2s (.v 43)) (.b2s (.slice 1 (.v 0) .nl (.bin .add (.v 5) (N 1)) .nl)))
           (.seq
            (.st [.asg [] [(3, (N 0)), (2, (N 0))]])
            (.ret (.tup (.cn (.v 2) (.cn (.v 3) .nl))) []))
           .skip))
         (.seq
          (.st [.asg [] [(3, (.bin .add (.v 5) (N 1))), (2, (.v 6))]])
          (.ret (.tup (.cn (.v 2) (.cn (.v 3) .nl))) []))))))))
   (.st [.asg [] [(5, (.bin .add (.v 5) (N 1)))]])))
def v_TakeR : VFun := ⟨⟨[.F], (.T [.F, .F]), true⟩, [],
 (.seq
  (.st [.asg [] [(4, (.int .u64 0))]])
  (.seq
   (.seq
    (.st [.asg [] [(5, (N 0))]])
    (.block 0
     (.loop v_TakeR_L1)))
   (.seq
    (.st [.asg [] [(3, (N 0)), (2, (N 0))]])
    (.ret (.tup (.cn (.v 2) (.cn (.v 3) .nl))) []))))⟩
def v_WireNumbers : VFun := ⟨⟨[.F, .F], .F, true⟩, [],
 (.seq
  (.st [])
  (.seq
   (.seq
    (.st [.asg [(.bin .gtr (.len (.v 1)) (N 100))] []])
    (.cond (.bin .gtr (.len (.v 1)) (N 100))
     (.seq
      (.st [.call [] none 17 10 [] [], .asg [] [(4, (.v 17))]])
      (.ret (.v 4) []))
     .skip))
   (.seq
    (.st [.call [] none 19 11 [(.v 0)] [], .asg [] [(5, (.v 19))], .call [(.app 1 (.app 1 (.lst .nl) (.v 5)) (.v 1))] none 26 12 [(.app 1 (.app 1 (.lst .nl) (.v 5)) (.v 1))] [], .asg [] [(8, (.ext (.v 26) 2)), (7, (.ext (.v 26) 1)), (6, (.ext (.v 26) 0))], .call [] none 32 12 [(.v 1)] [], .asg [] [(11, (.ext (.v 32) 2)), (10, (.ext (.v 32) 1)), (9, (.ext (.v 32) 0))], .call [] none 38 13 [(.v 1)] [], .asg [] [(13, (.ext (.v 38) 1)), (12, (.ext (.v 38) 0))]])
    (.seq
     (.seq
      (.st [.call [(.b2s (.v 5))] none 44 14 [(.v 0)] [], .asg [(.gd (.bin .neq (.b2s (.v 5)) (.b2s (.v 44))) false (.bin .neq (.v 8) (N 0))), (.gd (.ite (.bin .neq (.b2s (.v 5)) (.b2s (.v 44))) (.boo true) (.bin .neq (.v 8) (N 0))) false (.bin .neq (.v 6) (.v 0))), (.gd (.ite (.ite (.bin .neq (.b2s (.v 5)) (.b2s (.v 44))) (.boo true) (.bin .neq (.v 8) (N 0))) (.boo true) (.bin .neq (.v 6) (.v 0))) false (.len (.v 5))), (.gd (.ite (.ite (.bin .neq (.b2s (.v 5)) (.b2s (.v 44))) (.boo true) (.bin .neq (.v 8) (N 0))) (.boo true) (.bin .neq (.v 6) (.v 0))) false (.bin .neq (.v 7) (.len (.v 5)))), (.ite (.ite (.ite (.bin .neq (.b2s (.v 5)) (.b2s (.v 44))) (.boo true) (.bin .neq (.v 8) (N 0))) (.boo true) (.bin .neq (.v 6) (.v 0))) (.boo true) (.bin .neq (.v 7) (.len (.v 5))))] []])
      (.cond (.ite (.ite (.ite (.bin .neq (.b2s (.v 5)) (.b2s (.v 44))) (.boo true) (.bin .neq (.v 8) (N 0))) (.boo true) (.bin .neq (.v 6) (.v 0))) (.boo true) (.bin .neq (.v 7) (.len (.v 5))))
       (.seq
        (.st [.asg [] [(4, (.boo false))]])
        (.ret (.v 4) []))
       .skip))
     (.seq
      (.st [.call [(.gd (.bin .eql (.v 9) (.v 12)) true (.bin .eql (.v 10) (.v 13))), (.gd (.ite (.bin .eql (.v 9) (.v 12)) (.bin .eql (.v 10) (.v 13)) (.boo false)) true (.bin .eql (.v 11) (N 0))), (.gd (.ite (.bin .eql (.v 9) (.v 12)) (.bin .eql (.v 10) (.v 13)) (.boo false)) true (.bin .gtr (.v 13) (N 0))), (.gd (.ite (.bin .eql (.v 9) (.v 12)) (.bin .eql (.v 10) (.v 13)) (.boo false)) true (.eqb false (.bin .eql (.v 11) (N 0)) (.bin .gtr (.v 13) (N 0)))), (.gd (.gd (.ite (.ite (.bin .eql (.v 9) (.v 12)) (.bin .eql (.v 10) (.v 13)) (.boo false)) (.eqb false (.bin .eql (.v 11) (N 0)) (.bin .gtr (.v 13) (N 0))) (.boo false)) true (.bin .gtr (.v 13) (N 0))) false (.bin .eql (.v 11) (N 2))), (.gd (.ite (.ite (.bin .eql (.v 9) (.v 12)) (.bin .eql (.v 10) (.v 13)) (.boo false)) (.eqb false (.bin .eql (.v 11) (N 0)) (.bin .gtr (.v 13) (N 0))) (.boo false)) true (.ite (.bin .gtr (.v 13) (N 0)) (.boo true) (.bin .eql (.v 11) (N 2)))), (.ite (.ite (.ite (.bin .eql (.v 9) (.v 12)) (.bin .eql (.v 10) (.v 13)) (.boo false)) (.eqb false (.bin .eql (.v 11) (N 0)) (.bin .gtr (.v 13) (N 0))) (.boo false)) (.ite (.bin .gtr (.v 13) (N 0)) (.boo true) (.bin .eql (.v 11) (N 2))) (.boo false))] (some ((.ite (.ite (.ite (.bin .eql (.v 9) (.v 12)) (.bin .eql (.v 10) (.v 13)) (.boo false)) (.eqb false (.bin .eql (.v 11) (N 0)) (.bin .gtr (.v 13) (N 0))) (.boo false)) (.ite (.bin .gtr (.v 13) (N 0)) (.boo true) (.bin .eql (.v 11) (N 2))) (.boo false)), true)) 86 10 [] [], .asg [] [(4, (.ite (.ite (.ite (.ite (.bin .eql (.v 9) (.v 12)) (.bin .eql (.v 10) (.v 13)) (.boo false)) (.eqb false (.bin .eql (.v 11) (N 0)) (.bin .gtr (.v 13) (N 0))) (.boo false)) (.ite (.bin .gtr (.v 13) (N 0)) (.boo true) (.bin .eql (.v 11) (N 2))) (.boo false)) (.v 86) (.boo false)))]])
      (.ret (.v 4) []))))))⟩
def VTL : List (Option VFun) := [some v_WireNumbers, none, none, none, none, none, none, none, none, none, some yesV, some v_Number, some v_Take, some v_TakeR, some v_NumberR]
def tVT : Nat → Option VFun := tabV VTL
def tVS : Nat → Option Sig := fun g => (tVT g).map VFun.sig
theorem mk11 : EntOk (tabOf FTL) tVS 11 v_Number := .inl ⟨f_wire_Number, rfl, by kernel_rfl⟩
theorem mk12 : EntOk (tabOf FTL) tVS 12 v_Take := .inl ⟨f_wire_Take, rfl, by kernel_rfl⟩
theorem mk14 : EntOk (tabOf FTL) tVS 14 v_NumberR := .inl ⟨f_ref20_Number, rfl, by kernel_rfl⟩
theorem mk13 : EntOk (tabOf FTL) tVS 13 v_TakeR := .inl ⟨f_ref20_Take, rfl, by kernel_rfl⟩
theorem mk0 : EntOk (tabOf FTL) tVS 0 v_WireNumbers := .inl ⟨f_law22_WireNumbers, rfl, by kernel_rfl⟩
end Gv

namespace Gv
open Go
theorem shr7 {u : Nat} (_hu : u < 18446744073709551616) : ((u : Int).fdiv (2 ^ (min (Int.toNat 7) 64))) = ((u / 128 : Nat) : Int) := by
  have : (2 : Int) ^ (min (Int.toNat 7) 64) = ((128 : Nat) : Int) := by decide
  rw [this, Int.fdiv_eq_ediv_of_nonneg _ (by omega)]
  exact (Int.natCast_ediv u 128).symm
theorem wrap64 {x : Nat} (h : x < 18446744073709551616) : IntKind.u64.wrap (x : Int) = x := by
  unfold IntKind.wrap
  simp [IntKind.signed, IntKind.bits]
  omega
theorem or128n : ∀ m : Nat, m < 256 → (BitVec.ofInt 8 (m : Int) ||| BitVec.ofInt 8 128).toNat = m % 128 + 128 := by decide +kernel
theorem or128 {u : Nat} : binI .or .u8 (IntKind.u8.wrap (u : Int)) .u8 128 = some (.int .u8 ((u % 128 + 128 : Nat) : Int)) := by
  have hw : IntKind.u8.wrap (u : Int) = ((u % 256 : Nat) : Int) := by
    unfold IntKind.wrap
    simp [IntKind.signed, IntKind.bits]
  have h1 := or128n (u % 256) (Nat.mod_lt _ (by decide))
  have h2 : u % 256 % 128 = u % 128 := by omega
  have h3 : IntKind.u8.wrap ((u % 128 + 128 : Nat) : Int) = ((u % 128 + 128 : Nat) : Int) := by
    unfold IntKind.wrap
    simp [IntKind.signed, IntKind.bits]
    omega
  rw [hw]
  show some (PV.int .u8 (IntKind.u8.wrap ((BitVec.ofInt 8 ((u % 256 : Nat) : Int) ||| BitVec.ofInt 8 128).toNat : Int))) = _
  rw [h1, h2, h3]
/-- The bytes of a number, by groups of seven. -/
def nb : Nat → Nat → List Nat
  | 0, _ => []
  | k + 1, u => if 128 ≤ u then (u % 128 + 128) :: nb k (u / 128) else [u]

/-- A number's fold: signs last. -/
def zz (n : Int) : Nat := if 0 ≤ n then (2 * n).toNat else (-2 * n - 1).toNat
theorem u64_of (x : Int) : IntKind.u64.wrap x = x % 18446744073709551616 := by
  unfold IntKind.wrap
  simp [IntKind.signed, IntKind.bits]
theorem i64_of {x : Int} (h1 : -9223372036854775808 ≤ x) (h2 : x ≤ 9223372036854775807) : IntKind.i64.wrap x = x := by
  rw [IntKind.wrap_i64]; omega
theorem zz_shr {n : Int} (h1 : -9223372036854775808 ≤ n) (h2 : n ≤ 9223372036854775807) : binI .shr .i64 n .u64 63 = some (.int .i64 (if 0 ≤ n then 0 else -1)) := by
  simp only [binI, IntKind.bits]
  rw [if_neg (by decide)]
  have e : (2 : Int) ^ (min (Int.toNat 63) 64) = 9223372036854775808 := by decide
  rw [e, Int.fdiv_eq_ediv_of_nonneg _ (by decide)]
  congr 2
  split <;> omega
theorem zz_shl {n : Int} (_h1 : -9223372036854775808 ≤ n) (_h2 : n ≤ 9223372036854775807) : binI .shl .u64 (IntKind.u64.wrap n) .u64 1 = some (.int .u64 ((2 * n) % 18446744073709551616)) := by
  simp only [binI, IntKind.bits]
  rw [if_neg (by decide)]
  have e : (2 : Int) ^ (min (Int.toNat 1) 64) = 2 := by decide
  rw [e, u64_of, u64_of]
  congr 2
  omega
theorem zz_xor {n : Int} (h1 : -9223372036854775808 ≤ n) (h2 : n ≤ 9223372036854775807) : binI .xor .u64 ((2 * n) % 18446744073709551616) .u64 (IntKind.u64.wrap (if 0 ≤ n then 0 else -1)) = some (.int .u64 (zz n)) := by
  simp only [binI, ne_eq, not_true_eq_false, if_false]
  show some (PV.int .u64 (IntKind.u64.wrap ((BitVec.ofInt 64 ((2 * n) % 18446744073709551616) ^^^ BitVec.ofInt 64 (IntKind.u64.wrap (if 0 ≤ n then 0 else -1))).toNat : Int))) = _
  rw [u64_of, u64_of]
  congr 2
  by_cases hn : 0 ≤ n
  · rw [if_pos hn]
    have e : BitVec.ofInt 64 ((0 : Int) % 18446744073709551616) = 0#64 := by decide
    rw [e, BitVec.xor_zero, BitVec.toNat_ofInt]
    unfold zz
    rw [if_pos hn]
    simp
    omega
  · rw [if_neg hn]
    have e : BitVec.ofInt 64 ((-1 : Int) % 18446744073709551616) = BitVec.allOnes 64 := by decide
    rw [e, BitVec.xor_allOnes, BitVec.toNat_not, BitVec.toNat_ofInt]
    unfold zz
    rw [if_neg hn]
    simp
    omega
theorem zz_lt {n : Int} (h1 : -9223372036854775808 ≤ n) (h2 : n ≤ 9223372036854775807) : zz n < 18446744073709551616 := by
  unfold zz; split <;> omega
def bytesV (l : List Nat) : List PV := l.map fun (n : Nat) => PV.int .u8 (n : Int)
def number (n : Int) : List Nat := nb 10 (zz n)
end Gv

namespace Gv
open Go
theorem sized_bytes (l : List Nat) : sized 1 (bytesV l) = true := by
  induction l with
  | nil => rfl
  | cons x l ih =>
    show (1 == 1 && sized 1 (bytesV l)) = true
    rw [ih]; rfl
theorem bytesV_len (l : List Nat) : (bytesV l).length = l.length := by simp [bytesV]
theorem bytesV_app (l m : List Nat) : bytesV l ++ bytesV m = bytesV (l ++ m) := by simp [bytesV]
theorem app_bytes {l m : List Nat} (h : l.length + m.length < 2147483648) : appV 1 (.lst (bytesV l) false) (.lst (bytesV m) false) = some (.lst (bytesV (l ++ m)) false) := by
  have hc : sized 1 (bytesV m) = true ∧ (bytesV l).length + (bytesV m).length < maxNew := ⟨sized_bytes m, by rw [bytesV_len, bytesV_len]; exact h⟩
  simp only [appV]
  rw [if_pos hc, bytesV_app]
theorem app_byte {l : List Nat} {n : Nat} {x : Int} (hx : x = n) (h : l.length + 1 < 2147483648) : appV 1 (.lst (bytesV l) false) (.lst [.int .u8 x] false) = some (.lst (bytesV (l ++ [n])) false) := by
  subst hx
  exact app_bytes (m := [n]) h
theorem u8_small {u : Nat} (h : u < 256) : IntKind.u8.wrap (u : Int) = u := by
  unfold IntKind.wrap
  simp [IntKind.signed, IntKind.bits]
  omega
theorem number_step {C : CallV} {V : Nat → List PV → List PV → Bool} {u : Nat} {os : List Nat} {env : Env} (h2 : env 2 = .lst (bytesV os) false) (h3 : env 3 = .int .u64 u) (hu : u < 18446744073709551616) (ho : os.length < 1000) :
    den C V v_Number_L1 env = some (if 128 ≤ u then .norm ((env.set 2 (.lst (bytesV (os ++ [u % 128 + 128])) false)).set 3 (.int .u64 (u / 128 : Nat))) else .exit 0 env) := by
  by_cases hc : 128 ≤ u
  · have hi : (128 : Int) ≤ u := by omega
    have hb := or128 (u := u)
    have h9 : binI .shr .u64 (u : Int) .u64 7 = some (.int .u64 ((u / 128 : Nat) : Int)) := by
      have h9 := shr7 (u := u) hu
      simp only [binI, IntKind.bits] at h9 ⊢
      rw [if_neg (by decide), h9]
    have h10 : binI .geq .u64 (u : Int) .u64 128 = some (.bool true) := by simp [binI, hi]
    have ha := app_byte (l := os) (n := u % 128 + 128) rfl (by omega)
    simp only [v_Number_L1, den, runVS, VS.run, allGood, X.ev, h2, h3, obind_some, bin, hb, h10, bindAll, Option.isSome_some, Bool.true_and, if_true, toIntV, listOf, ha, hc, Env.set]
    simp [h9]
  · have hi : ¬ (128 : Int) ≤ u := by omega
    have h10 : binI .geq .u64 (u : Int) .u64 128 = some (.bool false) := by simp [binI, hi]
    simp only [v_Number_L1, den, runVS, VS.run, allGood, X.ev, h3, obind_some, bin, h10, bindAll, Option.isSome_some, Bool.true_and, if_true, hc, if_false]
theorem number_loop {C : CallV} {V : Nat → List PV → List PV → Bool} : ∀ (k j : Nat) {u : Nat} {os : List Nat} {env : Env}, env 2 = .lst (bytesV os) false → env 3 = .int .u64 u → u < 18446744073709551616 → u < 128 ^ (k + 1) → os.length + k < 1000 →
    ∃ env' l us, loopN (den C V v_Number_L1) (k + 1 + j) env = some (.exit 0 env') ∧ env' 2 = .lst (bytesV (os ++ l)) false ∧ env' 3 = .int .u64 (us : Nat) ∧ us < 128 ∧ l.length ≤ k ∧ nb (k + 1) u = l ++ [us]
  | 0, j, u, os, env, h2, h3, hu, hk, ho => by
    have hc : ¬ 128 ≤ u := by omega
    refine ⟨env, [], u, ?_, by simpa using h2, h3, by omega, by simp, by simp [nb, hc]⟩
    rw [show 0 + 1 + j = j + 1 by omega]
    simp only [loopN, number_step h2 h3 hu (by omega), hc, if_false]
  | k + 1, j, u, os, env, h2, h3, hu, hk, ho => by
    have hs := number_step (C := C) (V := V) h2 h3 hu (by omega)
    rw [show k + 1 + 1 + j = (k + 1 + j) + 1 by omega]
    by_cases hc : 128 ≤ u
    · rw [if_pos hc] at hs
      have hd : u / 128 < 128 ^ (k + 1) := by
        rw [Nat.div_lt_iff_lt_mul (by decide)]
        have : 128 ^ (k + 1 + 1) = 128 ^ (k + 1) * 128 := Nat.pow_succ ..
        omega
      obtain ⟨env', l, us, e1, e2, e3, e4, e5, e6⟩ := number_loop (C := C) (V := V) k j (u := u / 128) (os := os ++ [u % 128 + 128]) (env := (env.set 2 (.lst (bytesV (os ++ [u % 128 + 128])) false)).set 3 (.int .u64 (u / 128 : Nat))) (by simp) (by simp) (by omega) hd (by simp; omega)
      refine ⟨env', (u % 128 + 128) :: l, us, ?_, by simpa using e2, e3, e4, by simpa using e5, ?_⟩
      · simp only [loopN, hs]
        exact e1
      · rw [nb, if_pos hc, e6]; rfl
    · rw [if_neg hc] at hs
      refine ⟨env, [], u, ?_, by simpa using h2, h3, by omega, by simp, by simp [nb, hc]⟩
      simp only [loopN, hs]
theorem number_V {m : Nat} {n : Int} (h1 : -9223372036854775808 ≤ n) (h2 : n ≤ 9223372036854775807) : callV tVT (m + 1) 11 [.int .i64 n] = some (.lst (bytesV (number n)) false, []) := by
  have hl := zz_lt h1 h2
  have e1 := zz_shl h1 h2
  have e2 := zz_shr h1 h2
  have e3 := zz_xor h1 h2
  have hF : tVT 11 = some v_Number := rfl
  simp only [callV, hF]
  simp only [v_Number, bindAll, obind_some, den, runVS, VS.run, allGood, X.ev, listOf, toIntV, Env.set, Env.ofArgs, List.getElem?_cons_zero, Option.getD_some, bin, if_true]
  simp [e1, e2, e3]
  obtain ⟨env', l, us, f1, f2, f3, f4, f5, f6⟩ := number_loop (C := callV tVT m) (V := vTab tVT) 9 (bigN - 10) (u := zz n) (os := []) (env := ((Env.ofArgs [PV.int IntKind.i64 n]).set 2 (PV.lst [] false)).set 3 (PV.int IntKind.u64 ↑(zz n))) (by simp [bytesV]) (by simp) hl (by omega) (by simp)
  rw [show bigN = 9 + 1 + (bigN - 10) from rfl, f1]
  have ha := app_byte (l := l) (n := us) rfl (by omega)
  have hw : IntKind.u8.wrap (us : Int) = us := u8_small (by omega)
  simp [f2, f3, hw, ha, evAll]
  rw [number, f6]
end Gv

namespace Gv
open Go
theorem shr7' {u : Nat} (hu : u < 18446744073709551616) : binI .shr .u64 (u : Int) .u64 7 = some (.int .u64 ((u / 128 : Nat) : Int)) := by
  have h9 := shr7 (u := u) hu
  simp only [binI, IntKind.bits] at h9 ⊢
  rw [if_neg (by decide), h9]
theorem numberR_step {C : CallV} {V : Nat → List PV → List PV → Bool} {u : Nat} {os : List Nat} {env : Env} (h2 : env 4 = .lst (bytesV os) false) (h3 : env 3 = .int .u64 u) (hu : u < 18446744073709551616) (ho : os.length < 1000) :
    den C V v_NumberR_L1 env = some (if 128 ≤ u then .norm ((env.set 4 (.lst (bytesV (os ++ [u % 128 + 128])) false)).set 3 (.int .u64 (u / 128 : Nat))) else .exit 0 env) := by
  by_cases hc : 128 ≤ u
  · have hi : (128 : Int) ≤ u := by omega
    have hb := or128 (u := u)
    have h9 := shr7' hu
    have h10 : binI .geq .u64 (u : Int) .u64 128 = some (.bool true) := by simp [binI, hi]
    have ha := app_byte (l := os) (n := u % 128 + 128) rfl (by omega)
    simp only [v_NumberR_L1, den, runVS, VS.run, allGood, X.ev, h2, h3, obind_some, bin, hb, h10, bindAll, Option.isSome_some, Bool.true_and, if_true, toIntV, listOf, ha, hc, Env.set]
    simp [h9]
  · have hi : ¬ (128 : Int) ≤ u := by omega
    have h10 : binI .geq .u64 (u : Int) .u64 128 = some (.bool false) := by simp [binI, hi]
    simp only [v_NumberR_L1, den, runVS, VS.run, allGood, X.ev, h3, obind_some, bin, h10, bindAll, Option.isSome_some, Bool.true_and, if_true, hc, if_false]
theorem numberR_loop {C : CallV} {V : Nat → List PV → List PV → Bool} : ∀ (k j : Nat) {u : Nat} {os : List Nat} {env : Env}, env 4 = .lst (bytesV os) false → env 3 = .int .u64 u → u < 18446744073709551616 → u < 128 ^ (k + 1) → os.length + k < 1000 →
    ∃ env' l us, loopN (den C V v_NumberR_L1) (k + 1 + j) env = some (.exit 0 env') ∧ env' 4 = .lst (bytesV (os ++ l)) false ∧ env' 3 = .int .u64 (us : Nat) ∧ us < 128 ∧ l.length ≤ k ∧ nb (k + 1) u = l ++ [us]
  | 0, j, u, os, env, h2, h3, hu, hk, ho => by
    have hc : ¬ 128 ≤ u := by omega
    refine ⟨env, [], u, ?_, by simpa using h2, h3, by omega, by simp, by simp [nb, hc]⟩
    rw [show 0 + 1 + j = j + 1 by omega]
    simp only [loopN, numberR_step h2 h3 hu (by omega), hc, if_false]
  | k + 1, j, u, os, env, h2, h3, hu, hk, ho => by
    have hs := numberR_step (C := C) (V := V) h2 h3 hu (by omega)
    rw [show k + 1 + 1 + j = (k + 1 + j) + 1 by omega]
    by_cases hc : 128 ≤ u
    · rw [if_pos hc] at hs
      have hd : u / 128 < 128 ^ (k + 1) := by
        rw [Nat.div_lt_iff_lt_mul (by decide)]
        have : 128 ^ (k + 1 + 1) = 128 ^ (k + 1) * 128 := Nat.pow_succ ..
        omega
      obtain ⟨env', l, us, e1, e2, e3, e4, e5, e6⟩ := numberR_loop (C := C) (V := V) k j (u := u / 128) (os := os ++ [u % 128 + 128]) (env := (env.set 4 (.lst (bytesV (os ++ [u % 128 + 128])) false)).set 3 (.int .u64 (u / 128 : Nat))) (by simp) (by simp) (by omega) hd (by simp; omega)
      refine ⟨env', (u % 128 + 128) :: l, us, ?_, by simpa using e2, e3, e4, by simpa using e5, ?_⟩
      · simp only [loopN, hs]
        exact e1
      · rw [nb, if_pos hc, e6]; rfl
    · rw [if_neg hc] at hs
      refine ⟨env, [], u, ?_, by simpa using h2, h3, by omega, by simp, by simp [nb, hc]⟩
      simp only [loopN, hs]
theorem numberR_V {m : Nat} {n : Int} (h1 : -9223372036854775808 ≤ n) (h2 : n ≤ 9223372036854775807) : callV tVT (m + 1) 14 [.int .i64 n] = some (.lst (bytesV (number n)) false, []) := by
  have hl := zz_lt h1 h2
  refine callV_of (F := v_NumberR) rfl rfl rfl ?_ (.inl rfl)
  generalize callV tVT m = C
  generalize vTab tVT = V
  have key : ∀ env : Env, env 3 = PV.int .u64 (zz n : Nat) → den C V (.seq (.st [.asg [] [(4, (.lst .nl))]]) (.seq (.block 0 (.loop v_NumberR_L1)) (.seq (.st [.asg [] [(2, (.app 1 (.v 4) (.lst (.cn (.toInt .u8 (.v 3)) .nl))))]]) (.ret (.v 2) [])))) env = some (.ret (PV.lst (bytesV (number n)) false) []) := by
    intro env h3
    obtain ⟨env', l, us, f1, f2, f3, f4, f5, f6⟩ := numberR_loop (C := C) (V := V) 9 (bigN - 10) (u := zz n) (os := []) (env := env.set 4 (.lst [] false)) (by simp [bytesV]) (by simp [h3]) hl (by omega) (by simp)
    refine (den_seq (env1 := env.set 4 (.lst [] false)) (by simp [den, runVS, VS.run, allGood, bindAll, X.ev, listOf])).trans ?_
    refine (den_seq (den_block (den_loop _ _ f1 rfl))).trans ?_
    have ha := app_byte (l := l) (n := us) rfl (by omega)
    have hw : IntKind.u8.wrap (us : Int) = us := u8_small (by omega)
    simp [den, runVS, VS.run, allGood, bindAll, X.ev, listOf, toIntV, f2, f3, hw, ha, evAll]
    rw [number, f6]
  have e0 : ∃ y, binI .mul .u64 (IntKind.u64.wrap n) .u64 2 = some (.int .u64 y) := ⟨_, rfl⟩
  obtain ⟨y, e0⟩ := e0
  refine (den_seq (env1 := (Env.ofArgs [PV.int .i64 n]).set 3 (.int .u64 y)) (by simp [den, runVS, VS.run, allGood, bindAll, X.ev, Env.ofArgs_at, toIntV, bin, e0])).trans ?_
  by_cases hn : n < 0
  · have e1 : binI .add .i64 n .i64 1 = some (.int .i64 (n + 1)) := by simp only [binI]; rw [i64_of (by omega) (by omega)]; rfl
    have e2 : un .neg (.int .i64 (n + 1)) = some (.int .i64 (-(n + 1))) := by
      simp only [un]
      rw [i64_of (by omega) (by omega)]
      congr 2; omega
    have e3 : binI .mul .u64 (IntKind.u64.wrap (-(n + 1))) .u64 2 = some (.int .u64 (2 * (-(n + 1)))) := by
      simp only [binI]
      rw [u64_of, u64_of]
      rw [if_neg (by decide)]
      congr 2; omega
    have e4 : binI .add .u64 (2 * (-(n + 1))) .u64 1 = some (.int .u64 (zz n : Nat)) := by
      simp only [binI, zz]
      rw [u64_of, if_neg (by decide)]
      congr 2
      rw [if_neg (by omega)]
      omega
    have e5 : binI .lss .i64 n .i64 0 = some (.bool true) := by simp [binI, hn]
    refine (den_seq (env1 := ((Env.ofArgs [PV.int .i64 n]).set 3 (.int .u64 y)).set 3 (.int .u64 (zz n : Nat))) ?_).trans (key _ (by simp))
    simp [den, runVS, VS.run, allGood, bindAll, X.ev, Env.ofArgs_at, toIntV, bin, e1, e2, e3, e4, e5]
  · have e5 : binI .lss .i64 n .i64 0 = some (.bool false) := by simp [binI, hn]
    have e6 : y = (zz n : Nat) := by
      simp only [binI] at e0
      rw [u64_of, u64_of, if_neg (by decide)] at e0
      injection e0 with e0
      injection e0 with _ e0
      rw [← e0, zz, if_pos (by omega)]
      omega
    refine (den_seq (env1 := (Env.ofArgs [PV.int .i64 n]).set 3 (.int .u64 y)) ?_).trans (key _ (by simp [e6]))
    simp [den, runVS, VS.run, allGood, bindAll, X.ev, Env.ofArgs_at, bin, e5]
end Gv

namespace Gv
open Go
def unzz (u : Nat) : Int := if u % 2 = 0 then (u / 2 : Nat) else -((u / 2 : Nat) : Int) - 1
theorem zz_unzz (u : Nat) : zz (unzz u) = u := by
  unfold zz unzz
  split <;> split <;> omega
theorem unzz_zz (n : Int) : unzz (zz n) = n := by
  unfold zz unzz
  split <;> split <;> omega
theorem unzz_lo {u : Nat} (h : u < 18446744073709551616) : -9223372036854775808 ≤ unzz u ∧ unzz u ≤ 9223372036854775807 := by
  unfold unzz; split <;> omega
def val : List Nat → Nat
  | [] => 0
  | c :: cs => c % 128 + 128 * val cs
theorem val_app : ∀ (l : List Nat) (m : List Nat), val (l ++ m) = val l + 128 ^ l.length * val m
  | [], m => by simp [val]
  | c :: l, m => by
    simp only [List.cons_append, val, val_app l m, List.length_cons, Nat.pow_succ, Nat.mul_add, Nat.mul_comm, Nat.mul_left_comm]
    omega
theorem val_lt : ∀ (l : List Nat), val l < 128 ^ l.length
  | [] => by simp [val]
  | c :: l => by
    have := val_lt l
    simp only [val, List.length_cons, Nat.pow_succ]
    omega
theorem val_nb : ∀ (k w : Nat), w < 128 ^ k → val (nb k w) = w
  | 0, w, h => by simp at h; subst h; rfl
  | k + 1, w, h => by
    rw [nb]
    split
    · have hd : w / 128 < 128 ^ k := by
        rw [Nat.div_lt_iff_lt_mul (by decide)]
        have : 128 ^ (k + 1) = 128 ^ k * 128 := Nat.pow_succ ..
        omega
      rw [val, val_nb k _ hd]; omega
    · simp [val]; omega
theorem nb_val : ∀ (pre : List Nat) (c k : Nat), (∀ x ∈ pre, 128 ≤ x ∧ x < 256) → c < 128 → (pre ≠ [] → c ≠ 0) → pre.length + 1 ≤ k → nb k (val (pre ++ [c])) = pre ++ [c]
  | [], c, k + 1, _, hc, _, _ => by
    have : val ([] ++ [c]) = c := by simp [val]; omega
    rw [this, nb, if_neg (by omega)]; rfl
  | p :: ps, c, k + 1, hp, hc, hn, hk => by
    have h0 := hp p (by simp)
    have hc0 := hn (by simp)
    have ih := nb_val ps c k (fun x hx => hp x (by simp [hx])) hc (fun _ => hc0) (by simp at hk; omega)
    have hv : 1 ≤ val (ps ++ [c]) := by
      rw [val_app]
      have : 1 ≤ 128 ^ ps.length := Nat.pos_of_ne_zero (by simp)
      have h2 : val [c] = c := by simp [val]; omega
      rw [h2]
      have : 1 ≤ 128 ^ ps.length * c := Nat.mul_le_mul this (by omega : 1 ≤ c)
      omega
    have hv2 : val (p :: ps ++ [c]) = p % 128 + 128 * val (ps ++ [c]) := rfl
    rw [hv2, nb, if_pos (by omega)]
    have e1 : (p % 128 + 128 * val (ps ++ [c])) % 128 + 128 = p := by omega
    have e2 : (p % 128 + 128 * val (ps ++ [c])) / 128 = val (ps ++ [c]) := by omega
    rw [e1, e2, ih]; rfl
  | _, _, 0, _, _, _, h => by omega
theorem nb_last : ∀ (k u : Nat) (ps : List Nat), u ≠ 0 → nb k u ≠ ps ++ [0]
  | 0, u, ps, h => by simp [nb]
  | k + 1, u, ps, h => by
    rw [nb]
    split
    · rename_i hu
      cases ps with
      | nil => simp
      | cons p ps =>
        intro he
        simp only [List.cons_append, List.cons.injEq] at he
        exact nb_last k (u / 128) ps (by omega) he.2
    · intro he
      cases ps with
      | nil => simp at he; exact h he
      | cons p ps => simp at he
/-- Take, as the program has it. -/
def takeW : List Nat → Nat → Nat → Option (Nat × Nat)
  | [], _, _ => none
  | c :: cs, i, u => if 10 ≤ i ∨ (i = 9 ∧ 2 ≤ c % 128) ∨ (c = 0 ∧ 0 < i) then none else if c < 128 then some (u + c % 128 * 128 ^ i, i + 1) else takeW cs (i + 1) (u + c % 128 * 128 ^ i)
/-- Take, as the document has it. -/
def takeR (b : List Nat) : List Nat → Nat → Nat → Option (Nat × Nat)
  | [], _, _ => none
  | c :: cs, i, u => if 10 ≤ i then none else if 128 ≤ c then takeR b cs (i + 1) ((u + c % 128 * 128 ^ i) % 18446744073709551616) else
      if nb 10 ((u + c % 128 * 128 ^ i) % 18446744073709551616) = b.take (i + 1) then some ((u + c % 128 * 128 ^ i) % 18446744073709551616, i + 1) else none
theorem pow9 {i : Nat} (h : i < 9) : 128 ^ (i + 1) ≤ 9223372036854775808 := by
  have : 128 ^ (i + 1) ≤ 128 ^ 9 := Nat.pow_le_pow_right (by decide) (by omega)
  omega
theorem val_snoc (pre : List Nat) (c : Nat) : val (pre ++ [c]) = val pre + c % 128 * 128 ^ pre.length := by
  rw [val_app]; simp [val, Nat.mul_comm]
theorem take_same : ∀ (rest pre : List Nat), (∀ x ∈ pre, 128 ≤ x ∧ x < 256) → (∀ x ∈ rest, x < 256) → pre.length ≤ 10 → (pre.length = 10 ∨ True) →
    (pre.length < 10 → takeW rest pre.length (val pre) = takeR (pre ++ rest) rest pre.length (val pre))
  | [], pre, _, _, _, _ => fun _ => rfl
  | c :: cs, pre, hp, hr, hl, _ => fun hlt => by
    have hc256 := hr c (by simp)
    have hs := val_snoc pre c
    have hb := val_lt (pre ++ [c])
    have hlen : (pre ++ [c]).length = pre.length + 1 := by simp
    rw [hlen] at hb
    rw [takeW, takeR, if_neg (by omega : ¬ 10 ≤ pre.length)]
    rw [← hs]
    by_cases hc : 128 ≤ c
    · rw [if_pos hc]
      by_cases h9 : pre.length = 9
      · -- no more bytes are taken
        have n1 : ∀ (l : List Nat) u, takeW l 10 u = none := fun l u => by cases l <;> simp [takeW]
        have n2 : ∀ (b l : List Nat) u, takeR b l 10 u = none := fun b l u => by cases l <;> simp [takeR]
        rw [h9]
        rw [show 9 + 1 = 10 from rfl, n1, n2]
        simp
        intro _; omega
      · rw [if_neg (by omega), if_neg (by omega)]
        have hm : val (pre ++ [c]) < 18446744073709551616 := by have := pow9 (i := pre.length) (by omega); omega
        rw [Nat.mod_eq_of_lt hm]
        have ih := take_same cs (pre ++ [c]) (fun x hx => by
          rcases List.mem_append.1 hx with h | h
          · exact hp x h
          · rw [List.mem_singleton.1 h]; exact ⟨hc, hc256⟩) (fun x hx => hr x (by simp [hx])) (by simp; omega) (.inr trivial) (by simp; omega)
        rw [hlen] at ih
        simpa using ih
    · rw [if_neg hc]
      have htk : (pre ++ c :: cs).take (pre.length + 1) = pre ++ [c] := by
        rw [List.take_append, List.take_of_length_le (by omega)]; simp
      rw [htk]
      by_cases hbad : (pre.length = 9 ∧ 2 ≤ c % 128) ∨ (c = 0 ∧ 0 < pre.length)
      · rw [if_pos (.inr hbad), if_neg]
        intro he
        have hw : val (pre ++ [c]) % 18446744073709551616 < 128 ^ 10 := by
          have := Nat.mod_lt (val (pre ++ [c])) (show 0 < 18446744073709551616 by decide)
          omega
        have hv := val_nb 10 _ hw
        rw [he] at hv
        rcases hbad with ⟨h9, h2⟩ | ⟨h0, hpos⟩
        · have : 2 * 128 ^ 9 ≤ c % 128 * 128 ^ 9 := Nat.mul_le_mul_right _ h2
          rw [h9] at hs
          have := Nat.mod_lt (val (pre ++ [c])) (show 0 < 18446744073709551616 by decide)
          omega
        · subst h0
          have hne : val (pre ++ [0]) % 18446744073709551616 ≠ 0 := by
            intro hz
            rw [hz] at he
            cases pre with
            | nil => simp at hpos
            | cons p ps =>
              have := congrArg List.length he
              simp [nb] at this
          exact nb_last 10 _ pre hne he
      · have hm : val (pre ++ [c]) < 18446744073709551616 := by
          by_cases h9 : pre.length = 9
          · have h2 : c % 128 < 2 := by omega
            have h3 := val_lt pre
            rw [h9] at hs h3
            have : c % 128 * 128 ^ 9 ≤ 1 * 128 ^ 9 := Nat.mul_le_mul_right _ (by omega)
            omega
          · have := pow9 (i := pre.length) (by omega); omega
        rw [if_neg (by omega), if_pos (by omega), Nat.mod_eq_of_lt hm, if_pos (nb_val pre c 10 hp (by omega) (fun hne h0 => by
          have : 0 < pre.length := List.length_pos_iff.2 hne
          omega) (by omega))]
theorem take_number : ∀ (k w i u : Nat) (rest : List Nat), w < 128 ^ (k + 1) → i + k + 1 ≤ 10 → (0 < i → w ≠ 0) → u + w * 128 ^ i < 18446744073709551616 → takeW (nb (k + 1) w ++ rest) i u = some (u + w * 128 ^ i, i + (nb (k + 1) w).length)
  | k, w, i, u, rest, hw, hi, h0, hb => by
    rw [nb]
    by_cases hc : 128 ≤ w
    · rw [if_pos hc]
      cases k with
      | zero => omega
      | succ k =>
        simp only [List.cons_append, takeW]
        rw [if_neg (by omega), if_neg (by omega)]
        have e1 : (w % 128 + 128) % 128 = w % 128 := by omega
        rw [e1]
        have hd : w / 128 < 128 ^ (k + 1) := by
          rw [Nat.div_lt_iff_lt_mul (by decide)]
          have : 128 ^ (k + 1 + 1) = 128 ^ (k + 1) * 128 := Nat.pow_succ ..
          omega
        have e2 : u + w % 128 * 128 ^ i + w / 128 * 128 ^ (i + 1) = u + w * 128 ^ i := by
          rw [Nat.pow_succ, Nat.mul_comm (128 ^ i) 128, ← Nat.mul_assoc, Nat.add_assoc, ← Nat.add_mul]
          congr 2; omega
        rw [take_number k (w / 128) (i + 1) _ rest hd (by omega) (by omega) (by rw [e2]; exact hb), e2]
        simp only [List.length_cons, Option.some.injEq, Prod.mk.injEq, true_and]
        omega
    · rw [if_neg hc]
      simp only [List.cons_append, takeW, List.nil_append]
      have h9 : ¬ (i = 9 ∧ 2 ≤ w % 128) := by
        rintro ⟨rfl, h2⟩
        have : 2 * 128 ^ 9 ≤ w * 128 ^ 9 := Nat.mul_le_mul_right _ (by omega)
        omega
      rw [if_neg (by omega), if_pos (by omega), Nat.mod_eq_of_lt (by omega)]
      rfl
end Gv

namespace Gv
open Go
theorem andNot128n : ∀ m : Nat, m < 256 → (BitVec.ofInt 64 (m : Int) &&& ~~~ BitVec.ofInt 64 128).toNat = m % 128 := by decide +kernel
theorem andNot128 {c : Nat} (h : c < 256) : binI .andNot .u64 (c : Int) .u64 128 = some (.int .u64 ((c % 128 : Nat) : Int)) := by
  show some (PV.int .u64 (IntKind.u64.wrap ((BitVec.ofInt 64 (c : Int) &&& ~~~ BitVec.ofInt 64 128).toNat : Int))) = _
  rw [andNot128n c h, u64_of]
  congr 2; omega
theorem or_u64 {a b : Nat} (ha : a < 18446744073709551616) (hb : b < 18446744073709551616) : binI .or .u64 (a : Int) .u64 (b : Int) = some (.int .u64 ((a ||| b : Nat) : Int)) := by
  show some (PV.int .u64 (IntKind.u64.wrap ((BitVec.ofInt 64 (a : Int) ||| BitVec.ofInt 64 (b : Int)).toNat : Int))) = _
  have e1 : (BitVec.ofInt 64 (a : Int)).toNat = a := by rw [BitVec.toNat_ofInt]; omega
  have e2 : (BitVec.ofInt 64 (b : Int)).toNat = b := by rw [BitVec.toNat_ofInt]; omega
  rw [BitVec.toNat_or, e1, e2, u64_of]
  have : a ||| b < 2 ^ 64 := Nat.or_lt_two_pow (by omega) (by omega)
  congr 2; omega
theorem or_add {u x i : Nat} (hu : u < 128 ^ i) : u ||| x * 128 ^ i = u + x * 128 ^ i := by
  have e : 128 ^ i = 2 ^ (7 * i) := by rw [Nat.pow_mul]
  rw [e] at hu ⊢
  have := Nat.two_pow_add_eq_or_of_lt hu x
  rw [Nat.mul_comm, Nat.or_comm, ← this, Nat.add_comm]
theorem shl_u64 {x i : Nat} (h : i < 10) : binI .shl .u64 (x : Int) .i64 ((7 * i : Nat) : Int) = some (.int .u64 ((x * 128 ^ i % 18446744073709551616 : Nat) : Int)) := by
  simp only [binI]
  rw [if_neg (by omega)]
  have e : (2 : Int) ^ (min ((7 * i : Nat) : Int).toNat IntKind.u64.bits) = ((128 ^ i : Nat) : Int) := by
    have : min ((7 * i : Nat) : Int).toNat IntKind.u64.bits = 7 * i := by
      simp only [Int.toNat_natCast, IntKind.bits]; omega
    rw [this, Nat.pow_mul' 2 i 7 |> fun _ => (show (128 : Nat) ^ i = 2 ^ (7 * i) by rw [Nat.pow_mul])]
    simp
  rw [e, u64_of]
  congr 2
theorem shr1_u64 {u : Nat} : binI .shr .u64 (u : Int) .u64 1 = some (.int .u64 ((u / 2 : Nat) : Int)) := by
  simp only [binI]
  rw [if_neg (by decide)]
  have e : (2 : Int) ^ (min (1 : Int).toNat IntKind.u64.bits) = 2 := by decide
  rw [e, Int.fdiv_eq_ediv_of_nonneg _ (by decide)]
  congr 2
theorem shr1_u64' {u : Nat} : binI .shr .u64 (u : Int) .i64 1 = some (.int .u64 ((u / 2 : Nat) : Int)) := shr1_u64
theorem and1_u64 {u : Nat} (h : u < 18446744073709551616) : binI .and .u64 (u : Int) .u64 1 = some (.int .u64 ((u % 2 : Nat) : Int)) := by
  show some (PV.int .u64 (IntKind.u64.wrap ((BitVec.ofInt 64 (u : Int) &&& BitVec.ofInt 64 1).toNat : Int))) = _
  have e1 : (BitVec.ofInt 64 (u : Int)).toNat = u := by rw [BitVec.toNat_ofInt]; omega
  have e2 : (BitVec.ofInt 64 (1 : Int)).toNat = 1 := by decide
  rw [BitVec.toNat_and, e1, e2, Nat.and_one_is_mod, u64_of]
  congr 2; omega
theorem xor_sign {u : Nat} (h : u < 18446744073709551616) : binI .xor .i64 ((u / 2 : Nat) : Int) .i64 (IntKind.i64.wrap (0 - ((u % 2 : Nat) : Int))) = some (.int .i64 (unzz u)) := by
  show some (PV.int .i64 (IntKind.i64.wrap ((BitVec.ofInt 64 ((u / 2 : Nat) : Int) ^^^ BitVec.ofInt 64 (IntKind.i64.wrap (0 - ((u % 2 : Nat) : Int)))).toNat : Int))) = _
  have ew : IntKind.i64.wrap (0 - ((u % 2 : Nat) : Int)) = 0 - ((u % 2 : Nat) : Int) := i64_of (by omega) (by omega)
  rw [ew]
  have e1 : (BitVec.ofInt 64 ((u / 2 : Nat) : Int)).toNat = u / 2 := by rw [BitVec.toNat_ofInt]; omega
  unfold unzz
  by_cases hu : u % 2 = 0
  · rw [if_pos hu, hu]
    have e : BitVec.ofInt 64 (0 - ((0 : Nat) : Int)) = 0#64 := by decide
    rw [e, BitVec.xor_zero, e1, i64_of (by omega) (by omega)]
  · rw [if_neg hu, show u % 2 = 1 by omega]
    have e : BitVec.ofInt 64 (0 - ((1 : Nat) : Int)) = BitVec.allOnes 64 := by decide
    rw [e, BitVec.xor_allOnes, BitVec.toNat_not, e1]
    congr 2
    rw [IntKind.wrap_i64]
    omega
theorem ia_byte {b : List Nat} {i c : Nat} (h : b[i]? = some c) : indexAddrPV 1 (.lst (bytesV b) false) (.int .i64 i) = some (.lptr [.int .u8 c]) := by
  have h2 : (bytesV b)[i]? = some (.int .u8 c) := by simp [bytesV, h]
  have hi : i < b.length := by
    rcases Nat.lt_or_ge i b.length with h' | h'
    · exact h'
    · rw [List.getElem?_eq_none h'] at h; cases h
  simp only [indexAddrPV, bytesV_len, Int.toNat_natCast, h2]
  rw [if_pos ⟨by omega, by omega⟩]
  rfl
theorem ld_byte {c : Int} : ldV none 0 (.lptr [.int .u8 c]) = some (.int .u8 c) := rfl
def noneT : PV := .tup [.int .i64 0, .int .i64 0, .int .i64 2]
def someT (u k : Nat) : PV := .tup [.int .i64 (unzz u), .int .i64 k, .int .i64 0]
/-- Before a round of Take. -/
structure TakeSt (b : List Nat) (i u : Nat) (env : Env) : Prop where
  l : env 10 = .lst (bytesV b) false
  n : env 11 = .int .i64 b.length
  i : env 12 = .int .i64 i
  u : env 5 = .int .u64 u
theorem take_bad {C : CallV} {V : Nat → List PV → List PV → Bool} {b : List Nat} {i u c : Nat} {env : Env} (S : TakeSt b i u env) (hi : b[i]? = some c) (hc : c < 256) (hl : b.length < 1000) (hbad : 10 ≤ i ∨ (i = 9 ∧ 2 ≤ c % 128) ∨ (c = 0 ∧ 0 < i)) :
    den C V v_Take_L1 env = some (.ret noneT []) := by
  obtain ⟨s1, s2, s3, s4⟩ := S
  have hil : i < b.length := by
    rcases Nat.lt_or_ge i b.length with h' | h'
    · exact h'
    · rw [List.getElem?_eq_none h'] at hi; cases hi
  have f1 : binI .lss .i64 (i : Int) .i64 (b.length : Int) = some (.bool true) := by simp [binI, hil]
  have f2 := ia_byte hi
  have f3 := andNot128 hc
  have fw : IntKind.u64.wrap (c : Int) = c := by rw [u64_of]; omega
  have f4 : binI .mul .i64 7 .i64 (i : Int) = some (.int .i64 (7 * i : Nat)) := by
    simp only [binI]; rw [i64_of (by omega) (by omega)]; simp
  by_cases h10 : 10 ≤ i
  · have f5 : binI .geq .i64 ((7 * i : Nat) : Int) .i64 64 = some (.bool true) := by simp only [binI]; rw [if_neg (by decide)]; congr 2; simp; omega
    rw [v_Take_L1]
    simp only [den, runVS, VS.run, allGood, bindAll, evAll, X.ev, obind_some, Option.isSome_some, Bool.and_true, ↓reduceIte, Env.set_at, Nat.reduceEqDiff, listOf, toIntV, bin, s1, s2, s3, f1, f2, ld_byte, fw, f3, f4, f5]
    rfl
  · have f5 : binI .geq .i64 ((7 * i : Nat) : Int) .i64 64 = some (.bool false) := by simp only [binI]; rw [if_neg (by decide)]; congr 2; simp; omega
    have f6 : binI .add .i64 ((7 * i : Nat) : Int) .i64 7 = some (.int .i64 (7 * i + 7 : Nat)) := by
      simp only [binI]; rw [i64_of (by omega) (by omega)]; simp
    by_cases h9 : i = 9
    · subst h9
      have f7 : binI .gtr .i64 ((7 * 9 + 7 : Nat) : Int) .i64 64 = some (.bool true) := by rfl
      have f8 : binI .sub .i64 64 .i64 ((7 * 9 : Nat) : Int) = some (.int .i64 1) := by rfl
      have f9 := shr1_u64' (u := c % 128)
      by_cases h2 : 2 ≤ c % 128
      · have f10 : binI .neq .u64 ((c % 128 / 2 : Nat) : Int) .u64 0 = some (.bool true) := by simp only [binI]; rw [if_neg (by decide)]; congr 2; simp; omega
        rw [v_Take_L1]
        simp only [den, runVS, VS.run, allGood, bindAll, evAll, X.ev, obind_some, Option.isSome_some, Bool.and_true, ↓reduceIte, Env.set_at, Nat.reduceEqDiff, listOf, toIntV, bin, s1, s2, s3, f1, f2, ld_byte, fw, f3, f4, f5, f6, f7, f8, f9, f10]
        rfl
      · have h0 : c = 0 := by omega
        subst h0
        have f10 : binI .neq .u64 ((0 % 128 / 2 : Nat) : Int) .u64 0 = some (.bool false) := by rfl
        have f11 : binI .eql .u8 ((0 : Nat) : Int) .u8 0 = some (.bool true) := by rfl
        have f12 : binI .gtr .i64 ((9 : Nat) : Int) .i64 0 = some (.bool true) := by rfl
        rw [v_Take_L1]
        simp only [den, runVS, VS.run, allGood, bindAll, evAll, X.ev, obind_some, Option.isSome_some, Bool.and_true, ↓reduceIte, Env.set_at, Nat.reduceEqDiff, listOf, toIntV, bin, s1, s2, s3, f1, f2, ld_byte, fw, f3, f4, f5, f6, f7, f8, f9, f10, f11, f12]
        rfl
    · have f7 : binI .gtr .i64 ((7 * i + 7 : Nat) : Int) .i64 64 = some (.bool false) := by simp only [binI]; rw [if_neg (by decide)]; congr 2; simp; omega
      have h0 : c = 0 ∧ 0 < i := by omega
      obtain ⟨rfl, hp⟩ := h0
      have f11 : binI .eql .u8 ((0 : Nat) : Int) .u8 0 = some (.bool true) := by rfl
      have f12 : binI .gtr .i64 (i : Int) .i64 0 = some (.bool true) := by simp only [binI]; rw [if_neg (by decide)]; congr 2; simp; omega
      rw [v_Take_L1]
      simp only [den, runVS, VS.run, allGood, bindAll, evAll, X.ev, obind_some, Option.isSome_some, Bool.and_true, ↓reduceIte, Env.set_at, Nat.reduceEqDiff, listOf, toIntV, bin, Bool.false_eq_true, s1, s2, s3, f1, f2, ld_byte, fw, f3, f4, f5, f6, f7, f11, f12]
      rfl
theorem lt128 {c : Nat} (h : c < 128) : binI .lss .u8 (c : Int) .u8 128 = some (.bool true) := by
  have h2 : (c : Int) < 128 := by omega
  simp [binI, h2]
theorem nlt128 {c : Nat} (h : ¬ c < 128) : binI .lss .u8 (c : Int) .u8 128 = some (.bool false) := by
  have h2 : ¬ (c : Int) < 128 := by omega
  simp [binI, h2]
theorem take_good {C : CallV} {V : Nat → List PV → List PV → Bool} {b : List Nat} {i u c : Nat} {env : Env} (S : TakeSt b i u env) (hi : b[i]? = some c) (hc : c < 256) (hl : b.length < 1000) (hgood : ¬ (10 ≤ i ∨ (i = 9 ∧ 2 ≤ c % 128) ∨ (c = 0 ∧ 0 < i))) (hu : u < 128 ^ i) (hu' : u + c % 128 * 128 ^ i < 18446744073709551616) :
    ∃ env', den C V v_Take_L1 env = some (if c < 128 then .ret (someT (u + c % 128 * 128 ^ i) (i + 1)) [] else .norm env') ∧ TakeSt b (i + 1) (u + c % 128 * 128 ^ i) env' := by
  obtain ⟨s1, s2, s3, s4⟩ := S
  have hil : i < b.length := by
    rcases Nat.lt_or_ge i b.length with h' | h'
    · exact h'
    · rw [List.getElem?_eq_none h'] at hi; cases hi
  have f1 : binI .lss .i64 (i : Int) .i64 (b.length : Int) = some (.bool true) := by simp [binI, hil]
  have f2 := ia_byte hi
  have f3 := andNot128 hc
  have fw : IntKind.u64.wrap (c : Int) = c := by rw [u64_of]; omega
  have f4 : binI .mul .i64 7 .i64 (i : Int) = some (.int .i64 (7 * i : Nat)) := by
    simp only [binI]; rw [i64_of (by omega) (by omega)]; simp
  have f5 : binI .geq .i64 ((7 * i : Nat) : Int) .i64 64 = some (.bool false) := by simp only [binI]; rw [if_neg (by decide)]; congr 2; simp; omega
  have f6 : binI .add .i64 ((7 * i : Nat) : Int) .i64 7 = some (.int .i64 (7 * i + 7 : Nat)) := by
    simp only [binI]; rw [i64_of (by omega) (by omega)]; simp
  have fs := shl_u64 (x := c % 128) (i := i) (by omega)
  rw [Nat.mod_eq_of_lt (show c % 128 * 128 ^ i < 18446744073709551616 by omega)] at fs
  have fo := or_u64 (a := u) (b := c % 128 * 128 ^ i) (by omega) (by omega)
  rw [or_add hu] at fo
  have fi : binI .add .i64 (i : Int) .i64 1 = some (.int .i64 (i + 1 : Nat)) := by
    simp only [binI]; rw [i64_of (by omega) (by omega)]; simp
  -- what is not bad
  have hcz : ∃ x y, binI .eql .u8 (c : Int) .u8 0 = some (.bool x) ∧ binI .gtr .i64 (i : Int) .i64 0 = some (.bool y) ∧ (x && y) = false := by
    refine ⟨_, _, rfl, rfl, ?_⟩
    simp
    omega
  obtain ⟨x, y, g1, g2, g3⟩ := hcz
  have hsh : ∃ w s q r, binI .gtr .i64 ((7 * i + 7 : Nat) : Int) .i64 64 = some (.bool w) ∧ binI .sub .i64 64 .i64 ((7 * i : Nat) : Int) = some (.int .i64 s) ∧ binI .shr .u64 ((c % 128 : Nat) : Int) .i64 s = some (.int .u64 q) ∧ binI .neq .u64 q .u64 0 = some (.bool r) ∧ (w && r) = false := by
    by_cases h9 : i = 9
    · subst h9
      exact ⟨true, 1, (c % 128 / 2 : Nat), false, rfl, rfl, shr1_u64', by simp only [binI]; rw [if_neg (by decide)]; congr 2; simp; omega, rfl⟩
    · refine ⟨false, 64 - (7 * i : Nat), ((c % 128 : Nat) : Int).fdiv (2 ^ (min (64 - ((7 * i : Nat) : Int)).toNat IntKind.u64.bits)), _, by simp only [binI]; rw [if_neg (by decide)]; congr 2; simp; omega, by simp only [binI]; rw [i64_of (by omega) (by omega)]; rfl, ?_, rfl, rfl⟩
      simp only [binI]
      rw [if_neg (by omega)]
  obtain ⟨w, s, q, r, k1, k2, k3, k4, k5⟩ := hsh
  have e1 := shr1_u64 (u := u + c % 128 * 128 ^ i)
  have e2 := and1_u64 hu'
  have e3 := xor_sign hu'
  have ew1 : IntKind.i64.wrap (((u + c % 128 * 128 ^ i) / 2 : Nat) : Int) = (((u + c % 128 * 128 ^ i) / 2 : Nat) : Int) := i64_of (by omega) (by omega)
  have ew2 : IntKind.i64.wrap (((u + c % 128 * 128 ^ i) % 2 : Nat) : Int) = (((u + c % 128 * 128 ^ i) % 2 : Nat) : Int) := i64_of (by omega) (by omega)
  have nx : binI .add .i64 (i : Int) .i64 1 = some (.int .i64 (i + 1 : Nat)) := fi
  by_cases hlt : c < 128
  · have f8 := lt128 hlt
    refine ⟨(env.set 12 (.int .i64 (i + 1 : Nat))).set 5 (.int .u64 (u + c % 128 * 128 ^ i : Nat)), ?_, ⟨s1, s2, rfl, rfl⟩⟩
    rw [if_pos hlt, v_Take_L1]
    cases w <;> cases r <;> (try (simp at k5; done)) <;> cases x <;> cases y <;> (try (simp at g3; done)) <;>
      (simp only [den, runVS, VS.run, allGood, bindAll, evAll, X.ev, obind_some, Option.isSome_some, Bool.and_true, ↓reduceIte, Env.set_at, Nat.reduceEqDiff, listOf, toIntV, bin, Bool.false_eq_true, s1, s2, s3, s4, f1, f2, ld_byte, fw, f3, f4, f5, f6, k1, k2, k3, k4, g1, g2, fs, fo, f8, fi, e1, e2, e3, ew1, ew2, un]; rfl)
  · have f8 := nlt128 hlt
    rw [v_Take_L1]
    simp only [if_neg hlt]
    cases w <;> cases r <;> (try (simp at k5; done)) <;> cases x <;> cases y <;> (try (simp at g3; done)) <;>
      (refine ⟨_, by simp only [den, runVS, VS.run, allGood, bindAll, X.ev, obind_some, Option.isSome_some, Bool.and_true, ↓reduceIte, Env.set_at, Nat.reduceEqDiff, toIntV, bin, Bool.false_eq_true, s1, s2, s3, s4, f1, f2, ld_byte, fw, f3, f4, f5, f6, k1, k2, k3, k4, g1, g2, fs, fo, f8, fi]; rfl, ?_⟩; exact ⟨s1, s2, rfl, rfl⟩)
theorem take_loop {C : CallV} {V : Nat → List PV → List PV → Bool} {b : List Nat} (hb : ∀ x ∈ b, x < 256) (hl : b.length < 1000) : ∀ (rest pre : List Nat) (u : Nat) (j : Nat) {env : Env}, b = pre ++ rest → TakeSt b pre.length u env → u < 128 ^ pre.length →
    (∃ env', takeW rest pre.length u = none ∧ loopN (den C V v_Take_L1) (rest.length + 1 + j) env = some (.exit 0 env')) ∨ (∃ r, loopN (den C V v_Take_L1) (rest.length + 1 + j) env = some (.ret r []) ∧ r = match takeW rest pre.length u with | some (v, k) => someT v k | none => noneT)
  | [], pre, u, j, env, hp, S, hu => by
    left
    refine ⟨env, rfl, ?_⟩
    obtain ⟨s1, s2, s3, s4⟩ := S
    have hn : b.length = pre.length := by rw [hp]; simp
    have f1 : binI .lss .i64 (pre.length : Int) .i64 (b.length : Int) = some (.bool false) := by simp [binI, hn]
    rw [show ([] : List Nat).length + 1 + j = j + 1 by simp; omega]
    simp only [loopN]
    rw [v_Take_L1]
    simp only [den, runVS, VS.run, allGood, bindAll, X.ev, obind_some, Option.isSome_some, Bool.and_true, ↓reduceIte, bin, s2, s3, f1]
  | c :: cs, pre, u, j, env, hp, S, hu => by
    have hi : b[pre.length]? = some c := by rw [hp]; simp
    have hc : c < 256 := hb c (by rw [hp]; simp)
    rw [show (c :: cs).length + 1 + j = (cs.length + 1 + j) + 1 by simp; omega]
    simp only [loopN, takeW]
    by_cases hbad : 10 ≤ pre.length ∨ (pre.length = 9 ∧ 2 ≤ c % 128) ∨ (c = 0 ∧ 0 < pre.length)
    · right
      rw [take_bad S hi hc hl hbad, if_pos hbad]
      exact ⟨_, rfl, rfl⟩
    · rw [if_neg hbad]
      have hlt : u + c % 128 * 128 ^ pre.length < 128 ^ (pre.length + 1) := by
        have : c % 128 * 128 ^ pre.length ≤ 127 * 128 ^ pre.length := Nat.mul_le_mul_right _ (by omega)
        rw [Nat.pow_succ]; omega
      have h64 : u + c % 128 * 128 ^ pre.length < 18446744073709551616 := by
        by_cases h9 : pre.length = 9
        · have h2 : c % 128 < 2 := by omega
          rw [h9] at hu ⊢
          have : c % 128 * 128 ^ 9 ≤ 1 * 128 ^ 9 := Nat.mul_le_mul_right _ (by omega)
          omega
        · have := pow9 (i := pre.length) (by omega); omega
      obtain ⟨env', h1, h2⟩ := take_good (C := C) (V := V) S hi hc hl hbad hu h64
      rw [h1]
      by_cases hc8 : c < 128
      · right
        rw [if_pos hc8, if_pos hc8]
        exact ⟨_, rfl, rfl⟩
      · rw [if_neg hc8, if_neg hc8]
        simp only
        have ih := take_loop (C := C) (V := V) hb hl cs (pre ++ [c]) _ j (env := env') (by rw [hp]; simp) (by simpa using h2) (by simpa using hlt)
        simpa using ih
def outT (x : Option (Nat × Nat)) : PV := match x with | some (v, k) => someT v k | none => noneT
theorem take_V {m : Nat} {b : List Nat} (hb : ∀ x ∈ b, x < 256) (hl : b.length < 1000) : callV tVT (m + 1) 12 [.lst (bytesV b) false] = some (outT (takeW b 0 0), []) := by
  refine callV_of (F := v_Take) rfl rfl rfl ?_ (.inr ?_)
  · generalize callV tVT m = C
    generalize vTab tVT = V
    have S : TakeSt b 0 0 (((((Env.ofArgs [PV.lst (bytesV b) false]).set 5 (.int .u64 0)).set 12 (.int .i64 0)).set 11 (.int .i64 b.length)).set 10 (.lst (bytesV b) false)) := ⟨rfl, rfl, rfl, rfl⟩
    have hbig : b.length + 1 + (bigN - (b.length + 1)) = bigN := by unfold bigN; omega
    have hlen : lenV (.lst (bytesV b) false) = some (.int .i64 b.length) := by simp [lenV, bytesV_len]
    refine (den_seq (env1 := (Env.ofArgs [PV.lst (bytesV b) false]).set 5 (.int .u64 0)) (by simp only [den, runVS, VS.run, allGood, bindAll, X.ev, obind_some, ↓reduceIte])).trans ?_
    have h0 : Env.ofArgs [PV.lst (bytesV b) false] 0 = PV.lst (bytesV b) false := rfl
    have hst : den C V (.st [.asg [] [(12, (N 0)), (11, (.len (.v 0))), (10, (.v 0))]]) ((Env.ofArgs [PV.lst (bytesV b) false]).set 5 (.int .u64 0)) = some (.norm (((((Env.ofArgs [PV.lst (bytesV b) false]).set 5 (.int .u64 0)).set 12 (.int .i64 0)).set 11 (.int .i64 b.length)).set 10 (.lst (bytesV b) false))) := by
      simp only [den, runVS, VS.run, allGood, bindAll, X.ev, obind_some, ↓reduceIte, Env.set_at, reduceCtorEq, h0, hlen]
    rcases take_loop (C := C) (V := V) hb hl b [] 0 (bigN - (b.length + 1)) (by simp) S (by decide) with ⟨env', h1, h2⟩ | ⟨r, h1, h2⟩
    · have hd := den_loop (C := C) (V := V) _ _ h2 hbig
      refine (den_seq (env1 := env') ((den_seq hst).trans (den_block hd))).trans ?_
      have : takeW b 0 0 = none := h1
      rw [this]
      simp only [den, runVS, VS.run, allGood, bindAll, evAll, X.ev, obind_some, ↓reduceIte, Env.set_at, Nat.reduceEqDiff, listOf]
      rfl
    · have hd := den_loop (C := C) (V := V) _ _ h1 hbig
      have hr : r = outT (takeW b 0 0) := h2
      rw [← hr]
      exact den_seq_ret ((den_seq hst).trans (den_block_ret hd))
  · cases takeW b 0 0 with
    | none => rfl
    | some p => rfl
end Gv

namespace Gv
open Go
theorem bytesOf_bytesV : ∀ l : List Nat, bytesOf (bytesV l) = some (l.map UInt8.ofNat)
  | [] => rfl
  | x :: l => by
    have e : bytesV (x :: l) = .int .u8 (x : Int) :: bytesV l := rfl
    rw [e, bytesOf, bytesOf_bytesV l]
    simp
theorem b2s_bytes (l : List Nat) : b2sV (.lst (bytesV l) false) = some (.str (l.map UInt8.ofNat)) := by
  simp only [b2sV, bytesOf_bytesV, Option.map_some]
theorem u8_inj : ∀ {l m : List Nat}, (∀ x ∈ l, x < 256) → (∀ x ∈ m, x < 256) → l.map UInt8.ofNat = m.map UInt8.ofNat → l = m
  | [], [], _, _, _ => rfl
  | [], _ :: _, _, _, h => by simp at h
  | _ :: _, [], _, _, h => by simp at h
  | x :: l, y :: m, h1, h2, h => by
    simp only [List.map_cons, List.cons.injEq] at h
    have hx := h1 x (by simp)
    have hy := h2 y (by simp)
    have hxy : x = y := by
      have h3 := congrArg UInt8.toNat h.1
      simp at h3
      omega
    rw [hxy, u8_inj (fun z hz => h1 z (by simp [hz])) (fun z hz => h2 z (by simp [hz])) h.2]
theorem nb_small : ∀ (k u : Nat), ∀ x ∈ nb k u, x < 256
  | 0, u, x, h => by simp [nb] at h
  | k + 1, u, x, h => by
    rw [nb] at h
    split at h
    · rcases List.mem_cons.1 h with h | h
      · omega
      · exact nb_small k _ x h
    · rw [List.mem_singleton.1 h]; omega
theorem nrmL_bytes (l : List Nat) : nrmL (bytesV l) = bytesV l := by
  rw [nrmL_map]; simp [bytesV, nrm]
theorem lstSz_bytes (l : List Nat) : lstSz (bytesV l) 1 = true := by
  cases l <;> rfl
theorem slice_bytes {b : List Nat} {k : Nat} (h : k ≤ b.length) : sliceV 1 (.lst (bytesV b) false) (.tup []) (.int .i64 k) (.tup []) = some (.lst (bytesV (b.take k)) false) := by
  have h1 : optNat (bytesV b).length (some (.int .i64 k)) = some k := by simp [optNat, asNat]
  have h2 : (0 ≤ k ∧ k ≤ (bytesV b).length ∧ (bytesV b).length ≤ (bytesV b).length ∧ lstSz (bytesV b) 1 = true) := ⟨by omega, by rw [bytesV_len]; exact h, Nat.le_refl _, lstSz_bytes b⟩
  have h3 : sliceLst 1 (bytesV b) false none (some (.int .i64 k)) none = some (.lst (bytesV (b.take k)) false) := by
    unfold sliceLst
    rw [h1]
    show (if 0 ≤ k ∧ k ≤ (bytesV b).length ∧ (bytesV b).length ≤ (bytesV b).length ∧ lstSz (bytesV b) 1 = true then _ else none) = _
    rw [if_pos h2]
    simp [bytesV, List.map_take]
  simp only [sliceV, optV]
  rw [if_neg (by simp), h3]
  simp [nrm, nrmL_bytes]
theorem and127n : ∀ m : Nat, m < 256 → (BitVec.ofInt 8 (m : Int) &&& BitVec.ofInt 8 127).toNat = m % 128 := by decide +kernel
theorem and127 {c : Nat} (h : c < 256) : binI .and .u8 (c : Int) .u8 127 = some (.int .u8 ((c % 128 : Nat) : Int)) := by
  show some (PV.int .u8 (IntKind.u8.wrap ((BitVec.ofInt 8 (c : Int) &&& BitVec.ofInt 8 127).toNat : Int))) = _
  rw [and127n c h, u8_small (by omega)]
theorem orR {u x i : Nat} (hu : u < 128 ^ i) (hi : i < 10) (hx : x < 128) : u ||| (x * 128 ^ i % 18446744073709551616) = (u + x * 128 ^ i) % 18446744073709551616 := by
  by_cases h9 : i = 9
  · subst h9
    have e1 : x * 128 ^ 9 % 18446744073709551616 = x % 2 * 128 ^ 9 := by omega
    rw [e1, or_add hu]
    omega
  · have h := pow9 (i := i) (by omega)
    have h2 : x * 128 ^ i ≤ 127 * 128 ^ i := Nat.mul_le_mul_right _ (by omega)
    rw [Nat.pow_succ] at h
    rw [Nat.mod_eq_of_lt (by omega), Nat.mod_eq_of_lt (by omega), or_add hu]
theorem neg_sub {u : Nat} (h : u < 18446744073709551616) (ho : u % 2 = 1) : (un .neg (.int .i64 ((u / 2 : Nat) : Int))) = some (.int .i64 (-((u / 2 : Nat) : Int))) ∧ binI .sub .i64 (-((u / 2 : Nat) : Int)) .i64 1 = some (.int .i64 (unzz u)) := by
  constructor
  · simp only [un]
    rw [i64_of (by omega) (by omega)]
    congr 2; omega
  · simp only [binI]
    rw [i64_of (by omega) (by omega)]
    simp [unzz, ho]
def noneR : PV := .tup [.int .i64 0, .int .i64 0]
def someR (u k : Nat) : PV := .tup [.int .i64 (unzz u), .int .i64 k]
def outR (x : Option (Nat × Nat)) : PV := match x with | some (v, k) => someR v k | none => noneR
structure TakeRSt (b : List Nat) (i u : Nat) (env : Env) : Prop where
  l : env 0 = .lst (bytesV b) false
  i : env 5 = .int .i64 i
  u : env 4 = .int .u64 u
def CNum (C : CallV) : Prop := ∀ n : Int, -9223372036854775808 ≤ n → n ≤ 9223372036854775807 → C 14 [.int .i64 n] = some (.lst (bytesV (number n)) false, [])
theorem lenV_bytes (b : List Nat) : lenV (.lst (bytesV b) false) = some (.int .i64 b.length) := by simp [lenV, bytesV_len]
theorem takeR_more {C : CallV} {V : Nat → List PV → List PV → Bool} {b : List Nat} {i u c : Nat} {env : Env} (S : TakeRSt b i u env) (hi : b[i]? = some c) (hc : c < 256) (hl : b.length < 1000) (h10 : i < 10) (hu : u < 128 ^ i) (hu64 : u < 18446744073709551616) (h128 : 128 ≤ c) :
    ∃ env', den C V v_TakeR_L1 env = some (.norm env') ∧ TakeRSt b (i + 1) ((u + c % 128 * 128 ^ i) % 18446744073709551616) env' := by
  obtain ⟨s1, s2, s3⟩ := S
  have hil : i < b.length := by
    rcases Nat.lt_or_ge i b.length with h' | h'
    · exact h'
    · rw [List.getElem?_eq_none h'] at hi; cases hi
  have f1 : binI .lss .i64 (i : Int) .i64 (b.length : Int) = some (.bool true) := by simp [binI, hil]
  have f1' : binI .lss .i64 (i : Int) .i64 10 = some (.bool true) := by
    have : (i : Int) < 10 := by omega
    simp [binI, this]
  have f2 := ia_byte hi
  have f3 := and127 hc
  have fw : IntKind.u64.wrap ((c % 128 : Nat) : Int) = (c % 128 : Nat) := by rw [u64_of]; omega
  have f4 : binI .mul .i64 7 .i64 (i : Int) = some (.int .i64 (7 * i : Nat)) := by
    simp only [binI]; rw [i64_of (by omega) (by omega)]; simp
  have fs := shl_u64 (x := c % 128) (i := i) (by omega)
  have fo := or_u64 (a := u) (b := c % 128 * 128 ^ i % 18446744073709551616) hu64 (Nat.mod_lt _ (by decide))
  rw [orR hu h10 (by omega)] at fo
  have f8 : binI .geq .u8 (c : Int) .u8 128 = some (.bool true) := by
    have : (128 : Int) ≤ c := by omega
    simp [binI, this]
  have fi : binI .add .i64 (i : Int) .i64 1 = some (.int .i64 (i + 1 : Nat)) := by
    simp only [binI]; rw [i64_of (by omega) (by omega)]; simp
  refine ⟨_, by rw [v_TakeR_L1]; simp only [den, runVS, VS.run, allGood, bindAll, X.ev, obind_some, Option.isSome_some, Bool.and_true, ↓reduceIte, Env.set_at, Nat.reduceEqDiff, reduceCtorEq, toIntV, bin, s1, s2, s3, lenV_bytes, f1, f1', f2, ld_byte, f3, fw, f4, fs, fo, f8, fi]; rfl, ?_⟩
  exact ⟨s1, rfl, rfl⟩
theorem takeR_last {C : CallV} {V : Nat → List PV → List PV → Bool} (hC : CNum C) {b : List Nat} (hb : ∀ x ∈ b, x < 256) {i u c : Nat} {env : Env} (S : TakeRSt b i u env) (hi : b[i]? = some c) (hl : b.length < 1000) (h10 : i < 10) (hu : u < 128 ^ i) (hu64 : u < 18446744073709551616) (h128 : ¬ 128 ≤ c) :
    den C V v_TakeR_L1 env = some (.ret (if nb 10 ((u + c % 128 * 128 ^ i) % 18446744073709551616) = b.take (i + 1) then someR ((u + c % 128 * 128 ^ i) % 18446744073709551616) (i + 1) else noneR) []) := by
  obtain ⟨s1, s2, s3⟩ := S
  have hc : c < 256 := by omega
  have hil : i < b.length := by
    rcases Nat.lt_or_ge i b.length with h' | h'
    · exact h'
    · rw [List.getElem?_eq_none h'] at hi; cases hi
  have f1 : binI .lss .i64 (i : Int) .i64 (b.length : Int) = some (.bool true) := by simp [binI, hil]
  have f1' : binI .lss .i64 (i : Int) .i64 10 = some (.bool true) := by
    have : (i : Int) < 10 := by omega
    simp [binI, this]
  have f2 := ia_byte hi
  have f3 := and127 hc
  have fw : IntKind.u64.wrap ((c % 128 : Nat) : Int) = (c % 128 : Nat) := by rw [u64_of]; omega
  have f4 : binI .mul .i64 7 .i64 (i : Int) = some (.int .i64 (7 * i : Nat)) := by
    simp only [binI]; rw [i64_of (by omega) (by omega)]; simp
  have fs := shl_u64 (x := c % 128) (i := i) (by omega)
  have fo := or_u64 (a := u) (b := c % 128 * 128 ^ i % 18446744073709551616) hu64 (Nat.mod_lt _ (by decide))
  rw [orR hu h10 (by omega)] at fo
  have f8 : binI .geq .u8 (c : Int) .u8 128 = some (.bool false) := by
    have : ¬ (128 : Int) ≤ c := by omega
    simp [binI, this]
  have fi : binI .add .i64 (i : Int) .i64 1 = some (.int .i64 (i + 1 : Nat)) := by
    simp only [binI]; rw [i64_of (by omega) (by omega)]; simp
  have hv : (u + c % 128 * 128 ^ i) % 18446744073709551616 < 18446744073709551616 := Nat.mod_lt _ (by decide)
  generalize (u + c % 128 * 128 ^ i) % 18446744073709551616 = v at fo hv ⊢
  have e1 := shr1_u64 (u := v)
  have e2 := and1_u64 hv
  have ew1 : IntKind.i64.wrap ((v / 2 : Nat) : Int) = ((v / 2 : Nat) : Int) := i64_of (by omega) (by omega)
  obtain ⟨lo, hi'⟩ := unzz_lo hv
  have ec : C 14 [.int .i64 (unzz v)] = some (.lst (bytesV (nb 10 v)) false, []) := by
    rw [hC _ lo hi', number, zz_unzz]
  have es := slice_bytes (b := b) (k := i + 1) (by omega)
  have hq : ∃ q, bin .neq (.str ((nb 10 v).map UInt8.ofNat)) (.str ((b.take (i + 1)).map UInt8.ofNat)) = some (.bool q) ∧ (q = false ↔ nb 10 v = b.take (i + 1)) := by
    refine ⟨_, rfl, ?_⟩
    have hbt : ∀ x ∈ b.take (i + 1), x < 256 := fun x hx => hb x (List.mem_of_mem_take hx)
    simp only [Bool.not_eq_eq_eq_not, Bool.not_false, beq_iff_eq]
    exact ⟨u8_inj (nb_small 10 v) hbt, fun h => by rw [h]⟩
  obtain ⟨q, q1, q2⟩ := hq
  simp only [bin] at q1
  by_cases ho : v % 2 = 1
  · obtain ⟨g1, g2⟩ := neg_sub hv ho
    have e3 : binI .eql .u64 ((v % 2 : Nat) : Int) .u64 1 = some (.bool true) := by rw [ho]; rfl
    cases q with
    | true =>
      rw [if_neg (fun h => by have := q2.2 h; cases this), v_TakeR_L1]
      simp only [den, runVS, VS.run, allGood, bindAll, evAll, X.ev, guardV, obind_some, Option.isSome_some, Bool.and_true, ↓reduceIte, Env.set_at, Nat.reduceEqDiff, reduceCtorEq, listOf, toIntV, bin, s1, s2, s3, lenV_bytes, f1, f1', f2, ld_byte, f3, fw, f4, fs, fo, f8, fi, e1, e2, e3, ew1, g1, g2, ec, Env.sets, List.length_nil, b2s_bytes, es, q1]
      rfl
    | false =>
      rw [if_pos (q2.1 rfl), v_TakeR_L1]
      simp only [den, runVS, VS.run, allGood, bindAll, evAll, X.ev, guardV, obind_some, Option.isSome_some, Bool.and_true, ↓reduceIte, Env.set_at, Nat.reduceEqDiff, reduceCtorEq, listOf, toIntV, bin, s1, s2, s3, lenV_bytes, f1, f1', f2, ld_byte, f3, fw, f4, fs, fo, f8, fi, e1, e2, e3, ew1, g1, g2, ec, Env.sets, List.length_nil, b2s_bytes, es, q1]
      rfl
  · have hz : ((v / 2 : Nat) : Int) = unzz v := by simp [unzz, show v % 2 = 0 by omega]
    have e3 : binI .eql .u64 ((v % 2 : Nat) : Int) .u64 1 = some (.bool false) := by rw [show v % 2 = 0 by omega]; rfl
    rw [hz] at ew1 e1
    cases q with
    | true =>
      rw [if_neg (fun h => by have := q2.2 h; cases this), v_TakeR_L1]
      simp only [den, runVS, VS.run, allGood, bindAll, evAll, X.ev, guardV, obind_some, Option.isSome_some, Bool.and_true, ↓reduceIte, Env.set_at, Nat.reduceEqDiff, reduceCtorEq, listOf, toIntV, bin, s1, s2, s3, lenV_bytes, f1, f1', f2, ld_byte, f3, fw, f4, fs, fo, f8, fi, e1, e2, e3, ew1, ec, Env.sets, List.length_nil, b2s_bytes, es, q1]
      rfl
    | false =>
      rw [if_pos (q2.1 rfl), v_TakeR_L1]
      simp only [den, runVS, VS.run, allGood, bindAll, evAll, X.ev, guardV, obind_some, Option.isSome_some, Bool.and_true, ↓reduceIte, Env.set_at, Nat.reduceEqDiff, reduceCtorEq, listOf, toIntV, bin, s1, s2, s3, lenV_bytes, f1, f1', f2, ld_byte, f3, fw, f4, fs, fo, f8, fi, e1, e2, e3, ew1, ec, Env.sets, List.length_nil, b2s_bytes, es, q1]
      rfl
theorem takeR_stop {C : CallV} {V : Nat → List PV → List PV → Bool} {b : List Nat} {i u : Nat} {env : Env} (S : TakeRSt b i u env) (h : b.length ≤ i ∨ 10 ≤ i) :
    den C V v_TakeR_L1 env = some (.exit 0 env) := by
  obtain ⟨s1, s2, s3⟩ := S
  by_cases hl : b.length ≤ i
  · have f1 : binI .lss .i64 (i : Int) .i64 (b.length : Int) = some (.bool false) := by
      have : ¬ (i : Int) < b.length := by omega
      simp [binI, this]
    rw [v_TakeR_L1]
    simp only [den, runVS, VS.run, allGood, bindAll, X.ev, obind_some, Option.isSome_some, Bool.and_true, ↓reduceIte, bin, Bool.false_eq_true, s1, s2, lenV_bytes, f1]
  · have f1 : binI .lss .i64 (i : Int) .i64 (b.length : Int) = some (.bool true) := by
      have : (i : Int) < b.length := by omega
      simp [binI, this]
    have f1' : binI .lss .i64 (i : Int) .i64 10 = some (.bool false) := by
      have : ¬ (i : Int) < 10 := by omega
      simp [binI, this]
    rw [v_TakeR_L1]
    simp only [den, runVS, VS.run, allGood, bindAll, X.ev, obind_some, Option.isSome_some, Bool.and_true, ↓reduceIte, bin, s1, s2, lenV_bytes, f1, f1']
theorem takeR_loop {C : CallV} {V : Nat → List PV → List PV → Bool} (hC : CNum C) {b : List Nat} (hb : ∀ x ∈ b, x < 256) (hl : b.length < 1000) : ∀ (rest pre : List Nat) (u : Nat) (j : Nat) {env : Env}, b = pre ++ rest → TakeRSt b pre.length u env → u < 128 ^ pre.length → u < 18446744073709551616 →
    (∃ env', takeR b rest pre.length u = none ∧ loopN (den C V v_TakeR_L1) (rest.length + 1 + j) env = some (.exit 0 env')) ∨ (loopN (den C V v_TakeR_L1) (rest.length + 1 + j) env = some (.ret (outR (takeR b rest pre.length u)) []))
  | [], pre, u, j, env, hp, S, hu, hu64 => by
    left
    refine ⟨env, rfl, ?_⟩
    rw [show ([] : List Nat).length + 1 + j = j + 1 by simp; omega]
    simp only [loopN, takeR_stop S (.inl (by rw [hp]; simp))]
  | c :: cs, pre, u, j, env, hp, S, hu, hu64 => by
    have hi : b[pre.length]? = some c := by rw [hp]; simp
    have hc : c < 256 := hb c (by rw [hp]; simp)
    rw [show (c :: cs).length + 1 + j = (cs.length + 1 + j) + 1 by simp; omega]
    simp only [loopN, takeR]
    by_cases h10 : 10 ≤ pre.length
    · left
      rw [takeR_stop S (.inr h10), if_pos h10]
      exact ⟨env, rfl, rfl⟩
    · rw [if_neg h10]
      by_cases h128 : 128 ≤ c
      · rw [if_pos h128]
        obtain ⟨env', h1, h2⟩ := takeR_more (C := C) (V := V) S hi hc hl (by omega) hu hu64 h128
        rw [h1]
        simp only
        have hlt : (u + c % 128 * 128 ^ pre.length) % 18446744073709551616 < 128 ^ (pre.length + 1) := by
          have h3 : c % 128 * 128 ^ pre.length ≤ 127 * 128 ^ pre.length := Nat.mul_le_mul_right _ (by omega)
          have h4 := Nat.mod_le (u + c % 128 * 128 ^ pre.length) 18446744073709551616
          rw [Nat.pow_succ]; omega
        have ih := takeR_loop (C := C) (V := V) hC hb hl cs (pre ++ [c]) _ j (env := env') (by rw [hp]; simp) (by simpa using h2) (by simpa using hlt) (Nat.mod_lt _ (by decide))
        simpa using ih
      · right
        rw [if_neg h128, takeR_last (C := C) (V := V) hC hb S hi hl (by omega) hu hu64 h128]
        simp only
        split <;> rfl
theorem takeR_V {m : Nat} {b : List Nat} (hb : ∀ x ∈ b, x < 256) (hl : b.length < 1000) : callV tVT (m + 2) 13 [.lst (bytesV b) false] = some (outR (takeR b b 0 0), []) := by
  have hC : CNum (callV tVT (m + 1)) := fun n h1 h2 => numberR_V h1 h2
  refine callV_of (m := m + 1) (F := v_TakeR) rfl rfl rfl ?_ (.inr ?_)
  · generalize callV tVT (m + 1) = C at hC ⊢
    generalize vTab tVT = V
    have S : TakeRSt b 0 0 (((Env.ofArgs [PV.lst (bytesV b) false]).set 4 (.int .u64 0)).set 5 (.int .i64 0)) := ⟨rfl, rfl, rfl⟩
    have hbig : b.length + 1 + (bigN - (b.length + 1)) = bigN := by unfold bigN; omega
    refine (den_seq (env1 := (Env.ofArgs [PV.lst (bytesV b) false]).set 4 (.int .u64 0)) (by simp only [den, runVS, VS.run, allGood, bindAll, X.ev, obind_some, ↓reduceIte])).trans ?_
    have hst : den C V (.st [.asg [] [(5, (N 0))]]) ((Env.ofArgs [PV.lst (bytesV b) false]).set 4 (.int .u64 0)) = some (.norm (((Env.ofArgs [PV.lst (bytesV b) false]).set 4 (.int .u64 0)).set 5 (.int .i64 0))) := by
      simp only [den, runVS, VS.run, allGood, bindAll, X.ev, obind_some, ↓reduceIte]
    rcases takeR_loop (C := C) (V := V) hC hb hl b [] 0 (bigN - (b.length + 1)) (by simp) S (by decide) (by decide) with ⟨env', h1, h2⟩ | h1
    · have hd := den_loop (C := C) (V := V) _ _ h2 hbig
      refine (den_seq (env1 := env') ((den_seq hst).trans (den_block hd))).trans ?_
      have : takeR b b 0 0 = none := h1
      rw [this]
      simp only [den, runVS, VS.run, allGood, bindAll, evAll, X.ev, obind_some, ↓reduceIte, Env.set_at, Nat.reduceEqDiff, listOf]
      rfl
    · have hd := den_loop (C := C) (V := V) _ _ h1 hbig
      exact den_seq_ret ((den_seq hst).trans (den_block_ret hd))
  · cases takeR b b 0 0 with
    | none => rfl
    | some p => rfl
end Gv

namespace Gv
open Go
theorem takeW_pos : ∀ (l : List Nat) (i u v k : Nat), takeW l i u = some (v, k) → 0 < k
  | [], _, _, _, _, h => by simp [takeW] at h
  | c :: cs, i, u, v, k, h => by
    simp only [takeW] at h
    split at h
    · cases h
    · split at h
      · cases h; omega
      · exact takeW_pos cs _ _ _ _ h
theorem takeW_le : ∀ (l : List Nat) (i u v k : Nat), takeW l i u = some (v, k) → k ≤ i + l.length
  | [], _, _, _, _, h => by simp [takeW] at h
  | c :: cs, i, u, v, k, h => by
    simp only [takeW] at h
    split at h
    · cases h
    · split at h
      · cases h; simp
      · have := takeW_le cs _ _ _ _ h; simp; omega
theorem nb_len : ∀ (k u : Nat), (nb k u).length ≤ k
  | 0, u => by simp [nb]
  | k + 1, u => by
    rw [nb]
    split
    · have := nb_len k (u / 128); simp; omega
    · simp
theorem yes_V {m : Nat} : callV tVT (m + 1) 10 [] = some (.bool true, []) := rfl
theorem eql_self (k : IntKind) (x : Int) : binI .eql k x k x = some (.bool true) := by simp [binI]
theorem neq_self (k : IntKind) (x : Int) : binI .neq k x k x = some (.bool false) := by simp [binI]
theorem neqS_self (x : List UInt8) : bin .neq (.str x) (.str x) = some (.bool false) := by simp [bin]
theorem wireNumbers_V {m : Nat} {n : Int} {b : List Nat} (h1 : -9223372036854775808 ≤ n) (h2 : n ≤ 9223372036854775807) (hb : ∀ x ∈ b, x < 256) : callV tVT (m + 3) 0 [.int .i64 n, .lst (bytesV b) false] = some (.bool true, []) := by
  have y10 : callV tVT (m + 2) 10 [] = some (.bool true, []) := yes_V
  have y11 : callV tVT (m + 2) 11 [.int .i64 n] = some (.lst (bytesV (number n)) false, []) := number_V h1 h2
  have y14 : callV tVT (m + 2) 14 [.int .i64 n] = some (.lst (bytesV (number n)) false, []) := numberR_V h1 h2
  have hnl : (number n).length ≤ 10 := nb_len 10 _
  have hns : ∀ x ∈ number n, x < 256 := nb_small 10 _
  have hl := zz_lt h1 h2
  refine callV_of (m := m + 2) (F := v_WireNumbers) rfl rfl rfl ?_ (.inr rfl)
  by_cases hbig : 100 < b.length
  · have f1 : binI .gtr .i64 (b.length : Int) .i64 100 = some (.bool true) := by
      have : (100 : Int) < b.length := by omega
      simp [binI, this]
    have a1 : Env.ofArgs [PV.int .i64 n, PV.lst (bytesV b) false] 1 = PV.lst (bytesV b) false := rfl
    simp only [v_WireNumbers]
    simp only [den, runVS, VS.run, allGood, bindAll, evAll, X.ev, guardV, obind_some, Option.isSome_some, Bool.and_true, ↓reduceIte, Env.set_at, bin, a1, lenV_bytes, f1, y10, Env.sets, List.length_nil]
  · have f1 : binI .gtr .i64 (b.length : Int) .i64 100 = some (.bool false) := by
      have : ¬ (100 : Int) < b.length := by omega
      simp [binI, this]
    have y12 : callV tVT (m + 2) 12 [.lst (bytesV (number n ++ b)) false] = some (.tup [.int .i64 n, .int .i64 (number n).length, .int .i64 0], []) := by
      have ht := take_number 9 (zz n) 0 0 b (by omega) (by omega) (by omega) (by omega)
      rw [take_V (m := m + 1) (b := number n ++ b) (fun x hx => by
        rcases List.mem_append.1 hx with h | h
        · exact hns x h
        · exact hb x h) (by simp; omega)]
      have ht' : takeW (number n ++ b) 0 0 = some (zz n, (number n).length) := by
        have h : takeW (number n ++ b) 0 0 = some (0 + zz n * 128 ^ 0, 0 + (number n).length) := ht
        rw [h]; simp
      rw [ht', outT, someT, unzz_zz]
    have a0 : Env.ofArgs [PV.int .i64 n, PV.lst (bytesV b) false] 0 = PV.int .i64 n := rfl
    have a1 : Env.ofArgs [PV.int .i64 n, PV.lst (bytesV b) false] 1 = PV.lst (bytesV b) false := rfl
    have p1 : appV 1 (.lst [] false) (.lst (bytesV (number n)) false) = some (.lst (bytesV (number n)) false) := app_bytes (l := []) (by simp; omega)
    have p2 := app_bytes (l := number n) (m := b) (by omega)
    have z12 := take_V (m := m + 1) (b := b) hb (by omega)
    have z13 := takeR_V (m := m) (b := b) hb (by omega)
    have hsame : takeW b 0 0 = takeR b b 0 0 := take_same b [] (by simp) hb (by simp) (.inr trivial) (by simp)
    rw [← hsame] at z13
    have hn := neq_self .i64 n
    have hk := neq_self .i64 ((number n).length : Int)
    have hs := neqS_self ((number n).map UInt8.ofNat)
    simp only [bin] at hs
    have h00 : binI .neq .i64 0 .i64 0 = some (.bool false) := rfl
    simp only [v_WireNumbers]
    cases ht : takeW b 0 0 with
    | none =>
      rw [ht] at z12 z13
      simp only [outT, outR, noneT, noneR] at z12 z13
      have g1 : binI .eql .i64 0 .i64 0 = some (.bool true) := rfl
      have g2 : binI .eql .i64 2 .i64 0 = some (.bool false) := rfl
      have g3 : binI .eql .i64 2 .i64 2 = some (.bool true) := rfl
      have g4 : binI .gtr .i64 0 .i64 0 = some (.bool false) := rfl
      have g5 : eqb false (.bool false) (.bool false) = some (.bool true) := rfl
      simp only [den, runVS, VS.run, allGood, bindAll, evAll, X.ev, guardV, obind_some, Option.isSome_some, Bool.and_true, ↓reduceIte, Env.set_at, Nat.reduceEqDiff, reduceCtorEq, listOf, bin, a0, a1, lenV_bytes, f1, y10, y11, y12, y14, z12, z13, p1, p2, Env.sets, List.length_nil, beq_self_eq_true, Bool.not_true, extV, List.getElem?_cons_zero, List.getElem?_cons_succ, b2s_bytes, hn, hk, h00, g1, g2, g3, g4, g5]
      try rfl
    | some p =>
      obtain ⟨v, k⟩ := p
      have hp := takeW_pos b 0 0 v k ht
      rw [ht] at z12 z13
      simp only [outT, outR, someT, someR] at z12 z13
      have g1 := eql_self .i64 (unzz v)
      have g2 := eql_self .i64 (k : Int)
      have g3 : binI .eql .i64 0 .i64 0 = some (.bool true) := rfl
      have g4 : binI .gtr .i64 (k : Int) .i64 0 = some (.bool true) := by
        simp [binI, hp]
      have g5 : eqb false (.bool true) (.bool true) = some (.bool true) := rfl
      simp only [den, runVS, VS.run, allGood, bindAll, evAll, X.ev, guardV, obind_some, Option.isSome_some, Bool.and_true, ↓reduceIte, Env.set_at, Nat.reduceEqDiff, reduceCtorEq, listOf, bin, a0, a1, lenV_bytes, f1, y10, y11, y12, y14, z12, z13, p1, p2, Env.sets, List.length_nil, beq_self_eq_true, Bool.not_true, extV, List.getElem?_cons_zero, List.getElem?_cons_succ, b2s_bytes, hn, hk, h00, g1, g2, g3, g4, g5]
      try rfl
end Gv
