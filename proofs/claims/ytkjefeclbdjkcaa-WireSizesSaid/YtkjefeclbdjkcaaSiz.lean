/- What this file proves: one part of the proof that the law answers true for every input, by an interpreter that is proved sound against the given model. -/
import Derived.Test.YtkjefeclbdjkcaaEc
import Derived.Test.YtkjefeclbdjkcaaIrw
import Derived.Test.YtkjefeclbdjkcaaAw
namespace Gv
open Go

def numTest : ICode := .seq
        (.reg [⟨some 11, .mov (.t 3), none, []⟩, ⟨some 12, .bin .geq (.t 11) (.c (.int .u64 128)), none, []⟩] false)
        (.cond (.t 12) .skip (.exit 0))
def numPush : ICode := .block 1
         (.reg [⟨some 15, .mov (.t 2), none, []⟩, ⟨some 16, .mov (.t 3), none, []⟩, ⟨some 17, .toInt .u8 (.t 16), none, []⟩, ⟨some 18, .bin .or (.t 17) (.c (.int .u8 128)), none, []⟩, ⟨some 19, .buildSlice none [(.t 18)] 0, none, []⟩, ⟨some 20, .append 1 (.t 15) (.t 19) 1, none, []⟩, ⟨some 2, .mov (.t 20), none, []⟩] false)
def numNext : ICode := .reg [⟨some 13, .mov (.t 3), none, []⟩, ⟨some 14, .bin .shr (.t 13) (.c (.int .u64 7)), none, []⟩, ⟨some 3, .mov (.t 14), none, []⟩] false
def numLoop : ICode := .loop (.seq numTest (.seq numPush numNext))

structure NumSt (u : Nat) (os : List Nat) (σ : St) : Prop where
  len : σ.fr.length = 26
  t3 : nth σ.fr 3 = .int .u64 u
  hp : ∃ e0 v b e2 e3, σ.h = ⟨[], [e0, ⟨v, b⟩, e2, e3]⟩ ∧ ((os = [] ∧ nth σ.fr 2 = .nils) ∨ (os ≠ [] ∧ nth σ.fr 2 = .tok (.l 1) v 1 0 os.length os.length false ∧ b = some ⟨1, os.map (fun (n : Nat) => PV.int .u8 (n : Int)), false⟩))

theorem num_test {FT : Nat → Option IFun} {u : Nat} {os : List Nat} {σ : St} (N : NumSt u os σ) (k : Nat) :
    ∃ σ', exec FT (k + 3) numTest σ = some (if 128 ≤ u then .norm else .exit 0, σ') ∧ NumSt u os σ' := by
  obtain ⟨h1, h2, e0, v, b, e2, e3, h3, h4⟩ := N
  by_cases hu : 128 ≤ u
  · have hi : (128 : Int) ≤ u := by omega
    refine ⟨⟨upd (upd σ.fr 11 (.int .u64 u)) 12 (.bool true), σ.h⟩, ?_, ⟨by simp [upd_length, h1], by simp [nth_upd, h2], e0, v, b, e2, e3, h3, by simpa [nth_upd] using h4⟩⟩
    simp [numTest, exec, runOps, stepOp, wanted, sem, PO.ev, nth_upd, upd_length, putDst, HM.run, HM.ofO, bin, binI, h1, h2, hu, hi]
  · have hi : ¬ (128 : Int) ≤ u := by omega
    refine ⟨⟨upd (upd σ.fr 11 (.int .u64 u)) 12 (.bool false), σ.h⟩, ?_, ⟨by simp [upd_length, h1], by simp [nth_upd, h2], e0, v, b, e2, e3, h3, by simpa [nth_upd] using h4⟩⟩
    simp [numTest, exec, runOps, stepOp, wanted, sem, PO.ev, nth_upd, upd_length, putDst, HM.run, HM.ofO, bin, binI, h1, h2, hu, hi]
theorem shr7 {u : Nat} (hu : u < 18446744073709551616) : ((u : Int).fdiv (2 ^ (min (Int.toNat 7) 64))) = ((u / 128 : Nat) : Int) := by
  have : (2 : Int) ^ (min (Int.toNat 7) 64) = ((128 : Nat) : Int) := by decide
  rw [this, Int.fdiv_eq_ediv_of_nonneg _ (by omega)]
  exact (Int.natCast_ediv u 128).symm
theorem wrap64 {x : Nat} (h : x < 18446744073709551616) : IntKind.u64.wrap (x : Int) = x := by
  unfold IntKind.wrap
  simp [IntKind.signed, IntKind.bits]
  omega
theorem num_next {FT : Nat → Option IFun} {u : Nat} {os : List Nat} {σ : St} (N : NumSt u os σ) (hu : u < 18446744073709551616) (k : Nat) :
    ∃ σ', exec FT (k + 1) numNext σ = some (.norm, σ') ∧ NumSt (u / 128) os σ' := by
  obtain ⟨h1, h2, e0, v, b, e2, e3, h3, h4⟩ := N
  have hb : binI .shr .u64 (u : Int) .u64 7 = some (.int .u64 ((u / 128 : Nat) : Int)) := by
    have h9 := shr7 hu
    simp only [binI, IntKind.bits] at h9 ⊢
    rw [if_neg (by decide), h9]
  refine ⟨⟨upd (upd (upd σ.fr 13 (.int .u64 u)) 14 (.int .u64 (u / 128 : Nat))) 3 (.int .u64 (u / 128 : Nat)), σ.h⟩, ?_, ⟨by simp [upd_length, h1], by simp [nth_upd, h1, upd_length], e0, v, b, e2, e3, h3, by simpa [nth_upd] using h4⟩⟩
  simp [numNext, exec, runOps, stepOp, wanted, sem, PO.ev, nth_upd, upd_length, putDst, HM.run, HM.ofO, bin, hb, h1, h2]
theorem or128n : ∀ m : Nat, m < 256 → (BitVec.ofInt 8 (m : Int) ||| BitVec.ofInt 8 128).toNat = m % 128 + 128 := by decide +kernel
theorem or128 {u : Nat} : binI .or .u8 (IntKind.u8.wrap (u : Int)) .u8 128 = some (.int .u8 ((u % 128 + 128 : Nat) : Int)) := by
  have hw : IntKind.u8.wrap (u : Int) = ((u % 256 : Nat) : Int) := by
    unfold IntKind.wrap
    simp [IntKind.signed, IntKind.bits]
  have h1 := or128n (u % 256) (Nat.mod_lt _ (by decide))
  have h2 : u % 256 % 128 = u % 128 := by omega
  have h3 : IntKind.u8.wrap ((u % 128 + 128 : Nat) : Int) = ((u % 128 + 128 : Nat) : Int) := by
    unfold IntKind.wrap
    simp [IntKind.signed, IntKind.bits]
    omega
  rw [hw]
  show some (PV.int .u8 (IntKind.u8.wrap ((BitVec.ofInt 8 ((u % 256 : Nat) : Int) ||| BitVec.ofInt 8 128).toNat : Int))) = _
  rw [h1, h2, h3]
theorem num_push {FT : Nat → Option IFun} {u : Nat} {os : List Nat} {σ : St} (N : NumSt u os σ) (ho : os.length < 1000) (k : Nat) :
    ∃ σ', exec FT (k + 2) numPush σ = some (.norm, σ') ∧ NumSt u (os ++ [u % 128 + 128]) σ' := by
  obtain ⟨h1, h2, e0, v, b, e2, e3, h3, h4⟩ := N
  have hb := or128 (u := u)
  generalize hr : exec FT (k + 2) numPush σ = r
  rcases h4 with ⟨rfl, h4⟩ | ⟨hne, h4, rfl⟩
  · simp [numPush, exec, runOps, stepOp, wanted, sem, PO.ev, nth_upd, upd_length, putDst, HM.run, HM.ofO, bin, hb, h1, h2, h3, h4, toIntPV, evL, buildSliceHM, okElems, PV.fits, okCells, PV.cells, PV.isCell, newBlk, HM.bind, Heap.get, Heap.put, appendHM, elems, liveBlk, sized, HM.mapM, freezeC, appendNew, maxNew] at hr
    subst hr
    exact ⟨_, rfl, by simp [upd_length, h1], by simp [nth_upd, upd_length, h1, h2], _, _, _, _, _, rfl, .inr ⟨by simp, by simp [nth_upd, upd_length, h1], by simp⟩⟩
  · have q2 : ¬ (os.length = 0) := fun e => hne (List.eq_nil_of_length_eq_zero e)
    have q3 : os.length + 1 < 2147483648 := by omega
    have q4 : ¬ (os.length + 1 ≤ os.length) := by omega
    have q5 : List.take os.length (List.map (fun (n : Nat) => PV.int .u8 (n : Int)) os) = List.map (fun (n : Nat) => PV.int .u8 (n : Int)) os := List.take_of_length_le (by simp)
    simp [numPush, exec, runOps, stepOp, wanted, sem, PO.ev, nth_upd, upd_length, putDst, HM.run, HM.ofO, bin, hb, h1, h2, h3, h4, toIntPV, evL, buildSliceHM, okElems, PV.fits, okCells, PV.cells, PV.isCell, newBlk, HM.bind, Heap.get, Heap.put, appendHM, elems, liveBlk, sized, HM.mapM, freezeC, appendTok, maxNew, hne, q2, q3, q4, q5] at hr
    subst hr
    exact ⟨_, rfl, by simp [upd_length, h1], by simp [nth_upd, upd_length, h1, h2], _, _, _, _, _, rfl, .inr ⟨by simp, by simp [nth_upd, upd_length, h1], by simp⟩⟩

/-- The bytes of a number, by groups of seven. -/
def nb : Nat → Nat → List Nat
  | 0, _ => []
  | k + 1, u => if 128 ≤ u then (u % 128 + 128) :: nb k (u / 128) else [u]

theorem num_loop {FT : Nat → Option IFun} : ∀ (k : Nat) {u : Nat} {os : List Nat} {σ : St}, NumSt u os σ → u < 18446744073709551616 → u < 128 ^ (k + 1) → os.length + k < 1000 →
    ∃ σ' l us, exec FT (k + 9) numLoop σ = some (.exit 0, σ') ∧ NumSt us (os ++ l) σ' ∧ us < 128 ∧ nb (k + 1) u = l ++ [us]
  | 0, u, os, σ, N, hu, hk, ho => by
    obtain ⟨σ1, h1, N1⟩ := num_test (FT := FT) N 4
    have hu' : ¬ 128 ≤ u := by omega
    rw [if_neg hu'] at h1
    refine ⟨σ1, [], u, ?_, by simpa using N1, by omega, by simp [nb, hu']⟩
    have hb : exec FT 8 (.seq numTest (.seq numPush numNext)) σ = some (.exit 0, σ1) := by
      rw [exec.eq_def]; simp only
      rw [h1]
    show exec FT 9 numLoop σ = _
    unfold numLoop
    rw [exec.eq_def]; simp only
    rw [hb]
  | k + 1, u, os, σ, N, hu, hk, ho => by
    by_cases hu' : 128 ≤ u
    · obtain ⟨σ1, h1, N1⟩ := num_test (FT := FT) N (k + 5)
      rw [if_pos hu'] at h1
      obtain ⟨σ2, h2, N2⟩ := num_push (FT := FT) N1 (by omega) (k + 5)
      obtain ⟨σ3, h3, N3⟩ := num_next (FT := FT) N2 hu (k + 6)
      have hd : u / 128 < 128 ^ (k + 1) := by
        rw [Nat.div_lt_iff_lt_mul (by decide)]
        have : 128 ^ (k + 1 + 1) = 128 ^ (k + 1) * 128 := Nat.pow_succ ..
        omega
      obtain ⟨σ4, l, us, h4, N4, h5, h6⟩ := num_loop (FT := FT) k N3 (by omega) hd (by simp; omega)
      refine ⟨σ4, (u % 128 + 128) :: l, us, ?_, by simpa using N4, h5, ?_⟩
      · rw [show k + 1 + 9 = (k + 9) + 1 by omega]
        unfold numLoop
        rw [exec.eq_def]
        simp only
        have hb : exec FT (k + 9) (.seq numTest (.seq numPush numNext)) σ = some (.norm, σ3) := by
          rw [exec.eq_def]; simp only
          rw [show k + 8 = (k + 5) + 3 by omega, h1]; simp only
          rw [exec.eq_def]; simp only
          rw [show k + 7 = (k + 5) + 2 by omega, h2]; simp only
          exact h3
        rw [hb]
        exact h4
      · rw [nb, if_pos hu', h6]; rfl
    · obtain ⟨σ1, h1, N1⟩ := num_test (FT := FT) N (k + 5)
      rw [if_neg hu'] at h1
      refine ⟨σ1, [], u, ?_, by simpa using N1, by omega, by simp [nb, hu']⟩
      have hb : exec FT (k + 9) (.seq numTest (.seq numPush numNext)) σ = some (.exit 0, σ1) := by
        rw [exec.eq_def]; simp only
        rw [show k + 8 = (k + 5) + 3 by omega, h1]
      rw [show k + 1 + 9 = (k + 9) + 1 by omega]
      unfold numLoop
      rw [exec.eq_def]; simp only
      rw [hb]
end Gv

namespace Gv
open Go

/-- A number's fold: signs last. -/
def zz (n : Int) : Nat := if 0 ≤ n then (2 * n).toNat else (-2 * n - 1).toNat
theorem u64_of (x : Int) : IntKind.u64.wrap x = x % 18446744073709551616 := by
  unfold IntKind.wrap
  simp [IntKind.signed, IntKind.bits]
theorem i64_of {x : Int} (h1 : -9223372036854775808 ≤ x) (h2 : x ≤ 9223372036854775807) : IntKind.i64.wrap x = x := by
  rw [IntKind.wrap_i64]; omega
theorem zz_shr {n : Int} (h1 : -9223372036854775808 ≤ n) (h2 : n ≤ 9223372036854775807) : binI .shr .i64 n .u64 63 = some (.int .i64 (if 0 ≤ n then 0 else -1)) := by
  simp only [binI, IntKind.bits]
  rw [if_neg (by decide)]
  have e : (2 : Int) ^ (min (Int.toNat 63) 64) = 9223372036854775808 := by decide
  rw [e, Int.fdiv_eq_ediv_of_nonneg _ (by decide)]
  congr 2
  split <;> omega
theorem zz_shl {n : Int} (h1 : -9223372036854775808 ≤ n) (h2 : n ≤ 9223372036854775807) : binI .shl .u64 (IntKind.u64.wrap n) .u64 1 = some (.int .u64 ((2 * n) % 18446744073709551616)) := by
  simp only [binI, IntKind.bits]
  rw [if_neg (by decide)]
  have e : (2 : Int) ^ (min (Int.toNat 1) 64) = 2 := by decide
  rw [e, u64_of, u64_of]
  congr 2
  omega
theorem zz_xor {n : Int} (h1 : -9223372036854775808 ≤ n) (h2 : n ≤ 9223372036854775807) : binI .xor .u64 ((2 * n) % 18446744073709551616) .u64 (IntKind.u64.wrap (if 0 ≤ n then 0 else -1)) = some (.int .u64 (zz n)) := by
  simp only [binI, ne_eq, not_true_eq_false, if_false]
  show some (PV.int .u64 (IntKind.u64.wrap ((BitVec.ofInt 64 ((2 * n) % 18446744073709551616) ^^^ BitVec.ofInt 64 (IntKind.u64.wrap (if 0 ≤ n then 0 else -1))).toNat : Int))) = _
  rw [u64_of, u64_of]
  congr 2
  by_cases hn : 0 ≤ n
  · rw [if_pos hn]
    have e : BitVec.ofInt 64 ((0 : Int) % 18446744073709551616) = 0#64 := by decide
    rw [e, BitVec.xor_zero, BitVec.toNat_ofInt]
    unfold zz
    rw [if_pos hn]
    simp
    omega
  · rw [if_neg hn]
    have e : BitVec.ofInt 64 ((-1 : Int) % 18446744073709551616) = BitVec.allOnes 64 := by decide
    rw [e, BitVec.xor_allOnes, BitVec.toNat_not, BitVec.toNat_ofInt]
    unfold zz
    rw [if_neg hn]
    simp
    omega
theorem zz_lt {n : Int} (h1 : -9223372036854775808 ≤ n) (h2 : n ≤ 9223372036854775807) : zz n < 18446744073709551616 := by
  unfold zz; split <;> omega
end Gv

namespace Gv
open Go

def bytesV (l : List Nat) : List PV := l.map fun (n : Nat) => PV.int .u8 (n : Int)
def numHead : ICode := .reg [⟨some 2, .mov (.c .nils), none, []⟩] false
def numZz : ICode := .reg [⟨some 4, .mov (.t 0), none, []⟩, ⟨some 5, .toInt .u64 (.t 4), none, []⟩, ⟨some 6, .bin .shl (.t 5) (.c (.int .u64 1)), none, []⟩, ⟨some 7, .mov (.t 0), none, []⟩, ⟨some 8, .bin .shr (.t 7) (.c (.int .u64 63)), none, []⟩, ⟨some 9, .toInt .u64 (.t 8), none, []⟩, ⟨some 10, .bin .xor (.t 6) (.t 9), none, []⟩, ⟨some 3, .mov (.t 10), none, []⟩] false
def numEnd : ICode := .reg [⟨some 21, .mov (.t 2), none, []⟩, ⟨some 22, .mov (.t 3), none, []⟩, ⟨some 23, .toInt .u8 (.t 22), none, []⟩, ⟨some 24, .buildSlice none [(.t 23)] 2, none, []⟩, ⟨some 25, .append 1 (.t 21) (.t 24) 3, none, []⟩, ⟨some 2, .mov (.t 25), none, []⟩] false
theorem numBody : f_wire_Number = ⟨26, 4, true, [true], [.tmp 2], .seq numHead (.seq numZz (.seq (.block 0 numLoop) (.seq numEnd .ret))), none⟩ := rfl

/-- What Number's end leaves: a slice of its own. -/
theorem num_end {FT : Nat → Option IFun} {u : Nat} {os : List Nat} {σ : St} (N : NumSt u os σ) (hu : u < 128) (ho : os.length < 1000) (k : Nat) :
    ∃ fr h s v, exec FT (k + 1) numEnd σ = some (.norm, ⟨fr, h⟩) ∧ h.A = [] ∧ nth fr 2 = .tok (.l s) v 1 0 (os.length + 1) (os.length + 1) false ∧ h.get (.l s) = some ⟨v, some ⟨1, bytesV (os ++ [u]), false⟩⟩ := by
  obtain ⟨h1, h2, e0, v, b, e2, e3, h3, h4⟩ := N
  have hw : IntKind.u8.wrap (u : Int) = (u : Int) := by
    unfold IntKind.wrap
    simp [IntKind.signed, IntKind.bits]
    omega
  generalize hr : exec FT (k + 1) numEnd σ = r
  rcases h4 with ⟨rfl, h4⟩ | ⟨hne, h4, rfl⟩
  · simp [numEnd, exec, runOps, stepOp, wanted, sem, PO.ev, nth_upd, upd_length, putDst, HM.run, HM.ofO, h1, h2, h3, h4, hw, toIntPV, evL, buildSliceHM, okElems, PV.fits, okCells, PV.cells, PV.isCell, newBlk, HM.bind, Heap.get, Heap.put, appendHM, elems, liveBlk, sized, HM.mapM, freezeC, appendNew, maxNew] at hr
    subst hr
    exact ⟨_, _, 3, e3.ver + 1, rfl, rfl, by simp [nth_upd, upd_length, h1], by simp [Heap.get, bytesV]⟩
  · have q2 : ¬ (os.length = 0) := fun e => hne (List.eq_nil_of_length_eq_zero e)
    have q3 : os.length + 1 < 2147483648 := by omega
    have q4 : ¬ (os.length + 1 ≤ os.length) := by omega
    have q5 : List.take os.length (List.map (fun (n : Nat) => PV.int .u8 (n : Int)) os) = List.map (fun (n : Nat) => PV.int .u8 (n : Int)) os := List.take_of_length_le (by simp)
    simp [numEnd, exec, runOps, stepOp, wanted, sem, PO.ev, nth_upd, upd_length, putDst, HM.run, HM.ofO, h1, h2, h3, h4, hw, toIntPV, evL, buildSliceHM, okElems, PV.fits, okCells, PV.cells, PV.isCell, newBlk, HM.bind, Heap.get, Heap.put, appendHM, elems, liveBlk, sized, HM.mapM, freezeC, appendTok, maxNew, hne, q2, q3, q4, q5] at hr
    subst hr
    exact ⟨_, _, 3, e3.ver + 1, rfl, rfl, by simp [nth_upd, upd_length, h1], by simp [Heap.get, bytesV]⟩

theorem num_start {FT : Nat → Option IFun} {n : Int} (h1 : -9223372036854775808 ≤ n) (h2 : n ≤ 9223372036854775807) (k k' : Nat) {rest : List PV} (hr : rest.length = 25) {L : List Ent} (hL : ∃ a b c d, L = [a, b, c, d]) :
    ∃ σ1 σ2, exec FT (k + 1) numHead ⟨.int .i64 n :: rest, ⟨[], L⟩⟩ = some (.norm, σ1) ∧ exec FT (k' + 1) numZz σ1 = some (.norm, σ2) ∧ NumSt (zz n) [] σ2 := by
  have e1 := zz_shl h1 h2
  have e2 := zz_shr h1 h2
  have e3 := zz_xor h1 h2
  obtain ⟨a, b, c, d, rfl⟩ := hL
  generalize hr1 : exec FT (k + 1) numHead ⟨.int .i64 n :: rest, ⟨[], [a, b, c, d]⟩⟩ = r
  simp [numHead, exec, runOps, stepOp, wanted, sem, PO.ev, putDst, HM.run] at hr1
  subst hr1
  refine ⟨⟨upd (.int .i64 n :: rest) 2 .nils, ⟨[], [a, b, c, d]⟩⟩, ?_⟩
  generalize hr2 : exec FT (k' + 1) numZz ⟨upd (.int .i64 n :: rest) 2 .nils, ⟨[], [a, b, c, d]⟩⟩ = r
  have hn0 : nth (.int .i64 n :: rest) 0 = .int .i64 n := rfl
  simp [numZz, exec, runOps, stepOp, wanted, sem, PO.ev, nth_upd, upd_length, putDst, HM.run, HM.ofO, bin, toIntPV, e1, e2, e3, hr, hn0] at hr2
  subst hr2
  refine ⟨_, rfl, rfl, ⟨?_, ?_, a, b.ver, b.blk, c, d, rfl, .inl ⟨rfl, ?_⟩⟩⟩
  · simp [upd_length, hr]
  · simp [nth_upd, upd_length, hr]
  · simp [nth_upd, upd_length, hr]

theorem bytes_frozen (l : List Nat) : ∀ k : Nat, HM.mapM (freezeC (k + 1)) (bytesV l) = .ret (bytesV l) := by
  intro k
  induction l with
  | nil => rfl
  | cons x l ih =>
    have e : bytesV (x :: l) = .int .u8 (x : Int) :: bytesV l := rfl
    have e2 : freezeC (k + 1) (.int .u8 (x : Int)) = .ret (.int .u8 (x : Int)) := rfl
    rw [e, HM.mapM, e2]
    show (HM.mapM (freezeC (k + 1)) (bytesV l)).bind _ = _
    rw [ih]
    rfl
theorem freezeC_tok (n s ver sz off len room : Nat) (c0 : Bool) : freezeC (n + 1) (.tok (.l s) ver sz off len room c0) = if len = 0 then .ret (.lst [] c0) else
    (elems (.tok (.l s) ver sz off len 0 c0)).bind fun es => (HM.mapM (freezeC n) es).bind fun es' => (liveBlk (.l s) ver).bind fun _ => .set (.l s) ⟨ver, none⟩ (.ret (.lst es' c0)) := rfl
/-- A function hands back a slice of its own. -/
theorem finish_slice {F : IFun} {fr : List PV} {h : Heap} {s v sz t : Nat} {es : List PV} (hres : F.res = [.tmp t]) (hfrz : F.frz = true) (htok : nth fr t = .tok (.l s) v sz 0 es.length es.length false) (hne : es ≠ [])
    (hg : h.get (.l s) = some ⟨v, some ⟨sz, es, false⟩⟩) (hfz : HM.mapM (freezeC 8) es = .ret es) : ∃ h', (finish F 0 fr).run h = some ((.lst es false, []), h') := by
  have hl : ¬ (es.length = 0) := fun e => hne (List.eq_nil_of_length_eq_zero e)
  have hel : (elems (.tok (.l s) v sz 0 es.length 0 false)).run h = some (es, h) := by
    simp only [elems, if_neg hl]
    rw [HM.run_bind]
    simp [liveBlk, HM.run, hg, HM.ofO]
  have hlb : (liveBlk (.l s) v).run h = some (⟨sz, es, false⟩, h) := by simp [liveBlk, HM.run, hg, HM.ofO]
  have hfr : (freezeC 9 (.tok (.l s) v sz 0 es.length es.length false)).run h = some (.lst es false, h.put (.l s) ⟨v, none⟩) := by
    rw [freezeC_tok, if_neg hl, HM.run_bind, hel]
    simp only
    rw [HM.run_bind, hfz]
    simp only [HM.run]
    rw [HM.run_bind, hlb]
    simp only [HM.run, hg]
  refine ⟨h.put (.l s) ⟨v, none⟩, ?_⟩
  unfold finish
  rw [HM.run_bind]
  have hr : (resOf fr F.res).run h = some ([.tok (.l s) v sz 0 es.length es.length false], h) := by
    rw [hres]; simp only [resOf, HM.bind, HM.run, htok]
  rw [hr]
  simp only
  rw [HM.run_bind, hfrz]
  simp only [if_true, one]
  rw [hfr]
  rfl
/-- A number's bytes, as Number makes them. -/
def number (n : Int) : List Nat := nb 10 (zz n)
theorem number_ok {FT : Nat → Option IFun} (hF : FT 11 = some f_wire_Number) {n : Int} (h1 : -9223372036854775808 ≤ n) (h2 : n ≤ 9223372036854775807) :
    callE FT 30 11 [.int .i64 n] [] = some (.lst (bytesV (number n)) false, []) := by
  rw [callE.eq_def]
  simp only [hF, numBody]
  obtain ⟨σ1, σ2, g1, g2, N⟩ := num_start (FT := FT) h1 h2 27 26 (rest := List.replicate 25 .junk) (by simp) (L := List.replicate 4 ⟨0, none⟩) ⟨_, _, _, _, rfl⟩
  obtain ⟨σ3, l, us, g3, N3, g4, g5⟩ := num_loop (FT := FT) 16 N (zz_lt h1 h2) (by have := zz_lt h1 h2; omega) (by simp)
  rw [List.nil_append] at N3
  have hl : l.length < 1000 := by
    have : ∀ k u, (nb k u).length ≤ k := by
      intro k
      induction k with
      | zero => intro u; simp [nb]
      | succ k ih => intro u; rw [nb]; split
                     · simp [ih]
                     · simp
    have h9 := this 17 (zz n)
    rw [g5] at h9
    simp at h9; omega
  obtain ⟨fr, h, s, v, g6, g7, g8, g9⟩ := num_end (FT := FT) N3 g4 hl 24
  have he : exec FT 29 (.seq numHead (.seq numZz (.seq (.block 0 numLoop) (.seq numEnd .ret)))) ⟨.int .i64 n :: List.replicate 25 .junk, ⟨[], List.replicate 4 ⟨0, none⟩⟩⟩ = some (.ret, ⟨fr, h⟩) := by
    rw [exec.eq_def]; simp only
    rw [g1]; simp only
    rw [exec.eq_def]; simp only
    rw [g2]; simp only
    rw [exec.eq_def]; simp only
    have hb : exec FT 26 (.block 0 numLoop) σ2 = some (.norm, σ3) := by
      rw [exec.eq_def]; simp only
      rw [g3]; rfl
    rw [hb]; simp only
    rw [exec.eq_def]; simp only
    rw [g6]; simp only
    rfl
  have hs : ([PV.int .i64 n] ++ List.replicate (26 - [PV.int .i64 n].length) PV.junk) = .int .i64 n :: List.replicate 25 .junk := rfl
  have hm : (List.map some ([] : List Blk)) = [] := rfl
  rw [hs, hm, he]
  simp only
  have hnb : ∀ (k u : Nat), u < 128 ^ (k + 1) → ∀ j, nb (k + 1 + j) u = nb (k + 1) u := by
    intro k
    induction k with
    | zero =>
      intro u hu j
      have : ¬ 128 ≤ u := by omega
      rw [show 0 + 1 + j = j + 1 by omega, nb, nb, if_neg this, if_neg this]
    | succ k ih =>
      intro u hu j
      rw [show k + 1 + 1 + j = (k + 1 + j) + 1 by omega, nb, nb]
      split
      · rw [ih (u / 128) (by rw [Nat.div_lt_iff_lt_mul (by decide)]; have : 128 ^ (k + 1 + 1) = 128 ^ (k + 1) * 128 := Nat.pow_succ ..; omega) j]
      · rfl
  have hnum : number n = l ++ [us] := by
    rw [← g5]
    have := hnb 9 (zz n) (by have := zz_lt h1 h2; omega) 7
    exact this.symm
  rw [hnum]
  have hlen : (bytesV (l ++ [us])).length = l.length + 1 := by simp [bytesV]
  obtain ⟨h', hfin⟩ := finish_slice (F := ⟨26, 4, true, [true], [.tmp 2], .seq numHead (.seq numZz (.seq (.block 0 numLoop) (.seq numEnd .ret))), none⟩) (fr := fr) (h := h) (t := 2) rfl rfl (by rw [g8, hlen]) (by simp [bytesV]) g9 (bytes_frozen (l ++ [us]) 7)
  have hz : ([] : List Blk).length = 0 := rfl
  rw [hz, hfin]
end Gv

namespace Gv
open Go

theorem nb_eq (k u : Nat) : nb (k + 1) u = if 128 ≤ u then (u % 128 + 128) :: nb k (u / 128) else [u] := rfl
theorem nb_pos (k u : Nat) : 0 < (nb (k + 1) u).length := by
  rw [nb]; split <;> simp
/-- More is never shorter. -/
theorem nb_mono : ∀ (k : Nat) {u v : Nat}, u ≤ v → (nb k u).length ≤ (nb k v).length
  | 0, u, v, _ => by simp [nb]
  | k + 1, u, v, h => by
    rw [nb, nb]
    by_cases hu : 128 ≤ u
    · rw [if_pos hu, if_pos (by omega)]
      have := nb_mono k (u := u / 128) (v := v / 128) (Nat.div_le_div_right h)
      simpa using this
    · rw [if_neg hu]
      split <;> simp
/-- Which bytes say that more come. -/
theorem nb_more : ∀ (k : Nat) {u : Nat}, u < 128 ^ (k + 1) → ∀ (i : Nat) (x : Nat), (nb (k + 1) u)[i]? = some x → (128 ≤ x ↔ i + 1 < (nb (k + 1) u).length) ∧ x < 256
  | 0, u, hu, i, x, hx => by
    have h : ¬ 128 ≤ u := by omega
    rw [nb, if_neg h] at hx ⊢
    cases i with
    | zero => simp at hx; subst hx; simp; omega
    | succ i => simp at hx
  | k + 1, u, hu, i, x, hx => by
    rw [nb] at hx ⊢
    by_cases h : 128 ≤ u
    · rw [if_pos h] at hx ⊢
      have hp := nb_pos k (u / 128)
      cases i with
      | zero => simp at hx; subst hx; simp; omega
      | succ i =>
        have hd : u / 128 < 128 ^ (k + 1) := by
          rw [Nat.div_lt_iff_lt_mul (by decide)]
          have : 128 ^ (k + 1 + 1) = 128 ^ (k + 1) * 128 := Nat.pow_succ ..
          omega
        have := nb_more k hd i x (by simpa using hx)
        simpa using this
    · rw [if_neg h] at hx ⊢
      cases i with
      | zero => simp at hx; subst hx; simp; omega
      | succ i => simp at hx
theorem nb_inj : ∀ (k : Nat) {u v : Nat}, u < 128 ^ (k + 1) → v < 128 ^ (k + 1) → nb (k + 1) u = nb (k + 1) v → u = v
  | 0, u, v, hu, hv, h => by
    have h1 : ¬ 128 ≤ u := by omega
    have h2 : ¬ 128 ≤ v := by omega
    rw [nb_eq 0 u, nb_eq 0 v, if_neg h1, if_neg h2] at h
    simpa using h
  | k + 1, u, v, hu, hv, h => by
    have hd : ∀ w, w < 128 ^ (k + 1 + 1) → w / 128 < 128 ^ (k + 1) := by
      intro w hw
      rw [Nat.div_lt_iff_lt_mul (by decide)]
      have : 128 ^ (k + 1 + 1) = 128 ^ (k + 1) * 128 := Nat.pow_succ ..
      omega
    rw [nb_eq (k + 1) u, nb_eq (k + 1) v] at h
    by_cases h1 : 128 ≤ u
    · by_cases h2 : 128 ≤ v
      · rw [if_pos h1, if_pos h2] at h
        simp only [List.cons.injEq] at h
        have := nb_inj k (hd u hu) (hd v hv) h.2
        omega
      · rw [if_pos h1, if_neg h2] at h
        simp only [List.cons.injEq] at h
        have := nb_pos k (u / 128)
        rw [h.2] at this
        simp at this
    · by_cases h2 : 128 ≤ v
      · rw [if_neg h1, if_pos h2] at h
        simp only [List.cons.injEq] at h
        have := nb_pos k (v / 128)
        rw [← h.2] at this
        simp at this
      · rw [if_neg h1, if_neg h2] at h
        simpa using h
theorem zz_inj {n m : Int} (h : zz n = zz m) : n = m := by
  unfold zz at h
  split at h <;> split at h <;> omega
theorem zz_near {n m : Int} (h : (0 ≤ n ∧ 0 ≤ m ∧ m ≤ n) ∨ (n < 0 ∧ m < 0 ∧ n ≤ m)) : zz m ≤ zz n := by
  unfold zz
  split <;> split <;> omega
end Gv

namespace Gv
open Go

def sz1 : ICode := .reg [⟨some 4, .mov (.c (.bool false)), none, []⟩] false
def sz2 : ICode := .reg [⟨some 5, .mov (.c (.int .i64 1)), none, []⟩] false
def sz3 : ICode := .reg [⟨some 11, .mov (.t 0), none, []⟩, ⟨some 12, .toInt .u64 (.t 11), none, []⟩, ⟨some 13, .bin .shl (.t 12) (.c (.int .u64 1)), none, []⟩, ⟨some 6, .mov (.t 13), none, []⟩] false
def sz4 : ICode := .seq (.reg [⟨some 14, .mov (.t 0), none, []⟩, ⟨some 15, .bin .lss (.t 14) (.c (.int .i64 0)), none, []⟩] false)
      (.cond (.t 15) (.reg [⟨some 16, .mov (.t 6), none, []⟩, ⟨some 17, .un .xor (.t 16), none, []⟩, ⟨some 6, .mov (.t 17), none, []⟩] false) .skip)
def sz5t : ICode := .seq (.reg [⟨some 18, .mov (.t 6), none, []⟩, ⟨some 19, .bin .geq (.t 18) (.c (.int .u64 128)), none, []⟩] false) (.cond (.t 19) .skip (.exit 0))
def sz5b : ICode := .block 1 (.seq (.reg [⟨some 20, .mov (.t 6), none, []⟩, ⟨some 21, .bin .shr (.t 20) (.c (.int .u64 7)), none, []⟩, ⟨some 6, .mov (.t 21), none, []⟩] false)
      (.reg [⟨some 22, .mov (.t 5), none, []⟩, ⟨some 23, .bin .add (.t 22) (.c (.int .i64 1)), none, []⟩, ⟨some 5, .mov (.t 23), none, []⟩] false))
def sz5 : ICode := .loop (.seq sz5t sz5b)

structure SZ (n m : Int) (fr : List PV) : Prop where
  len : fr.length = 96
  t0 : nth fr 0 = .int .i64 n
  t1 : nth fr 1 = .int .i64 m

theorem zz_not {n : Int} (hn : n < 0) (h1 : -9223372036854775808 ≤ n) : un .xor (.int .u64 ((2 * n) % 18446744073709551616)) = some (.int .u64 (zz n)) := by
  simp only [un, IntKind.signed, Bool.false_eq_true, if_false]
  simp only [binI, ne_eq, not_true_eq_false, if_false]
  show some (PV.int .u64 (IntKind.u64.wrap ((BitVec.ofInt 64 (IntKind.u64.max) ^^^ BitVec.ofInt 64 ((2 * n) % 18446744073709551616)).toNat : Int))) = _
  rw [u64_of]
  congr 2
  have e : BitVec.ofInt 64 (IntKind.u64.max) = BitVec.allOnes 64 := by decide
  rw [e, BitVec.xor_comm, BitVec.xor_allOnes, BitVec.toNat_not, BitVec.toNat_ofInt]
  unfold zz
  rw [if_neg (by omega)]
  simp
  omega
theorem sz_start {FT : Nat → Option IFun} {n m : Int} (h1 : -9223372036854775808 ≤ n) (h2 : n ≤ 9223372036854775807) {fr : List PV} (S : SZ n m fr) (h : Heap) (k1 k2 k3 k4 : Nat) :
    ∃ a b c d, exec FT (k1 + 1) sz1 ⟨fr, h⟩ = some (.norm, ⟨a, h⟩) ∧ exec FT (k2 + 1) sz2 ⟨a, h⟩ = some (.norm, ⟨b, h⟩) ∧ exec FT (k3 + 1) sz3 ⟨b, h⟩ = some (.norm, ⟨c, h⟩) ∧ exec FT (k4 + 3) sz4 ⟨c, h⟩ = some (.norm, ⟨d, h⟩) ∧
      SZ n m d ∧ nth d 5 = .int .i64 1 ∧ nth d 6 = .int .u64 (zz n) := by
  obtain ⟨q1, q2, q3⟩ := S
  have e1 := zz_shl h1 h2
  refine ⟨upd fr 4 (.bool false), upd (upd fr 4 (.bool false)) 5 (.int .i64 1), ?_⟩
  generalize hr3 : exec FT (k3 + 1) sz3 ⟨upd (upd fr 4 (.bool false)) 5 (.int .i64 1), h⟩ = r3
  simp [sz3, exec, runOps, stepOp, wanted, sem, PO.ev, putDst, HM.run, HM.ofO, bin, toIntPV, nth_upd, upd_length, q1, q2, e1] at hr3
  subst hr3
  refine ⟨upd (upd (upd (upd (upd (upd fr 4 (.bool false)) 5 (.int .i64 1)) 11 (.int .i64 n)) 12 (.int .u64 (IntKind.u64.wrap n))) 13 (.int .u64 (2 * n % 18446744073709551616))) 6 (.int .u64 (2 * n % 18446744073709551616)), ?_⟩
  by_cases hn : n < 0
  · have e2 := zz_not hn h1
    generalize hr4 : exec FT (k4 + 3) sz4 ⟨upd (upd (upd (upd (upd (upd fr 4 (.bool false)) 5 (.int .i64 1)) 11 (.int .i64 n)) 12 (.int .u64 (IntKind.u64.wrap n))) 13 (.int .u64 (2 * n % 18446744073709551616))) 6 (.int .u64 (2 * n % 18446744073709551616)), h⟩ = r4
    simp [sz4, exec, runOps, stepOp, wanted, sem, PO.ev, putDst, HM.run, HM.ofO, bin, binI, nth_upd, upd_length, q1, q2, hn, e2] at hr4
    subst hr4
    refine ⟨_, ?_, ?_, rfl, rfl, ⟨?_, ?_, ?_⟩, ?_, ?_⟩
    all_goals simp [sz1, sz2, exec, runOps, stepOp, wanted, sem, PO.ev, putDst, HM.run, nth_upd, upd_length, q1, q2, q3]
  · have e2 : (2 * n) % 18446744073709551616 = zz n := by unfold zz; rw [if_pos (by omega)]; omega
    generalize hr4 : exec FT (k4 + 3) sz4 ⟨upd (upd (upd (upd (upd (upd fr 4 (.bool false)) 5 (.int .i64 1)) 11 (.int .i64 n)) 12 (.int .u64 (IntKind.u64.wrap n))) 13 (.int .u64 (2 * n % 18446744073709551616))) 6 (.int .u64 (2 * n % 18446744073709551616)), h⟩ = r4
    simp [sz4, exec, runOps, stepOp, wanted, sem, PO.ev, putDst, HM.run, HM.ofO, bin, binI, nth_upd, upd_length, q1, q2, hn] at hr4
    subst hr4
    refine ⟨_, ?_, ?_, rfl, rfl, ⟨?_, ?_, ?_⟩, ?_, ?_⟩
    all_goals simp [sz1, sz2, exec, runOps, stepOp, wanted, sem, PO.ev, putDst, HM.run, nth_upd, upd_length, q1, q2, q3, e2]
end Gv

namespace Gv
open Go

theorem add1 {c : Int} (h1 : 0 ≤ c) (h2 : c < 1000000) : binI .add .i64 c .i64 1 = some (.int .i64 (c + 1)) := by
  simp only [binI, ne_eq, not_true_eq_false, if_false]
  rw [i64_of (by omega) (by omega)]
theorem sz_test {FT : Nat → Option IFun} {n m : Int} {fr : List PV} (S : SZ n m fr) {u : Nat} {c : Int} (t5 : nth fr 5 = .int .i64 c) (t6 : nth fr 6 = .int .u64 (u : Int)) (h : Heap) (k : Nat) :
    ∃ fr', exec FT (k + 3) sz5t ⟨fr, h⟩ = some (if 128 ≤ u then .norm else .exit 0, ⟨fr', h⟩) ∧ SZ n m fr' ∧ nth fr' 5 = .int .i64 c ∧ nth fr' 6 = .int .u64 (u : Int) := by
  obtain ⟨q1, q2, q3⟩ := S
  by_cases hu : 128 ≤ u
  · have hi : (128 : Int) ≤ u := by omega
    generalize hr : exec FT (k + 3) sz5t ⟨fr, h⟩ = r
    simp [sz5t, exec, runOps, stepOp, wanted, sem, PO.ev, putDst, HM.run, HM.ofO, bin, binI, nth_upd, upd_length, q1, t6, hi] at hr
    subst hr
    refine ⟨_, by rw [if_pos hu], ⟨?_, ?_, ?_⟩, ?_, ?_⟩
    all_goals simp [nth_upd, upd_length, q1, q2, q3, t5, t6]
  · have hi : ¬ (128 : Int) ≤ u := by omega
    generalize hr : exec FT (k + 3) sz5t ⟨fr, h⟩ = r
    simp [sz5t, exec, runOps, stepOp, wanted, sem, PO.ev, putDst, HM.run, HM.ofO, bin, binI, nth_upd, upd_length, q1, t6, hi] at hr
    subst hr
    refine ⟨_, by rw [if_neg hu], ⟨?_, ?_, ?_⟩, ?_, ?_⟩
    all_goals simp [nth_upd, upd_length, q1, q2, q3, t5, t6]
theorem sz_body {FT : Nat → Option IFun} {n m : Int} {fr : List PV} (S : SZ n m fr) {u : Nat} {c : Int} (t5 : nth fr 5 = .int .i64 c) (t6 : nth fr 6 = .int .u64 (u : Int)) (hu : u < 18446744073709551616) (h1 : 0 ≤ c) (h2 : c < 1000000) (h : Heap) (k : Nat) :
    ∃ fr', exec FT (k + 4) sz5b ⟨fr, h⟩ = some (.norm, ⟨fr', h⟩) ∧ SZ n m fr' ∧ nth fr' 5 = .int .i64 (c + 1) ∧ nth fr' 6 = .int .u64 ((u / 128 : Nat) : Int) := by
  obtain ⟨q1, q2, q3⟩ := S
  have hb : binI .shr .u64 (u : Int) .u64 7 = some (.int .u64 ((u / 128 : Nat) : Int)) := by
    have h9 := shr7 hu
    simp only [binI, IntKind.bits] at h9 ⊢
    rw [if_neg (by decide), h9]
  have ha := add1 h1 h2
  generalize hr : exec FT (k + 4) sz5b ⟨fr, h⟩ = r
  simp [sz5b, exec, runOps, stepOp, wanted, sem, PO.ev, putDst, HM.run, HM.ofO, bin, nth_upd, upd_length, q1, t5, t6, hb, ha] at hr
  subst hr
  refine ⟨_, rfl, ⟨?_, ?_, ?_⟩, ?_, ?_⟩
  all_goals simp [nth_upd, upd_length, q1, q2, q3, t5, t6]
theorem sz_loop {FT : Nat → Option IFun} {n m : Int} (h : Heap) : ∀ (k : Nat) {u : Nat} {c : Int} {fr : List PV}, SZ n m fr → nth fr 5 = .int .i64 c → nth fr 6 = .int .u64 (u : Int) → u < 18446744073709551616 → u < 128 ^ (k + 1) → 0 ≤ c → c + k < 1000000 →
    ∃ fr', exec FT (k + 9) sz5 ⟨fr, h⟩ = some (.exit 0, ⟨fr', h⟩) ∧ SZ n m fr' ∧ nth fr' 5 = .int .i64 (c + (nb (k + 1) u).length - 1)
  | 0, u, c, fr, S, t5, t6, hu, hk, h1, h2 => by
    have hn : ¬ 128 ≤ u := by omega
    obtain ⟨fr1, g1, S1, a1, a2⟩ := sz_test (FT := FT) S t5 t6 h 4
    rw [if_neg hn] at g1
    refine ⟨fr1, ?_, S1, by rw [nb_eq, if_neg hn, a1]; simp⟩
    show exec FT 9 sz5 _ = _
    unfold sz5
    rw [exec.eq_def]; simp only
    have hb : exec FT 8 (.seq sz5t sz5b) ⟨fr, h⟩ = some (.exit 0, ⟨fr1, h⟩) := by
      rw [exec.eq_def]; simp only
      rw [g1]
    rw [hb]
  | k + 1, u, c, fr, S, t5, t6, hu, hk, h1, h2 => by
    obtain ⟨fr1, g1, S1, a1, a2⟩ := sz_test (FT := FT) S t5 t6 h (k + 5)
    by_cases hn : 128 ≤ u
    · rw [if_pos hn] at g1
      obtain ⟨fr2, g2, S2, b1, b2⟩ := sz_body (FT := FT) S1 a1 a2 hu h1 (by omega) h (k + 4)
      have hd : u / 128 < 128 ^ (k + 1) := by
        rw [Nat.div_lt_iff_lt_mul (by decide)]
        have : 128 ^ (k + 1 + 1) = 128 ^ (k + 1) * 128 := Nat.pow_succ ..
        omega
      obtain ⟨fr3, g3, S3, c1⟩ := sz_loop h k S2 b1 b2 (by omega) hd (by omega) (by omega)
      refine ⟨fr3, ?_, S3, ?_⟩
      · rw [show k + 1 + 9 = (k + 9) + 1 by omega]
        unfold sz5
        rw [exec.eq_def]; simp only
        have hb : exec FT (k + 9) (.seq sz5t sz5b) ⟨fr, h⟩ = some (.norm, ⟨fr2, h⟩) := by
          rw [exec.eq_def]; simp only
          rw [show k + 8 = (k + 5) + 3 by omega, g1]; simp only
          exact g2
        rw [hb]
        exact g3
      · rw [c1, nb_eq (k + 1) u, if_pos hn, List.length_cons]
        congr 1; omega
    · rw [if_neg hn] at g1
      refine ⟨fr1, ?_, S1, by rw [nb_eq (k + 1) u, if_neg hn, a1]; simp⟩
      rw [show k + 1 + 9 = (k + 9) + 1 by omega]
      unfold sz5
      rw [exec.eq_def]; simp only
      have hb : exec FT (k + 9) (.seq sz5t sz5b) ⟨fr, h⟩ = some (.exit 0, ⟨fr1, h⟩) := by
        rw [exec.eq_def]; simp only
        rw [show k + 8 = (k + 5) + 3 by omega, g1]
      rw [hb]
end Gv

namespace Gv
open Go

def szCall (src a b d : Nat) : ICode := .reg [⟨some a, .mov (.t src), none, []⟩, ⟨some b, .call 11 [.t a] 0, none, []⟩, ⟨some d, .mov (.t b), none, []⟩] false
theorem sz_call {FT : Nat → Option IFun} {x : Int} {r : PV} {fr : List PV} {src a b d : Nat} (hsrc : nth fr src = .int .i64 x) (hl : fr.length = 96) (ha : a < 96) (hb : b < 96) (h : Heap) (k : Nat) (hr : r.plain = true) (hC : callE FT k 11 [.int .i64 x] [] = some (r, [])) :
    exec FT (k + 1) (szCall src a b d) ⟨fr, h⟩ = some (.norm, ⟨upd (upd (upd fr a (.int .i64 x)) b r) d r, h⟩) := by
  have hn : nth (upd fr a (.int .i64 x)) a = .int .i64 x := by rw [nth_upd, if_pos ⟨rfl, by omega⟩]
  have hc : ∀ RO, stepOp RO (callE FT k) ⟨some b, .call 11 [.t a] 0, none, []⟩ ⟨upd fr a (.int .i64 x), h⟩ = some ⟨upd (upd fr a (.int .i64 x)) b r, h⟩ := by
    intro RO
    refine call_step (f := 11) (xs := [.t a]) (s := 0) rfl rfl ?_ hr ?_
    · simp only [evL, PO.ev, hn]; rfl
    · simp only [evL, PO.ev, hn]; exact hC
  have h0 : ∀ RO, stepOp RO (callE FT k) ⟨some a, .mov (.t src), none, []⟩ ⟨fr, h⟩ = some ⟨upd fr a (.int .i64 x), h⟩ := by
    intro RO; simp [stepOp, wanted, sem, HM.run, PO.ev, hsrc, putDst]
  have hnb : nth (upd (upd fr a (.int .i64 x)) b r) b = r := by rw [nth_upd, if_pos ⟨rfl, by rw [upd_length]; omega⟩]
  simp only [szCall, exec, runOps, h0, hc]
  simp [stepOp, wanted, sem, HM.run, PO.ev, putDst, hnb]
/-- x's length is the one that was counted. -/
def sz7 : ICode := .seq (.reg [⟨some 26, .mov (.t 7), none, []⟩, ⟨some 27, .len (.t 26), none, []⟩, ⟨some 28, .mov (.t 5), none, []⟩, ⟨some 29, .bin .neq (.t 27) (.t 28), none, []⟩] false)
         (.cond (.t 29) (.seq (.reg [⟨some 4, .mov (.c (.bool false)), none, []⟩] false) .ret) .skip)
theorem sz_len {FT : Nat → Option IFun} {n m : Int} {fr : List PV} (S : SZ n m fr) {l : List PV} (t5 : nth fr 5 = .int .i64 l.length) (t7 : nth fr 7 = .lst l false) (h : Heap) (k : Nat) :
    ∃ fr', exec FT (k + 3) sz7 ⟨fr, h⟩ = some (.norm, ⟨fr', h⟩) ∧ SZ n m fr' ∧ nth fr' 7 = .lst l false := by
  obtain ⟨q1, q2, q3⟩ := S
  generalize hr : exec FT (k + 3) sz7 ⟨fr, h⟩ = r
  simp [sz7, exec, runOps, stepOp, wanted, sem, PO.ev, putDst, HM.run, HM.ofO, bin, binI, lenPV, nth_upd, upd_length, q1, t5, t7] at hr
  subst hr
  refine ⟨_, rfl, ⟨?_, ?_, ?_⟩, ?_⟩
  all_goals simp [nth_upd, upd_length, q1, q2, q3, t5, t7]
def sz8i : ICode := .reg [⟨some 8, .mov (.c (.int .i64 0)), none, []⟩] false
def sz8t : ICode := .seq (.reg [⟨some 30, .mov (.t 8), none, []⟩, ⟨some 31, .mov (.t 7), none, []⟩, ⟨some 32, .len (.t 31), none, []⟩, ⟨some 33, .bin .lss (.t 30) (.t 32), none, []⟩] false) (.cond (.t 33) .skip (.exit 2))
def sz8b : ICode := .block 3 (.seq
    (.reg [⟨some 36, .mov (.t 7), none, []⟩, ⟨some 37, .mov (.t 8), none, []⟩, ⟨some 38, .indexAddr 1 (.t 36) (.t 37), none, []⟩, ⟨some 39, .load none (.t 38), none, []⟩, ⟨some 40, .bin .geq (.t 39) (.c (.int .u8 128)), none, []⟩, ⟨some 41, .mov (.t 8), none, []⟩, ⟨some 42, .bin .add (.t 41) (.c (.int .i64 1)), none, []⟩, ⟨some 43, .mov (.t 7), none, []⟩, ⟨some 44, .len (.t 43), none, []⟩, ⟨some 45, .bin .lss (.t 42) (.t 44), none, []⟩, ⟨some 46, .eqb true (.t 40) (.t 45), none, []⟩] false)
    (.cond (.t 46) (.seq (.reg [⟨some 4, .mov (.c (.bool false)), none, []⟩] false) .ret) .skip))
def sz8n : ICode := .reg [⟨some 34, .mov (.t 8), none, []⟩, ⟨some 35, .bin .add (.t 34) (.c (.int .i64 1)), none, []⟩, ⟨some 8, .mov (.t 35), none, []⟩] false
theorem sz8_test {FT : Nat → Option IFun} {n m : Int} {fr : List PV} (S : SZ n m fr) {l : List PV} {i : Nat} (t7 : nth fr 7 = .lst l false) (t8 : nth fr 8 = .int .i64 (i : Int)) (h : Heap) (k : Nat) :
    ∃ fr', exec FT (k + 3) sz8t ⟨fr, h⟩ = some (if i < l.length then .norm else .exit 2, ⟨fr', h⟩) ∧ SZ n m fr' ∧ nth fr' 7 = .lst l false ∧ nth fr' 8 = .int .i64 (i : Int) := by
  obtain ⟨q1, q2, q3⟩ := S
  by_cases hi : i < l.length
  · generalize hr : exec FT (k + 3) sz8t ⟨fr, h⟩ = r
    simp [sz8t, exec, runOps, stepOp, wanted, sem, PO.ev, putDst, HM.run, HM.ofO, bin, binI, lenPV, nth_upd, upd_length, q1, t7, t8, hi] at hr
    subst hr
    refine ⟨_, by rw [if_pos hi], ⟨?_, ?_, ?_⟩, ?_, ?_⟩
    all_goals simp [nth_upd, upd_length, q1, q2, q3, t7, t8]
  · generalize hr : exec FT (k + 3) sz8t ⟨fr, h⟩ = r
    simp [sz8t, exec, runOps, stepOp, wanted, sem, PO.ev, putDst, HM.run, HM.ofO, bin, binI, lenPV, nth_upd, upd_length, q1, t7, t8, hi] at hr
    subst hr
    refine ⟨_, by rw [if_neg hi], ⟨?_, ?_, ?_⟩, ?_, ?_⟩
    all_goals simp [nth_upd, upd_length, q1, q2, q3, t7, t8]
theorem sz8_body {FT : Nat → Option IFun} {n m : Int} {fr : List PV} (S : SZ n m fr) {l : List Nat} {i x : Nat} (t7 : nth fr 7 = .lst (bytesV l) false) (t8 : nth fr 8 = .int .i64 (i : Int)) (hx : l[i]? = some x) (hm : 128 ≤ x ↔ i + 1 < l.length) (hl : l.length < 1000) (h : Heap) (k : Nat) :
    ∃ fr', exec FT (k + 4) sz8b ⟨fr, h⟩ = some (.norm, ⟨fr', h⟩) ∧ SZ n m fr' ∧ nth fr' 7 = .lst (bytesV l) false ∧ nth fr' 8 = .int .i64 (i : Int) := by
  obtain ⟨q1, q2, q3⟩ := S
  have hil := getElem?_lt hx
  have ha := add1 (c := (i : Int)) (by omega) (by omega)
  have hlen : (bytesV l).length = l.length := by simp [bytesV]
  have hget : (bytesV l)[i]? = some (.int .u8 (x : Int)) := by simp [bytesV, hx]
  have hix : indexAddrPV 1 (.lst (bytesV l) false) (.int .i64 (i : Int)) = some (.lptr [.int .u8 (x : Int)]) := by
    simp only [indexAddrPV, Int.toNat_natCast, hget, hlen]
    rw [if_pos ⟨by omega, by omega⟩]
    rfl
  have hld : loadHM none (.lptr [.int .u8 (x : Int)]) = .ret (.int .u8 (x : Int)) := rfl
  have hb : (decide ((128 : Int) ≤ (x : Int))) = (decide (((i : Int) + 1) < (l.length : Int))) := by
    by_cases hc : 128 ≤ x
    · have := hm.1 hc; rw [decide_eq_true (by omega), decide_eq_true (by omega)]
    · have : ¬ (i + 1 < l.length) := fun h => hc (hm.2 h)
      rw [decide_eq_false (by omega), decide_eq_false (by omega)]
  have hge : binI .geq .u8 (x : Int) .u8 128 = some (.bool (decide (((i : Int) + 1) < (l.length : Int)))) := by rw [← hb]; rfl
  have hlt : binI .lss .i64 ((i : Int) + 1) .i64 (l.length : Int) = some (.bool (decide (((i : Int) + 1) < (l.length : Int)))) := rfl
  generalize decide (((i : Int) + 1) < (l.length : Int)) = bb at hge hlt
  generalize hr : exec FT (k + 4) sz8b ⟨fr, h⟩ = r
  simp [sz8b, exec, runOps, stepOp, wanted, sem, PO.ev, putDst, HM.run, HM.ofO, bin, lenPV, eqb, nth_upd, upd_length, q1, t7, t8, hix, hld, ha, hlen, hge, hlt] at hr
  subst hr
  refine ⟨_, rfl, ⟨?_, ?_, ?_⟩, ?_, ?_⟩
  all_goals simp [nth_upd, upd_length, q1, q2, q3, t7, t8]
end Gv

namespace Gv
open Go

theorem sz8_next {FT : Nat → Option IFun} {n m : Int} {fr : List PV} (S : SZ n m fr) {l : List PV} {i : Nat} (t7 : nth fr 7 = .lst l false) (t8 : nth fr 8 = .int .i64 (i : Int)) (hi : i < 1000) (h : Heap) (k : Nat) :
    ∃ fr', exec FT (k + 1) sz8n ⟨fr, h⟩ = some (.norm, ⟨fr', h⟩) ∧ SZ n m fr' ∧ nth fr' 7 = .lst l false ∧ nth fr' 8 = .int .i64 ((i + 1 : Nat) : Int) := by
  obtain ⟨q1, q2, q3⟩ := S
  have ha := add1 (c := (i : Int)) (by omega) (by omega)
  generalize hr : exec FT (k + 1) sz8n ⟨fr, h⟩ = r
  simp [sz8n, exec, runOps, stepOp, wanted, sem, PO.ev, putDst, HM.run, HM.ofO, bin, nth_upd, upd_length, q1, t8, ha] at hr
  subst hr
  refine ⟨_, rfl, ⟨?_, ?_, ?_⟩, ?_, ?_⟩
  all_goals simp [nth_upd, upd_length, q1, q2, q3, t7, t8]
def sz8 : ICode := .loop (.seq sz8t (.seq sz8b sz8n))
theorem sz8_loop {FT : Nat → Option IFun} {n m : Int} (h : Heap) {l : List Nat} (hl : l.length < 1000) (hm : ∀ (i x : Nat), l[i]? = some x → (128 ≤ x ↔ i + 1 < l.length)) : ∀ (d : Nat) {i : Nat} {fr : List PV}, SZ n m fr → nth fr 7 = .lst (bytesV l) false → nth fr 8 = .int .i64 (i : Int) → i + d = l.length →
    ∃ fr', exec FT (d + 12) sz8 ⟨fr, h⟩ = some (.exit 2, ⟨fr', h⟩) ∧ SZ n m fr' ∧ nth fr' 7 = .lst (bytesV l) false
  | 0, i, fr, S, t7, t8, hd => by
    have hlen : (bytesV l).length = l.length := by simp [bytesV]
    obtain ⟨fr1, g1, S1, a1, a2⟩ := sz8_test (FT := FT) S t7 t8 h 7
    rw [if_neg (by omega)] at g1
    refine ⟨fr1, ?_, S1, a1⟩
    show exec FT 12 sz8 _ = _
    unfold sz8
    rw [exec.eq_def]; simp only
    have hb : exec FT 11 (.seq sz8t (.seq sz8b sz8n)) ⟨fr, h⟩ = some (.exit 2, ⟨fr1, h⟩) := by
      rw [exec.eq_def]; simp only
      rw [g1]
    rw [hb]
  | d + 1, i, fr, S, t7, t8, hd => by
    have hlen : (bytesV l).length = l.length := by simp [bytesV]
    obtain ⟨fr1, g1, S1, a1, a2⟩ := sz8_test (FT := FT) S t7 t8 h (d + 8)
    rw [if_pos (by omega)] at g1
    have hx : l[i]? = some (l[i]'(by omega)) := List.getElem?_eq_getElem (by omega)
    obtain ⟨fr2, g2, S2, b1, b2⟩ := sz8_body (FT := FT) S1 a1 a2 hx (hm i _ hx) hl h (d + 6)
    obtain ⟨fr3, g3, S3, c1, c2⟩ := sz8_next (FT := FT) S2 b1 b2 (by omega) h (d + 9)
    obtain ⟨fr4, g4, S4, d1⟩ := sz8_loop h hl hm d S3 c1 c2 (by omega)
    refine ⟨fr4, ?_, S4, d1⟩
    rw [show d + 1 + 12 = (d + 12) + 1 by omega]
    unfold sz8
    rw [exec.eq_def]; simp only
    have hb : exec FT (d + 12) (.seq sz8t (.seq sz8b sz8n)) ⟨fr, h⟩ = some (.norm, ⟨fr3, h⟩) := by
      rw [show d + 12 = (d + 11) + 1 by omega, exec.eq_def]; simp only
      rw [show d + 11 = (d + 8) + 3 by omega, g1]; simp only
      rw [show d + 8 + 3 = (d + 10) + 1 by omega, exec.eq_def]; simp only
      rw [show d + 10 = (d + 6) + 4 by omega, g2]; simp only
      rw [show d + 6 + 4 = (d + 9) + 1 by omega]
      exact g3
    rw [hb]
    exact g4
def og' (d : Nat) (x : IOp) (t : Nat) (b : Bool) : IOper := ⟨some d, x, some (t, b), []⟩
def o' (d : Nat) (x : IOp) : IOper := ⟨some d, x, none, []⟩
def sz10 : ICode := .reg [o' 49 (.mov (.t 0)), o' 50 (.bin .geq (.t 49) (.c (.int .i64 0))), o' 51 (.mov (.t 50)), og' 52 (.mov (.t 1)) 51 true, og' 53 (.bin .geq (.t 52) (.c (.int .i64 0))) 51 true, o' 54 (.pick (.t 51) (.t 53) (.c (.bool false))), o' 55 (.mov (.t 54)), og' 56 (.mov (.t 1)) 55 true, og' 57 (.mov (.t 0)) 55 true, og' 58 (.bin .leq (.t 56) (.t 57)) 55 true, o' 59 (.pick (.t 55) (.t 58) (.c (.bool false))), o' 60 (.mov (.t 59)), og' 61 (.mov (.t 0)) 60 false, og' 62 (.bin .lss (.t 61) (.c (.int .i64 0))) 60 false, og' 63 (.mov (.t 62)) 60 false, og' 64 (.mov (.t 1)) 63 true, og' 65 (.bin .lss (.t 64) (.c (.int .i64 0))) 63 true, og' 66 (.pick (.t 63) (.t 65) (.c (.bool false))) 60 false, og' 67 (.mov (.t 66)) 60 false, og' 68 (.mov (.t 1)) 67 true, og' 69 (.mov (.t 0)) 67 true, og' 70 (.bin .geq (.t 68) (.t 69)) 67 true, og' 71 (.pick (.t 67) (.t 70) (.c (.bool false))) 60 false, o' 72 (.pick (.t 60) (.c (.bool true)) (.t 71)), o' 10 (.mov (.t 72))] false
theorem sz_near {FT : Nat → Option IFun} {n m : Int} {fr : List PV} (S : SZ n m fr) {a b : PV} (t7 : nth fr 7 = a) (t9 : nth fr 9 = b) (h : Heap) (k : Nat) :
    ∃ fr' nr, exec FT (k + 1) sz10 ⟨fr, h⟩ = some (.norm, ⟨fr', h⟩) ∧ SZ n m fr' ∧ nth fr' 7 = a ∧ nth fr' 9 = b ∧ nth fr' 10 = .bool nr ∧ (nr = true → (0 ≤ n ∧ 0 ≤ m ∧ m ≤ n) ∨ (n < 0 ∧ m < 0 ∧ n ≤ m)) := by
  obtain ⟨q1, q2, q3⟩ := S
  generalize hr : exec FT (k + 1) sz10 ⟨fr, h⟩ = r
  by_cases hn : 0 ≤ n <;> by_cases hm : 0 ≤ m <;> by_cases hmn : m ≤ n <;> by_cases hnm : n ≤ m
  all_goals first
    | (exfalso; omega)
    | (have hn' : ¬ n < 0 ∨ n < 0 := by omega
       have x1 : (n < 0) ↔ ¬ 0 ≤ n := by omega
       have x2 : (m < 0) ↔ ¬ 0 ≤ m := by omega
       simp [sz10, og', o', exec, runOps, stepOp, wanted, sem, PO.ev, putDst, HM.run, HM.ofO, bin, binI, pickPV, nth_upd, upd_length, q1, q2, q3, hn, hm, hmn, hnm, x1, x2] at hr
       subst hr
       refine ⟨_, decide ((0 ≤ n ∧ 0 ≤ m ∧ m ≤ n) ∨ (n < 0 ∧ m < 0 ∧ n ≤ m)), rfl, ⟨?_, ?_, ?_⟩, ?_, ?_, ?_, fun hh => of_decide_eq_true hh⟩
       all_goals simp [nth_upd, upd_length, q1, q2, q3, t7, t9, hn, hm, hmn, hnm, x1, x2])
end Gv

namespace Gv
open Go

theorem bytesOf_bytesV : ∀ l : List Nat, bytesOf (bytesV l) = some (l.map UInt8.ofNat)
  | [] => rfl
  | x :: l => by
    show (match bytesOf (bytesV l) with | some r => some (UInt8.ofNat (Int.toNat (x : Int)) :: r) | none => none) = _
    rw [bytesOf_bytesV l]; rfl
theorem b2s_bytes (l : List Nat) (c : Bool) : b2sHM (.lst (bytesV l) c) = .ret (.str (l.map UInt8.ofNat)) := by
  show (match bytesOf (bytesV l) with | some l => HM.ret (PV.str l) | none => HM.fail) = _
  rw [bytesOf_bytesV l]
def sz11 : ICode := .reg [o' 73 (.mov (.t 10)), o' 74 (.un .not (.t 73)), o' 75 (.mov (.t 74)), og' 76 (.mov (.t 9)) 75 false, og' 77 (.len (.t 76)) 75 false, og' 78 (.mov (.t 7)) 75 false, og' 79 (.len (.t 78)) 75 false, og' 80 (.bin .leq (.t 77) (.t 79)) 75 false, o' 81 (.pick (.t 75) (.c (.bool true)) (.t 80)), o' 82 (.mov (.t 81)), og' 83 (.mov (.t 7)) 82 true, og' 84 (.b2s (.t 83)) 82 true, og' 85 (.mov (.t 9)) 82 true, og' 86 (.b2s (.t 85)) 82 true, og' 87 (.bin .eql (.t 84) (.t 86)) 82 true, og' 88 (.mov (.t 0)) 82 true, og' 89 (.mov (.t 1)) 82 true, og' 90 (.bin .eql (.t 88) (.t 89)) 82 true, og' 91 (.eqb false (.t 87) (.t 90)) 82 true, o' 92 (.pick (.t 82) (.t 91) (.c (.bool false))), o' 93 (.mov (.t 92)), og' 94 (.call 10 [] 0) 93 true, o' 95 (.pick (.t 93) (.t 94) (.c (.bool false))), o' 4 (.mov (.t 95))] false
theorem sz_final {FT : Nat → Option IFun} {n m : Int} {fr : List PV} (S : SZ n m fr) {lx ly : List Nat} {nr : Bool} (t7 : nth fr 7 = .lst (bytesV lx) false) (t9 : nth fr 9 = .lst (bytesV ly) false) (t10 : nth fr 10 = .bool nr)
    (hnr : nr = true → ly.length ≤ lx.length) (heq : (lx.map UInt8.ofNat == ly.map UInt8.ofNat) = (n == m)) (h : Heap) (k : Nat) (hA : callE FT k 10 [] [] = some (.bool true, [])) :
    ∃ fr', exec FT (k + 1) sz11 ⟨fr, h⟩ = some (.norm, ⟨fr', h⟩) ∧ nth fr' 4 = .bool true := by
  obtain ⟨q1, q2, q3⟩ := S
  have hcall : ∀ ro, (callHM (callE FT k) ro 10 [] 0).run h = some (.bool true, h) := fun ro => call_pure rfl rfl hA
  have h7 : (bytesV lx).length = lx.length := by simp [bytesV]
  have h9 : (bytesV ly).length = ly.length := by simp [bytesV]
  have hs : bin .eql (.str (lx.map UInt8.ofNat)) (.str (ly.map UInt8.ofNat)) = some (.bool (n == m)) := by simp only [bin]; rw [heq]
  have hi : bin .eql (.int .i64 n) (.int .i64 m) = some (.bool (n == m)) := rfl
  generalize (n == m) = e at hs hi
  generalize hr : exec FT (k + 1) sz11 ⟨fr, h⟩ = r
  cases nr with
  | false =>
    simp [sz11, og', o', exec, runOps, stepOp, wanted, sem, PO.ev, evL, putDst, HM.run, HM.ofO, un, lenPV, eqb, pickPV, nth_upd, upd_length, q1, q2, q3, t7, t9, t10, b2s_bytes, hs, hi, hcall] at hr
    subst hr
    exact ⟨_, rfl, by simp [nth_upd, upd_length, q1]⟩
  | true =>
    have hle := hnr rfl
    have hb : bin .leq (.int .i64 (ly.length : Int)) (.int .i64 (lx.length : Int)) = some (.bool true) := by
      simp only [bin, binI, ne_eq, not_true_eq_false, if_false]
      rw [decide_eq_true (by omega)]
    simp [sz11, og', o', exec, runOps, stepOp, wanted, sem, PO.ev, evL, putDst, HM.run, HM.ofO, un, lenPV, eqb, pickPV, nth_upd, upd_length, q1, q2, q3, t7, t9, t10, b2s_bytes, hs, hi, hcall, h7, h9, hb] at hr
    subst hr
    exact ⟨_, rfl, by simp [nth_upd, upd_length, q1]⟩
end Gv

namespace Gv
open Go

theorem sizBody : f_law22_WireSizes = ⟨96, 0, true, [true, true], [.tmp 4], .seq sz1 (.seq sz2 (.seq sz3 (.seq sz4 (.seq (.block 0 sz5) (.seq (szCall 0 24 25 7) (.seq sz7 (.seq (.seq sz8i (.block 2 sz8)) (.seq (szCall 1 47 48 9) (.seq sz10 (.seq sz11 .ret)))))))))), none⟩ := rfl
theorem nb_fuel : ∀ (k u : Nat), u < 128 ^ (k + 1) → ∀ j, nb (k + 1 + j) u = nb (k + 1) u := by
  intro k
  induction k with
  | zero =>
    intro u hu j
    have : ¬ 128 ≤ u := by omega
    rw [show 0 + 1 + j = j + 1 by omega, nb_eq j u, nb_eq 0 u, if_neg this, if_neg this]
  | succ k ih =>
    intro u hu j
    rw [show k + 1 + 1 + j = (k + 1 + j) + 1 by omega, nb_eq (k + 1 + j) u, nb_eq (k + 1) u]
    split
    · rw [ih (u / 128) (by rw [Nat.div_lt_iff_lt_mul (by decide)]; have : 128 ^ (k + 1 + 1) = 128 ^ (k + 1) * 128 := Nat.pow_succ ..; omega) j]
    · rfl
theorem nb_len : ∀ k u, (nb k u).length ≤ k := by
  intro k
  induction k with
  | zero => intro u; simp [nb]
  | succ k ih =>
    intro u; rw [nb_eq]; split
    · have := ih (u / 128); simp; omega
    · simp
theorem ofNat_inj : ∀ {l r : List Nat}, (∀ x ∈ l, x < 256) → (∀ x ∈ r, x < 256) → l.map UInt8.ofNat = r.map UInt8.ofNat → l = r
  | [], [], _, _, _ => rfl
  | [], _ :: _, _, _, h => by simp at h
  | _ :: _, [], _, _, h => by simp at h
  | x :: l, y :: r, hl, hr, h => by
    simp only [List.map_cons, List.cons.injEq] at h
    have h1 := congrArg UInt8.toNat h.1
    have a := hl x (List.mem_cons_self ..)
    have b := hr y (List.mem_cons_self ..)
    simp [Nat.mod_eq_of_lt a, Nat.mod_eq_of_lt b] at h1
    rw [h1, ofNat_inj (fun z hz => hl z (List.mem_cons_of_mem _ hz)) (fun z hz => hr z (List.mem_cons_of_mem _ hz)) h.2]
theorem sizes_true (n m : Int) (h1 : -9223372036854775808 ≤ n) (h2 : n ≤ 9223372036854775807) (h3 : -9223372036854775808 ≤ m) (h4 : m ≤ 9223372036854775807) :
    callE (tabOf FTL) 400 4 [.int .i64 n, .int .i64 m] [] = some (.bool true, []) := by
  have hF : tabOf FTL 4 = some f_law22_WireSizes := rfl
  have zn := zz_lt h1 h2
  have zm := zz_lt h3 h4
  have hN := number_ok (FT := tabOf FTL) rfl h1 h2
  have hM := number_ok (FT := tabOf FTL) rfl h3 h4
  let h : Heap := ⟨[], []⟩
  have S0 : SZ n m ([.int .i64 n, .int .i64 m] ++ List.replicate 94 .junk) := ⟨by simp, rfl, rfl⟩
  obtain ⟨a, b, c, d, g1, g2, g3, g4, S4, t5, t6⟩ := sz_start (FT := tabOf FTL) h1 h2 S0 h 397 396 395 392
  obtain ⟨f5, g5, S5, t5'⟩ := sz_loop (FT := tabOf FTL) h 16 S4 t5 t6 zn (by omega) (by omega) (by omega)
  have g5 := exec_mono (m := 393) (by omega) g5
  have hfu : nb (16 + 1) (zz n) = number n := nb_fuel 9 (zz n) (by omega) 7
  rw [hfu] at t5'
  have hp := nb_pos 9 (zz n)
  have hq := nb_len 10 (zz n)
  have hlb : (bytesV (number n)).length = (number n).length := by simp [bytesV]
  have g6 := sz_call (FT := tabOf FTL) (src := 0) (a := 24) (b := 25) (d := 7) S5.t0 S5.len (by omega) (by omega) h 392 (r := .lst (bytesV (number n)) false) rfl (callE_mono (by omega) _ _ _ _ hN)
  have S6 : SZ n m (upd (upd (upd f5 24 (.int .i64 n)) 25 (.lst (bytesV (number n)) false)) 7 (.lst (bytesV (number n)) false)) := ⟨by simp [upd_length, S5.len], by simp [nth_upd, S5.t0], by simp [nth_upd, S5.t1]⟩
  obtain ⟨f7, g7, S7, t7⟩ := sz_len (FT := tabOf FTL) S6 (l := bytesV (number n)) (by simp [nth_upd, t5', hlb]; omega) (by simp [nth_upd, upd_length, S5.len]) h 389
  have S8 : SZ n m (upd f7 8 (.int .i64 0)) := ⟨by simp [upd_length, S7.len], by simp [nth_upd, S7.t0], by simp [nth_upd, S7.t1]⟩
  have g8i : exec (tabOf FTL) 390 sz8i ⟨f7, h⟩ = some (.norm, ⟨upd f7 8 (.int .i64 0), h⟩) := by simp [sz8i, exec, runOps, stepOp, wanted, sem, PO.ev, HM.run, putDst]
  obtain ⟨f8, g8, S8', t7'⟩ := sz8_loop (FT := tabOf FTL) h (l := number n) (by unfold number; omega) (fun i x hx => (nb_more 9 (by omega) i x hx).1) (number n).length (i := 0) S8 (by simp [nth_upd, t7]) (by simp [nth_upd, S7.len]) (by omega)
  have g8 := exec_mono (m := 389) (by unfold number; omega) g8
  have g9 := sz_call (FT := tabOf FTL) (src := 1) (a := 47) (b := 48) (d := 9) S8'.t1 S8'.len (by omega) (by omega) h 389 (r := .lst (bytesV (number m)) false) rfl (callE_mono (by omega) _ _ _ _ hM)
  have S9 : SZ n m (upd (upd (upd f8 47 (.int .i64 m)) 48 (.lst (bytesV (number m)) false)) 9 (.lst (bytesV (number m)) false)) := ⟨by simp [upd_length, S8'.len], by simp [nth_upd, S8'.t0], by simp [nth_upd, S8'.t1]⟩
  obtain ⟨f10, nr, g10, S10, u7, u9, u10, hnr⟩ := sz_near (FT := tabOf FTL) S9 (a := .lst (bytesV (number n)) false) (b := .lst (bytesV (number m)) false) (by simp [nth_upd, t7']) (by simp [nth_upd, upd_length, S8'.len]) h 388
  have heq : ((number n).map UInt8.ofNat == (number m).map UInt8.ofNat) = (n == m) := by
    by_cases he : n = m
    · subst he; simp
    · have : (number n).map UInt8.ofNat ≠ (number m).map UInt8.ofNat := by
        intro hh
        have h9 := ofNat_inj (fun x hx => by obtain ⟨i, hi⟩ := List.mem_iff_getElem?.1 hx; exact (nb_more 9 (by omega) i x hi).2) (fun x hx => by obtain ⟨i, hi⟩ := List.mem_iff_getElem?.1 hx; exact (nb_more 9 (by omega) i x hi).2) hh
        exact he (zz_inj (nb_inj 9 (by omega) (by omega) h9))
      rw [beq_eq_false_iff_ne.2 this, beq_eq_false_iff_ne.2 he]
  obtain ⟨f11, g11, t4⟩ := sz_final (FT := tabOf FTL) S10 u7 u9 u10 (fun hh => nb_mono 10 (zz_near (hnr hh))) heq h 387 (callE_mono (by omega) _ _ _ _ awake22)
  have he : exec (tabOf FTL) 399 (.seq sz1 (.seq sz2 (.seq sz3 (.seq sz4 (.seq (.block 0 sz5) (.seq (szCall 0 24 25 7) (.seq sz7 (.seq (.seq sz8i (.block 2 sz8)) (.seq (szCall 1 47 48 9) (.seq sz10 (.seq sz11 .ret))))))))))) ⟨[.int .i64 n, .int .i64 m] ++ List.replicate 94 .junk, h⟩ = some (.ret, ⟨f11, h⟩) := by
    rw [exec.eq_def]; simp only; rw [g1]; simp only
    rw [exec.eq_def]; simp only; rw [g2]; simp only
    rw [exec.eq_def]; simp only; rw [g3]; simp only
    rw [exec.eq_def]; simp only; rw [g4]; simp only
    have e5 : exec (tabOf FTL) 394 (.block 0 sz5) ⟨d, h⟩ = some (.norm, ⟨f5, h⟩) := by
      rw [exec.eq_def]; simp only; rw [g5]; rfl
    rw [exec.eq_def]; simp only; rw [e5]; simp only
    rw [exec.eq_def]; simp only; rw [g6]; simp only
    rw [exec.eq_def]; simp only; rw [g7]; simp only
    have e8 : exec (tabOf FTL) 391 (.seq sz8i (.block 2 sz8)) ⟨f7, h⟩ = some (.norm, ⟨f8, h⟩) := by
      rw [exec.eq_def]; simp only; rw [g8i]; simp only
      rw [exec.eq_def]; simp only; rw [g8]; rfl
    rw [exec.eq_def]; simp only; rw [e8]; simp only
    rw [exec.eq_def]; simp only; rw [g9]; simp only
    rw [exec.eq_def]; simp only; rw [g10]; simp only
    rw [exec.eq_def]; simp only; rw [g11]; simp only
    rfl
  rw [callE.eq_def]
  simp only [hF, sizBody]
  have hs : ([PV.int .i64 n, PV.int .i64 m] ++ List.replicate (96 - [PV.int .i64 n, PV.int .i64 m].length) PV.junk) = [.int .i64 n, .int .i64 m] ++ List.replicate 94 .junk := rfl
  have hh : (⟨List.map some ([] : List Blk), List.replicate 0 ⟨0, none⟩⟩ : Heap) = h := rfl
  rw [hs, hh, he]
  simp only
  have hf : ∃ h', (finish ⟨96, 0, true, [true, true], [.tmp 4], .seq sz1 (.seq sz2 (.seq sz3 (.seq sz4 (.seq (.block 0 sz5) (.seq (szCall 0 24 25 7) (.seq sz7 (.seq (.seq sz8i (.block 2 sz8)) (.seq (szCall 1 47 48 9) (.seq sz10 (.seq sz11 .ret)))))))))), none⟩ ([] : List Blk).length f11).run h = some ((.bool true, []), h') := by
    refine ⟨h, ?_⟩
    unfold finish
    rw [HM.run_bind]
    have hr : (resOf f11 [.tmp 4]).run h = some ([.bool true], h) := by simp only [resOf, HM.bind, HM.run, t4]
    rw [hr]
    rfl
  obtain ⟨h', hf⟩ := hf
  rw [hf]
end Gv
