/- What this file proves: one part of the proof that the law answers true for every input, by an interpreter that is proved sound against the given model. -/
import Derived.Test.YtkjefeclbdjkcaaNum
import Derived.Test.YtkjefeclbdjkcaaEc
import Derived.Test.YtkjefeclbdjkcaaAw
import Derived.OpenShut
namespace Gv
open Go Go.ChangeShapes Go.WideShapes Go.RowKit
theorem VT.ct {c : CTy} {x : PV} (h : VT false [c] x) : CT c x := h.at_ 0 _ x rfl (by rw [cells_one (h.one rfl)]; rfl)
theorem ct_i64 {x : PV} (h : CT (.int .i64) x) : ∃ n : Int, x = .int .i64 n ∧ -9223372036854775808 ≤ n ∧ n ≤ 9223372036854775807 := by
  cases h with
  | int _ k hw =>
    obtain ⟨a, b⟩ := bounds_i64 hw
    exact ⟨k, rfl, a, b⟩
theorem ct_u8 {x : PV} (h : CT (.int .u8) x) : ∃ n : Nat, x = .int .u8 n ∧ n < 256 := by
  cases h with
  | int _ k hw =>
    obtain ⟨a, b⟩ := bounds_u8 hw
    exact ⟨k.toNat, by congr 1; omega, by omega⟩
theorem bytes_of : ∀ {es : List PV}, (∀ e ∈ es, ∃ n : Nat, e = .int .u8 n ∧ n < 256) → ∃ b : List Nat, es = bytesV b ∧ ∀ x ∈ b, x < 256
  | [], _ => ⟨[], rfl, by simp⟩
  | e :: es, h => by
    obtain ⟨n, h1, h2⟩ := h e (by simp)
    obtain ⟨b, h3, h4⟩ := bytes_of (es := es) fun e he => h e (by simp [he])
    refine ⟨n :: b, by rw [h1, h3]; rfl, fun x hx => ?_⟩
    rcases List.mem_cons.1 hx with rfl | hx
    · exact h2
    · exact h4 x hx
theorem plL_bytes : ∀ b : List Nat, plL (bytesV b) = true
  | [] => rfl
  | x :: b => by
    show (true && plL (bytesV b)) = true
    rw [plL_bytes b]; rfl
theorem ct_bytes {x : PV} (h : CT (.slice false [.int .u8]) x) : ∃ b : List Nat, nrm x = .lst (bytesV b) false ∧ pl x = true ∧ ∀ y ∈ b, y < 256 := by
  cases h with
  | nils => exact ⟨[], rfl, rfl, by simp⟩
  | lst _ _ es c0 h0 hl h1 h2 =>
    obtain ⟨b, rfl, hb⟩ := bytes_of (es := es) fun e he => by
      obtain ⟨i, hi⟩ := List.getElem?_of_mem he
      have hc := (h1 i e hi).2.2 rfl
      exact ct_u8 (h2 i e 0 _ e hi rfl (by rw [cells_one hc]; rfl))
    exact ⟨b, by simp only [nrm, nrmL_bytes], by simp only [pl, plL_bytes], hb⟩
theorem tVT_ok : VTOk' (tabOf FTL) tVT := by
  have key : ∀ n, ∀ f F, tabV VTL f = some F → f < n → F.binds = [] ∧ EntOk (tabOf FTL) tVS f F := by
    intro n f F h hn
    match f, h with
    | 0, h => cases h; exact ⟨rfl, mk0⟩
    | 10, h => cases h; exact ⟨rfl, yes_ent awakeN⟩
    | 11, h => cases h; exact ⟨rfl, mk11⟩
    | 12, h => cases h; exact ⟨rfl, mk12⟩
    | 13, h => cases h; exact ⟨rfl, mk13⟩
    | 14, h => cases h; exact ⟨rfl, mk14⟩
    | 1, h | 2, h | 3, h | 4, h | 5, h | 6, h | 7, h | 8, h | 9, h => cases h
    | f + 15, h => cases h
  exact fun f F h => key (f + 1) f F h (by omega)
theorem numbers_true {x0 x1 : PV} (h0 : VT false [.int .i64] x0) (h1 : VT false [.slice false [.int .u8]] x1) : ∃ n, callE (tabOf FTL) n 0 [x0, x1] [] = some (.bool true, []) := by
  obtain ⟨n, rfl, a, b⟩ := ct_i64 h0.ct
  obtain ⟨l, e1, e2, e3⟩ := ct_bytes h1.ct
  refine law_E tVT_ok (m := 3) (F := v_WireNumbers) (n := 2) rfl rfl (by simp only [plL, e2]; rfl) rfl ?_
  have e4 : nrmL [PV.int .i64 n, x1] = [.int .i64 n, .lst (bytesV l) false] := by simp only [nrmL, nrm, e1]
  rw [e4]
  exact wireNumbers_V (m := 0) a b e3
end Gv
