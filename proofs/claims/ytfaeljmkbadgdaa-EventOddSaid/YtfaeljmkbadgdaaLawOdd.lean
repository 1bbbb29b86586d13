/- What this file proves: one part of the proof that the law answers true for every input, by an interpreter that is proved sound against the given model. -/
import Derived.Test.YtfaeljmkbadgdaaOk
import Derived.Test.YtfaeljmkbadgdaaMp
import Derived.Test.YtfaeljmkbadgdaaOd
import Derived.Test.YtfaeljmkbadgdaaTab
import Derived.Test.YtfaeljmkbadgdaaRows
import Derived.WalkKit
import Derived.ProofKit
import Derived.OpenShut
import Derived.ShutString
import Derived.ChangeOld
import Derived.Below
import Derived.SizedLaws
namespace Gv
open Go Go.ChangeShapes Go.WideShapes Go.RowKit
theorem eventOdd_true {x0 x1 : PV} (h0 : VT false [.int .i64] x0) (h1 : VT false [.int .i64] x1) : ∃ n, callE (tabOf FTL) n 114 [x0, x1] [] = some (.bool true, []) := by
 obtain ⟨k, rfl, _⟩ := ct_i64 h0.ct
 obtain ⟨n, rfl, a, b⟩ := ct_i64 h1.ct
 refine law_E tVT_ok (m := 21) (F := v_law10_EventOdd) (n := 2) rfl rfl rfl rfl ?_
 exact odd_V (m := 0) k n ⟨a, b⟩
end Gv

namespace Go.Proofs.Ytfaeljmkbadgdaa.eventOdd
open Go.ChangeShapes Go.WideShapes Go.ChangeAt Go.RowKit
open Go.ChangeMaps (open_string shut_string)
theorem own : ownKnob Try.prog.godebug = none := by kernel_rfl
theorem laidOut : laidOutB Try.prog = true := by kernel_rfl
theorem E_true (x0 x1 : Gv.PV) (h0 : Gv.VT false [.int .i64] x0) (h1 : Gv.VT false [.int .i64] x1) : ∃ n, Gv.callE (Gv.tabOf Gv.FTL) n 114 [x0, x1] [] = some (.bool true, []) := Gv.eventOdd_true h0 h1
theorem ty0 : Gv.tyC Try.prog 21 3 = some (false, [.int .i64]) := by kernel_rfl
theorem ty1 : Gv.tyC Try.prog 21 3 = some (false, [.int .i64]) := by kernel_rfl
set_option maxRecDepth 100000 in
theorem lifted (os : Os) (started : os.Started) (H : Type) (enc : TypeId × Value → H) :
    ReturnsInHanded {} Try.checked os 7 .any (Rows.eventOddSpec.pre6 enc Try.prog Try.f7 Rows.eventOddRow.domain false) (Rows.eventOddSpec.post enc Try.prog Try.f7 false true false false) := by
  refine returnsInHanded_of_change_sized (C := Try.checked) own started (by kernel_rfl) Try.func7
    (ChangeSpec.witness6 (enc := enc) (C := Try.checked) false ⟨#[], #[.int .i64 0, .int .i64 0], []⟩ 8 (by kernel_rfl) (by kernel_rfl) (by kernel_rfl) (by kernel_rfl)) ?_
  intro W base args ds gs before hval0 hW hcnd hsz0 _
  have hval : ∀ (j : Nat) t v, Try.f7.params[j]? = some t → args[j]? = some v → Value.okWide Try.prog W .any base t v := hval0
  have hW' := hW
  obtain ⟨p, q, hA0, hV, rfl, hfz, hnd⟩ := hW
  have hA : DataW.TrodAll enc Try.prog W 0 (fun _ => true) true Try.f7.params.toList args.toList ds p := hA0
  rw [Try.params7] at hA hval
  obtain ⟨v0, vs0, d0, ds0, p0, q0, hargs, rfl, rfl, h0, r0⟩ := trodAll_cons hA
  obtain ⟨v1, vs1, d1, ds1, p1, q1, rfl, rfl, rfl, h1, r1⟩ := trodAll_cons r0
  obtain ⟨rfl, rfl, rfl⟩ := trodAll_nil r1
  obtain rfl : args = #[v0, v1] := by cases args; simp_all
  obtain ⟨rfl, rfl⟩ := trodVars_none hV
  have lt0 : ∀ x ∈ p0, x.block < W.heap.size := by obtain ⟨m, hm⟩ := h0; exact DataW.trod_lt m _ _ _ hm
  have lt1 : ∀ x ∈ p1, x.block < W.heap.size := by obtain ⟨m, hm⟩ := h1; exact DataW.trod_lt m _ _ _ hm
  obtain ⟨x0, V0, F0⟩ := Gv.open_arg (fid := Gv.fid) (n := 20) h0 (hval 0 _ v0 rfl rfl) ty0
  obtain ⟨x1, V1, F1⟩ := Gv.open_arg (fid := Gv.fid) (n := 20) h1 (hval 1 _ v1 rfl rfl) ty1
  clear hA0 hval0 hsz0
  refine (Gv.law_calls (fid := Gv.fid) (w := W) Gv.tabW (g := 7) rfl (E_true x0 x1 V0 V1) (.cons F0 (.cons F1 .nil))).mono fun e W' ⟨he, bel⟩ => ?_
  subst he
  exact ⟨_, rfl, _, _, _, [], _, [], hW', trodAll_mk1 (shut_bool Try.underlying4 _), trodAll_cons_mk (Below.trod laidOut (by kernel_rfl) (of_decide_eq_true (by kernel_rfl)) h0 bel lt0) (trodAll_cons_mk (Below.trod laidOut (by kernel_rfl) (of_decide_eq_true (by kernel_rfl)) h1 bel lt1) trodAll_mk0), rfl, bel.frame _, fun h => by cases h⟩
theorem over : Rows.eventOddRow.holds Try.pinned (OpenSpec.ofChange Rows.eventOddSpec) :=
  OpenClaim.holds_of_wide 7 Try.f7 rfl rfl rfl rfl rfl rfl rfl ⟨rfl, rfl, rfl, rfl, rfl⟩ rfl rfl rfl rfl rfl (by kernel_rfl) Try.func7 (by kernel_rfl)
    (of_decide_eq_true (by kernel_rfl)) (by unfold Func.isWrapper; first | (rw [if_pos (by decide +kernel)]; kernel_rfl) | (rw [if_neg (by decide +kernel)]; exact ⟨rfl, rfl⟩))
    (fun os started H enc _ => lifted os started H enc)
theorem proved : Rows.EventOddSaid := over
end Go.Proofs.Ytfaeljmkbadgdaa.eventOdd
namespace Go.Proofs.Ytfaeljmkbadgdaa
theorem eventOdd_holds : Rows.EventOddSaid := eventOdd.proved
end Go.Proofs.Ytfaeljmkbadgdaa
