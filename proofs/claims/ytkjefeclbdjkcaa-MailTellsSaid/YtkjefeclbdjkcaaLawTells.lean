/- What this file proves: one part of the proof that the law answers true for every input, by an interpreter that is proved sound against the given model. -/
import Derived.Test.YtkjefeclbdjkcaaTab
import Derived.Test.YtkjefeclbdjkcaaLm
import Derived.Test.YtkjefeclbdjkcaaRows
import Derived.WalkKit
import Derived.ProofKit
import Derived.OpenShut
import Derived.ShutString
import Derived.ChangeOld
import Derived.Below
import Derived.SizedLaws
namespace Go.Proofs.Ytkjefeclbdjkcaa.mailTells
open Go.ChangeShapes Go.WideShapes Go.ChangeAt Go.RowKit
open Go.ChangeMaps (open_string shut_string)
theorem own : ownKnob Try.prog.godebug = none := by kernel_rfl
theorem laidOut : laidOutB Try.prog = true := by kernel_rfl
theorem E_true (x0 x1 x2 x3 : Gv.PV) (h0 : Gv.VT false [.slice true [.int .i64, .int .i64, .int .i64, .int .i64, .int .i64, .slice false [.int .i64]]] x0) (h1 : Gv.VT false [.slice true [.int .i64, .int .i64, .int .i64, .int .i64, .int .i64, .slice false [.int .i64]]] x1) (h2 : Gv.VT true [.int .i64, .int .i64, .int .i64, .int .i64, .int .i64, .slice false [.int .i64]] x2) (h3 : Gv.VT false [.int .i64] x3) : ∃ n, Gv.callE Gv.FTM n 7 [x0, x1, x2, x3] [] = some (.bool true, []) := Gv.mailTells_true h0 h1 h2 h3
theorem ty0 : Gv.tyC Try.prog 21 88 = some (false, [.slice true [.int .i64, .int .i64, .int .i64, .int .i64, .int .i64, .slice false [.int .i64]]]) := by kernel_rfl
theorem ty1 : Gv.tyC Try.prog 21 88 = some (false, [.slice true [.int .i64, .int .i64, .int .i64, .int .i64, .int .i64, .slice false [.int .i64]]]) := by kernel_rfl
theorem ty2 : Gv.tyC Try.prog 21 92 = some (true, [.int .i64, .int .i64, .int .i64, .int .i64, .int .i64, .slice false [.int .i64]]) := by kernel_rfl
theorem ty3 : Gv.tyC Try.prog 21 3 = some (false, [.int .i64]) := by kernel_rfl
set_option maxRecDepth 100000 in
theorem lifted (os : Os) (started : os.Started) (H : Type) (enc : TypeId × Value → H) :
    ReturnsInHanded {} Try.checked os 10 .any (Rows.mailTellsSpec.pre6 enc Try.prog Try.f10 Rows.mailTellsRow.domain false) (Rows.mailTellsSpec.post enc Try.prog Try.f10 false true false false) := by
  refine returnsInHanded_of_change_sized (C := Try.checked) own started (by kernel_rfl) Try.func10
    (ChangeSpec.witness6 (enc := enc) (C := Try.checked) false ⟨#[], #[.slice none 0 0, .slice none 0 0, .agg #[.int .i64 0, .int .i64 0, .int .i64 0, .int .i64 0, .int .i64 0, .slice none 0 0], .int .i64 0], []⟩ 8 (by kernel_rfl) (by kernel_rfl) (by kernel_rfl) (by kernel_rfl)) ?_
  intro W base args ds gs before hval0 hW hcnd hsz0 _
  have hval : ∀ (j : Nat) t v, Try.f10.params[j]? = some t → args[j]? = some v → Value.okWide Try.prog W .any base t v := hval0
  have hW' := hW
  obtain ⟨p, q, hA0, hV, rfl, hfz, hnd⟩ := hW
  have hA : DataW.TrodAll enc Try.prog W 0 (fun _ => true) true Try.f10.params.toList args.toList ds p := hA0
  rw [Try.params10] at hA hval
  obtain ⟨v0, vs0, d0, ds0, p0, q0, hargs, rfl, rfl, h0, r0⟩ := trodAll_cons hA
  obtain ⟨v1, vs1, d1, ds1, p1, q1, rfl, rfl, rfl, h1, r1⟩ := trodAll_cons r0
  obtain ⟨v2, vs2, d2, ds2, p2, q2, rfl, rfl, rfl, h2, r2⟩ := trodAll_cons r1
  obtain ⟨v3, vs3, d3, ds3, p3, q3, rfl, rfl, rfl, h3, r3⟩ := trodAll_cons r2
  obtain ⟨rfl, rfl, rfl⟩ := trodAll_nil r3
  obtain rfl : args = #[v0, v1, v2, v3] := by cases args; simp_all
  obtain ⟨rfl, rfl⟩ := trodVars_none hV
  have lt0 : ∀ x ∈ p0, x.block < W.heap.size := by obtain ⟨m, hm⟩ := h0; exact DataW.trod_lt m _ _ _ hm
  have lt1 : ∀ x ∈ p1, x.block < W.heap.size := by obtain ⟨m, hm⟩ := h1; exact DataW.trod_lt m _ _ _ hm
  have lt2 : ∀ x ∈ p2, x.block < W.heap.size := by obtain ⟨m, hm⟩ := h2; exact DataW.trod_lt m _ _ _ hm
  have lt3 : ∀ x ∈ p3, x.block < W.heap.size := by obtain ⟨m, hm⟩ := h3; exact DataW.trod_lt m _ _ _ hm
  obtain ⟨x0, V0, F0⟩ := Gv.open_arg (fid := Gv.fid) (n := 20) h0 (hval 0 _ v0 rfl rfl) ty0
  obtain ⟨x1, V1, F1⟩ := Gv.open_arg (fid := Gv.fid) (n := 20) h1 (hval 1 _ v1 rfl rfl) ty1
  obtain ⟨x2, V2, F2⟩ := Gv.open_arg (fid := Gv.fid) (n := 20) h2 (hval 2 _ v2 rfl rfl) ty2
  obtain ⟨x3, V3, F3⟩ := Gv.open_arg (fid := Gv.fid) (n := 20) h3 (hval 3 _ v3 rfl rfl) ty3
  clear hA0 hval0 hsz0
  refine (Gv.law_calls (fid := Gv.fid) (w := W) Gv.tabW (g := 10) rfl (E_true x0 x1 x2 x3 V0 V1 V2 V3) (.cons F0 (.cons F1 (.cons F2 (.cons F3 .nil))))).mono fun e W' ⟨he, bel⟩ => ?_
  subst he
  exact ⟨_, rfl, _, _, _, [], _, [], hW', trodAll_mk1 (shut_bool Try.underlying4 _), trodAll_cons_mk (Below.trod laidOut (by kernel_rfl) (of_decide_eq_true (by kernel_rfl)) h0 bel lt0) (trodAll_cons_mk (Below.trod laidOut (by kernel_rfl) (of_decide_eq_true (by kernel_rfl)) h1 bel lt1) (trodAll_cons_mk (Below.trod laidOut (by kernel_rfl) (of_decide_eq_true (by kernel_rfl)) h2 bel lt2) (trodAll_cons_mk (Below.trod laidOut (by kernel_rfl) (of_decide_eq_true (by kernel_rfl)) h3 bel lt3) trodAll_mk0))), rfl, bel.frame _, fun h => by cases h⟩
theorem over : Rows.mailTellsRow.holds Try.pinned (OpenSpec.ofChange Rows.mailTellsSpec) :=
  OpenClaim.holds_of_wide 10 Try.f10 rfl rfl rfl rfl rfl rfl rfl ⟨rfl, rfl, rfl, rfl, rfl⟩ rfl rfl rfl rfl rfl (by kernel_rfl) Try.func10 (by kernel_rfl)
    (of_decide_eq_true (by kernel_rfl)) (by unfold Func.isWrapper; first | (rw [if_pos (by decide +kernel)]; kernel_rfl) | (rw [if_neg (by decide +kernel)]; exact ⟨rfl, rfl⟩))
    (fun os started H enc _ => lifted os started H enc)
theorem proved : Rows.MailTellsSaid := over
end Go.Proofs.Ytkjefeclbdjkcaa.mailTells
namespace Go.Proofs.Ytkjefeclbdjkcaa
theorem mailTells_holds : Rows.MailTellsSaid := mailTells.proved
end Go.Proofs.Ytkjefeclbdjkcaa
