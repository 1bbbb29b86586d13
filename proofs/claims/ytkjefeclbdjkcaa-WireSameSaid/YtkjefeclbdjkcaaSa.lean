/- What this file proves: one part of the proof that the law answers true for every input, by an interpreter that is proved sound against the given model. -/
import Derived.Test.YtkjefeclbdjkcaaEc
import Derived.Test.YtkjefeclbdjkcaaIrv
import Derived.KernelRfl
namespace Gv
open Go
def icl : ICode → ICode | .seq a _ => a | c => c
def icr : ICode → ICode | .seq _ b => b | c => c
def iops : ICode → List IOper | .reg o _ => o | _ => []
def xS : Option (Ex × St) → St | some (_, s) => s | none => ⟨[], ⟨[], []⟩⟩
def rS : Option St → St | some s => s | none => ⟨[], ⟨[], []⟩⟩
abbrev i6 (n : Int) : PV := .int .i64 n
abbrev sB : ICode := f_law22_WireSame.body
def sRO : Nat → List Bool := fun f => match tabOf FTL f with | some F => F.ro | none => []
def sI (k b : Int) : St := ⟨[i6 k, i6 b] ++ List.replicate 157 .junk, ⟨[], List.replicate 22 ⟨0, none⟩⟩⟩
def sC1 : ICode := icl (icr sB)
def sA (k b : Int) : St := xS (exec (tabOf FTL) 200 sC1 (xS (exec (tabOf FTL) 200 (icl sB) (sI k b))))
theorem sA_ok (k b : Int) : ∃ n, exec (tabOf FTL) n (icl sB) (sI k b) = some (.norm, xS (exec (tabOf FTL) 200 (icl sB) (sI k b))) := ⟨200, by kernel_rfl⟩
theorem sA_ok' (k b : Int) : exec (tabOf FTL) 200 sC1 (xS (exec (tabOf FTL) 200 (icl sB) (sI k b))) = some (.norm, sA k b) := by kernel_rfl
def sC2 : ICode := icl (icr (icr sB))
def sG : ICode := icl sC2
theorem sA_len (k b : Int) : (sA k b).fr.length = 159 := by kernel_rfl
theorem sA_1 (k b : Int) : nth (sA k b).fr 1 = i6 b := by kernel_rfl
theorem guard_in {fr : List PV} {b : Int} (hl : fr.length = 159) (h1 : nth fr 1 = i6 b) (h0 : 1 ≤ b) (h2 : b ≤ 1000) (h : Heap) (n : Nat) :
  exec (tabOf FTL) (n + 1) sG ⟨fr, h⟩ = some (.norm, ⟨upd (upd (upd (upd (upd (upd fr 13 (i6 b)) 14 (.bool false)) 15 (.bool false)) 16 (i6 b)) 17 (.bool false)) 18 (.bool false), h⟩) := by
 have d1 : decide (b < 1) = false := by simp; omega
 have d2 : decide (1000 < b) = false := by simp; omega
 simp [sG, sC2, icl, icr, sB, f_law22_WireSame, o, og, u, exec, runOps, stepOp, wanted, sem, PO.ev, putDst, HM.run, HM.ofO, bin, binI, nth_upd, upd_length, hl, h1, pickPV, d1, d2]
theorem guard_lo {fr : List PV} {b : Int} (hl : fr.length = 159) (h1 : nth fr 1 = i6 b) (h0 : b < 1) (h : Heap) (n : Nat) :
  exec (tabOf FTL) (n + 1) sG ⟨fr, h⟩ = some (.norm, ⟨upd (upd (upd (upd (upd (upd fr 13 (i6 b)) 14 (.bool true)) 15 (.bool true)) 16 (.tup [])) 17 (.tup [])) 18 (.bool true), h⟩) := by
 have d1 : decide (b < 1) = true := by simp; omega
 simp [sG, sC2, icl, icr, sB, f_law22_WireSame, o, og, u, exec, runOps, stepOp, wanted, sem, PO.ev, putDst, HM.run, HM.ofO, bin, binI, nth_upd, upd_length, hl, h1, pickPV, d1]
theorem guard_hi {fr : List PV} {b : Int} (hl : fr.length = 159) (h1 : nth fr 1 = i6 b) (h0 : 1 ≤ b) (h2 : 1000 < b) (h : Heap) (n : Nat) :
  exec (tabOf FTL) (n + 1) sG ⟨fr, h⟩ = some (.norm, ⟨upd (upd (upd (upd (upd (upd fr 13 (i6 b)) 14 (.bool false)) 15 (.bool false)) 16 (i6 b)) 17 (.bool true)) 18 (.bool true), h⟩) := by
 have d1 : decide (b < 1) = false := by simp; omega
 have d2 : decide (1000 < b) = true := by simp; omega
 simp [sG, sC2, icl, icr, sB, f_law22_WireSame, o, og, u, exec, runOps, stepOp, wanted, sem, PO.ev, putDst, HM.run, HM.ofO, bin, binI, nth_upd, upd_length, hl, h1, pickPV, d1, d2]
end Gv

namespace Gv
open Go
def gIn (k b : Int) : St := ⟨upd (upd (upd (upd (upd (upd (sA k b).fr 13 (i6 b)) 14 (.bool false)) 15 (.bool false)) 16 (i6 b)) 17 (.bool false)) 18 (.bool false), (sA k b).h⟩
def gLo (k b : Int) : St := ⟨upd (upd (upd (upd (upd (upd (sA k b).fr 13 (i6 b)) 14 (.bool true)) 15 (.bool true)) 16 (.tup [])) 17 (.tup [])) 18 (.bool true), (sA k b).h⟩
def gHi (k b : Int) : St := ⟨upd (upd (upd (upd (upd (upd (sA k b).fr 13 (i6 b)) 14 (.bool false)) 15 (.bool false)) 16 (i6 b)) 17 (.bool true)) 18 (.bool true), (sA k b).h⟩
def cnd : ICode → ICode | .cond _ x _ => x | c => c
def sK : ICode := icl (cnd (icr sC2))
def k1 : List IOper := (iops sK).take 3
def k2 : List IOper := (iops sK).drop 3
def args2 : PV → List PV | .agg x => x | _ => []
def r3 : ICode := icr (icr (icr sB))
def sRR : List IOper := iops (icl (icl r3))
def sSW : ICode := icr (icl r3)
def e1 : List IOper := iops (icl (icr r3))
def e2 : List IOper := iops (icl (icr (icr r3)))
def l1 : List IOper := (iops (icl (icr (icr (icr r3))))).take 3
def l2 : List IOper := (iops (icl (icr (icr (icr r3))))).drop 3
theorem body_eq : sB = .seq (icl sB) (.seq sC1 (.seq (.seq sG (.cond (.t 18) (.seq (.reg (k1 ++ k2) false) .ret) .skip)) (.seq (.seq (.reg sRR false) sSW) (.seq (.reg e1 false) (.seq (.reg e2 false) (.seq (.reg (l1 ++ l2) false) .ret)))))) := by kernel_rfl
def asked (l : List IOper) (σ : St) (t : Nat) : List PV := args2 (nth (rS (runOps sRO (fun _ a _ => some (.agg a, [])) l σ)).fr t)
def vA : PV := (asked (k1) (gLo 0 0) 21).headD .junk
theorem lo_call (C : CallF) (k b : Int) : runOps sRO C k1 (gLo k b) = runOps sRO (fun _ _ _ => C 22 [vA, vA] []) k1 (gLo k b) := by kernel_rfl
theorem hi_call (C : CallF) (k b : Int) : runOps sRO C k1 (gHi k b) = runOps sRO (fun _ _ _ => C 22 [vA, vA] []) k1 (gHi k b) := by kernel_rfl
end Gv

namespace Gv
open Go
def gLo' (k b : Int) (v : Bool) : St := rS (runOps sRO (fun _ _ _ => some (.bool v, [])) k1 (gLo k b))
def gHi' (k b : Int) (v : Bool) : St := rS (runOps sRO (fun _ _ _ => some (.bool v, [])) k1 (gHi k b))
theorem lo_1 (k b : Int) : runOps sRO (fun _ _ _ => some (.bool true, [])) k1 (gLo k b) = some (gLo' k b true) := by kernel_rfl
theorem hi_1 (k b : Int) : runOps sRO (fun _ _ _ => some (.bool true, [])) k1 (gHi k b) = some (gHi' k b true) := by kernel_rfl
theorem lo_2 (C : CallF) (k b : Int) : runOps sRO C k2 (gLo' k b true) = runOps sRO (fun _ _ _ => C 10 [] []) k2 (gLo' k b true) := by kernel_rfl
theorem hi_2 (C : CallF) (k b : Int) : runOps sRO C k2 (gHi' k b true) = runOps sRO (fun _ _ _ => C 10 [] []) k2 (gHi' k b true) := by kernel_rfl
def gLo2 (k b : Int) : St := rS (runOps sRO (fun _ _ _ => some (.bool true, [])) k2 (gLo' k b true))
def gHi2 (k b : Int) : St := rS (runOps sRO (fun _ _ _ => some (.bool true, [])) k2 (gHi' k b true))
theorem lo_3 (k b : Int) : runOps sRO (fun _ _ _ => some (.bool true, [])) k2 (gLo' k b true) = some (gLo2 k b) := by kernel_rfl
theorem hi_3 (k b : Int) : runOps sRO (fun _ _ _ => some (.bool true, [])) k2 (gHi' k b true) = some (gHi2 k b) := by kernel_rfl
theorem lo_4 (k b : Int) : nth (gLo2 k b).fr 4 = .bool true := by kernel_rfl
theorem hi_4 (k b : Int) : nth (gHi2 k b).fr 4 = .bool true := by kernel_rfl
theorem lo_18 (k b : Int) : nth (gLo k b).fr 18 = .bool true := by kernel_rfl
theorem hi_18 (k b : Int) : nth (gHi k b).fr 18 = .bool true := by kernel_rfl
theorem in_18 (k b : Int) : nth (gIn k b).fr 18 = .bool false := by kernel_rfl
theorem round_call (C : CallF) (k b : Int) : runOps sRO C sRR (gIn k b) = runOps sRO (fun _ _ _ => C 23 [i6 k, i6 10] []) sRR (gIn k b) := by kernel_rfl
def sR (k b r : Int) : St := rS (runOps sRO (fun _ _ _ => some (i6 r, [])) sRR (gIn k b))
theorem round_ret (k b r : Int) : runOps sRO (fun _ _ _ => some (i6 r, [])) sRR (gIn k b) = some (sR k b r) := by kernel_rfl
def sS (k b r : Int) : St := xS (exec (tabOf FTL) 100 sSW (sR k b r))
def vB (b r : Int) : PV := (asked (e2.take 2) (rS (runOps sRO (fun _ _ _ => some (.tup [.lst [] false, i6 0], [])) e1 (sS 0 b r))) 134).headD .junk
def sE (k b r : Int) (x : List PV) (c : Bool) : St := rS (runOps sRO (fun _ _ _ => some (.tup [.lst x c, i6 0], [])) e1 (sS k b r))
def sF (k b r : Int) (x : List PV) (c : Bool) (y : List PV) (d : Bool) : St := rS (runOps sRO (fun _ _ _ => some (.tup [.lst y d, i6 0], [])) e2 (sE k b r x c))
def sL (k b r : Int) (x : List PV) (c : Bool) (y : List PV) (d : Bool) : St := rS (runOps sRO (fun _ _ _ => some (.bool false, [])) l1 (sF k b r x c y d))
end Gv

namespace Gv
open Go
structure SnOk (r : Int) : Prop where
 sw : ∀ k b, exec (tabOf FTL) 100 sSW (sR k b r) = some (.norm, sS k b r)
 c1 : ∀ (C : CallF) k b, runOps sRO C e1 (sS k b r) = runOps sRO (fun _ _ _ => C 16 [vA] []) e1 (sS k b r)
 h1 : ∀ k b x c, runOps sRO (fun _ _ _ => some (.tup [.lst x c, i6 0], [])) e1 (sS k b r) = some (sE k b r x c)
 c2 : ∀ (C : CallF) k b x c, runOps sRO C e2 (sE k b r x c) = runOps sRO (fun _ _ _ => C 16 [vB b r] []) e2 (sE k b r x c)
 h2 : ∀ k b x c y d, runOps sRO (fun _ _ _ => some (.tup [.lst y d, i6 0], [])) e2 (sE k b r x c) = some (sF k b r x c y d)
 c3 : ∀ (C : CallF) k b x c y d, runOps sRO C l1 (sF k b r x c y d) = runOps sRO (fun _ _ _ => C 22 [vA, vB b r] []) l1 (sF k b r x c y d)
 h3 : ∀ k b x c y d, runOps sRO (fun _ _ _ => some (.bool false, [])) l1 (sF k b r x c y d) = some (sL k b r x c y d)
 t8 : ∀ k b x c y d, nth (sL k b r x c y d).fr 8 = i6 0
 t10 : ∀ k b x c y d, nth (sL k b r x c y d).fr 10 = i6 0
 t7 : ∀ k b x c y d, nth (sL k b r x c y d).fr 7 = .lst x c
 t9 : ∀ k b x c y d, nth (sL k b r x c y d).fr 9 = .lst y d
 t139 : ∀ k b x c y d, nth (sL k b r x c y d).fr 139 = .bool false
 len : ∀ k b x c y d, (sL k b r x c y d).fr.length = 159
theorem sn0 : SnOk 0 := by
 constructor
 all_goals intros
 all_goals kernel_rfl
theorem sn1 : SnOk 1 := by
 constructor
 all_goals intros
 all_goals kernel_rfl
theorem sn2 : SnOk 2 := by
 constructor
 all_goals intros
 all_goals kernel_rfl
theorem sn3 : SnOk 3 := by
 constructor
 all_goals intros
 all_goals kernel_rfl
theorem sn4 : SnOk 4 := by
 constructor
 all_goals intros
 all_goals kernel_rfl
theorem sn5 : SnOk 5 := by
 constructor
 all_goals intros
 all_goals kernel_rfl
theorem sn6 : SnOk 6 := by
 constructor
 all_goals intros
 all_goals kernel_rfl
theorem sn7 : SnOk 7 := by
 constructor
 all_goals intros
 all_goals kernel_rfl
theorem sn8 : SnOk 8 := by
 constructor
 all_goals intros
 all_goals kernel_rfl
theorem sn9 : SnOk 9 := by
 constructor
 all_goals intros
 all_goals kernel_rfl
end Gv

namespace Gv
open Go
theorem b2s_run {x : List PV} {c : Bool} {l : List UInt8} (hx : bytesOf x = some l) (h : Heap) : (b2sHM (.lst x c)).run h = some (.str l, h) := by
 simp [b2sHM, PV.isStr, elems, HM.bind, hx, HM.run]
theorem sn_fin {C : CallF} (hC : C 10 [] [] = some (.bool true, [])) {fr : List PV} {x y : List PV} {c d : Bool} {lx ly : List UInt8} (hx : bytesOf x = some lx) (hy : bytesOf y = some ly) (hn : lx ≠ ly) (hl : fr.length = 159) (t8 : nth fr 8 = i6 0) (t10 : nth fr 10 = i6 0) (t7 : nth fr 7 = .lst x c) (t9 : nth fr 9 = .lst y d) (t139 : nth fr 139 = .bool false) (h : Heap) :
  ∃ fr', runOps sRO C l2 ⟨fr, h⟩ = some ⟨fr', h⟩ ∧ nth fr' 4 = .bool true := by
 have hcall : ∀ ro, (callHM C ro 10 [] 22).run h = some (.bool true, h) := fun ro => call_pure rfl rfl hC
 have hs : bin .neq (.str lx) (.str ly) = some (.bool true) := by simp [bin, hn]
 have hi : bin .eql (i6 0) (i6 0) = some (.bool true) := rfl
 generalize hr : runOps sRO C l2 ⟨fr, h⟩ = r
 simp [l2, iops, icl, icr, r3, sB, f_law22_WireSame, o, og, u, runOps, stepOp, wanted, sem, PO.ev, evL, putDst, HM.run, HM.ofO, un, nth_upd, upd_length, hl, t8, t10, t7, t9, t139, pickPV, b2s_run hx, b2s_run hy, hs, hi, hcall] at hr
 subst hr
 exact ⟨_, rfl, by simp [nth_upd, upd_length, hl]⟩
end Gv
