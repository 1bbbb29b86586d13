/- What this file proves: one part of the proof that the law answers true for every input, by an interpreter that is proved sound against the given model. -/
import Derived.Test.YtkjefeclbdjkcaaSa
import Derived.Test.YtkjefeclbdjkcaaWc
import Derived.Test.YtkjefeclbdjkcaaVw
import Derived.Test.YtkjefeclbdjkcaaEc
import Derived.OpenShut
namespace Gv
open Go
abbrev wr (n : Int) : Int := IntKind.i64.wrap n
def oneT : STask := ⟨⟨[⟨0, [⟨1, -5⟩, ⟨2, 0⟩]⟩], [⟨[300], 2, -1, false⟩], [⟨0, 0, []⟩], 9⟩, [[⟨1, 1⟩]], ⟨1, 0, 0, 0⟩, ⟨4, 70⟩⟩
def twoT (b r : Int) : STask :=
 if r = 0 then ⟨⟨[⟨0, [⟨1, -5⟩, ⟨2, 0⟩]⟩], [⟨[300], 2, -1, false⟩], [⟨0, 0, []⟩], wr (9 + b)⟩, [[⟨1, 1⟩]], ⟨1, 0, 0, 0⟩, ⟨4, 70⟩⟩
 else if r = 1 then ⟨⟨[⟨0, [⟨1, wr (-5 + b)⟩, ⟨2, 0⟩]⟩], [⟨[300], 2, -1, false⟩], [⟨0, 0, []⟩], 9⟩, [[⟨1, 1⟩]], ⟨1, 0, 0, 0⟩, ⟨4, 70⟩⟩
 else if r = 2 then ⟨⟨[⟨0, [⟨1, -5⟩, ⟨2, 0⟩]⟩], [⟨[wr (300 + b)], 2, -1, false⟩], [⟨0, 0, []⟩], 9⟩, [[⟨1, 1⟩]], ⟨1, 0, 0, 0⟩, ⟨4, 70⟩⟩
 else if r = 3 then ⟨⟨[⟨0, [⟨1, -5⟩, ⟨2, 0⟩]⟩], [⟨[300], 2, -1, false⟩], [], 9⟩, [[⟨1, 1⟩]], ⟨1, 0, 0, 0⟩, ⟨4, 70⟩⟩
 else if r = 4 then ⟨⟨[⟨0, [⟨1, -5⟩, ⟨2, 0⟩]⟩], [⟨[300], 2, -1, false⟩], [⟨0, 0, []⟩], 9⟩, [[⟨1, wr (1 + b)⟩]], ⟨1, 0, 0, 0⟩, ⟨4, 70⟩⟩
 else if r = 5 then ⟨⟨[⟨0, [⟨1, -5⟩, ⟨2, 0⟩]⟩], [⟨[300], 2, -1, false⟩], [⟨0, 0, []⟩], 9⟩, [[⟨1, 1⟩], []], ⟨1, 0, 0, 0⟩, ⟨4, 70⟩⟩
 else if r = 6 then ⟨⟨[⟨0, [⟨1, -5⟩, ⟨2, 0⟩]⟩], [⟨[300], 2, -1, false⟩], [⟨0, 0, []⟩], 9⟩, [[⟨1, 1⟩]], ⟨1, 0, 0, wr (0 + b)⟩, ⟨4, 70⟩⟩
 else if r = 7 then ⟨⟨[⟨0, [⟨1, -5⟩, ⟨2, 0⟩]⟩], [⟨[300], 2, -1, false⟩], [⟨0, 0, []⟩], 9⟩, [[⟨1, 1⟩]], ⟨1, 0, 0, 0⟩, ⟨wr (4 + b), 70⟩⟩
 else if r = 8 then ⟨⟨[⟨0, [⟨1, -5⟩, ⟨2, 0⟩]⟩], [⟨[300], 2, -1, false⟩], [⟨0, 0, []⟩], 9⟩, [[⟨1, 1⟩]], ⟨1, 0, 0, 0⟩, ⟨4, wr (70 + b)⟩⟩
 else ⟨⟨[⟨0, [⟨1, -5⟩, ⟨2, 0⟩]⟩], [⟨[300], 2, wr (-1 + b), false⟩], [⟨0, 0, []⟩], 9⟩, [[⟨1, 1⟩]], ⟨1, 0, 0, 0⟩, ⟨4, 70⟩⟩
theorem vA_one : nrm vA = eTask oneT := by kernel_rfl
theorem vA_pl : pl vA = true := by kernel_rfl
theorem vB_0 (b : Int) : nrm (vB b 0) = eTask (twoT b 0) ∧ pl (vB b 0) = true := ⟨by kernel_rfl, by kernel_rfl⟩
theorem vB_1 (b : Int) : nrm (vB b 1) = eTask (twoT b 1) ∧ pl (vB b 1) = true := ⟨by kernel_rfl, by kernel_rfl⟩
theorem vB_2 (b : Int) : nrm (vB b 2) = eTask (twoT b 2) ∧ pl (vB b 2) = true := ⟨by kernel_rfl, by kernel_rfl⟩
theorem vB_3 (b : Int) : nrm (vB b 3) = eTask (twoT b 3) ∧ pl (vB b 3) = true := ⟨by kernel_rfl, by kernel_rfl⟩
theorem vB_4 (b : Int) : nrm (vB b 4) = eTask (twoT b 4) ∧ pl (vB b 4) = true := ⟨by kernel_rfl, by kernel_rfl⟩
theorem vB_5 (b : Int) : nrm (vB b 5) = eTask (twoT b 5) ∧ pl (vB b 5) = true := ⟨by kernel_rfl, by kernel_rfl⟩
theorem vB_6 (b : Int) : nrm (vB b 6) = eTask (twoT b 6) ∧ pl (vB b 6) = true := ⟨by kernel_rfl, by kernel_rfl⟩
theorem vB_7 (b : Int) : nrm (vB b 7) = eTask (twoT b 7) ∧ pl (vB b 7) = true := ⟨by kernel_rfl, by kernel_rfl⟩
theorem vB_8 (b : Int) : nrm (vB b 8) = eTask (twoT b 8) ∧ pl (vB b 8) = true := ⟨by kernel_rfl, by kernel_rfl⟩
theorem vB_9 (b : Int) : nrm (vB b 9) = eTask (twoT b 9) ∧ pl (vB b 9) = true := ⟨by kernel_rfl, by kernel_rfl⟩
end Gv

namespace Gv
open Go
theorem call_E {m f n : Nat} {F : VFun} {sc : Bool} (hF : tVT f = some F) (hs : F.sig = ⟨List.replicate n .F, .F, sc⟩) {args : List PV} (hp : plL args = true) (hl : args.length = n) {r : PV} {os : List PV} (hv : callV tVT m f (nrmL args) = some (r, os)) :
  ∃ k rE, callE (tabOf FTL) k f args [] = some (rE, []) ∧ nrm rE = r ∧ pl rE = true := by
 obtain ⟨hc, _⟩ := (callV_ok' tVT_ok m).c f _ _ _ hv F.sig (by simp [hF])
 rw [hs] at hc
 obtain ⟨k, rE, G', h1, h2⟩ := hc args [] (fun _ _ => False) (KRs_F hp hl) (fun _ _ _ h => h.elim) (fun _ _ h => h.elim) (fun k b h => by simp at h)
 obtain ⟨P', hP⟩ := h2.ex
 have hG : G' = [] := by
  cases G' with
  | nil => rfl
  | cons b bs =>
   exfalso
   obtain ⟨i, hi⟩ := hP.new 0 (by simp)
   have h3 := hP.lt i _ hi
   obtain ⟨e1, e2⟩ := oPartsF n
   simp only [Sig.nown, K.n, e2] at h3
   omega
 subst hG
 obtain ⟨g1, g2⟩ := hP.r
 exact ⟨k, rE, h1, g2.symm, g1⟩
theorem call_E2 {m f n : Nat} {F : VFun} {sc : Bool} (hF : tVT f = some F) (hs : F.sig = ⟨List.replicate n .F, .T [.F, .F], sc⟩) {args : List PV} (hp : plL args = true) (hl : args.length = n) {a b : PV} {os : List PV} (hv : callV tVT m f (nrmL args) = some (.tup [a, b], os)) :
  ∃ k x y, callE (tabOf FTL) k f args [] = some (.tup [x, y], []) ∧ nrm x = a ∧ nrm y = b ∧ pl x = true := by
 obtain ⟨hc, _⟩ := (callV_ok' tVT_ok m).c f _ _ _ hv F.sig (by simp [hF])
 rw [hs] at hc
 obtain ⟨k, rE, G', h1, h2⟩ := hc args [] (fun _ _ => False) (KRs_F hp hl) (fun _ _ _ h => h.elim) (fun _ _ h => h.elim) (fun k b h => by simp at h)
 obtain ⟨P', hP⟩ := h2.ex
 have hG : G' = [] := by
  cases G' with
  | nil => rfl
  | cons b bs =>
   exfalso
   obtain ⟨i, hi⟩ := hP.new 0 (by simp)
   have h3 := hP.lt i _ hi
   obtain ⟨e1, e2⟩ := oPartsF n
   simp only [Sig.nown, K.n, K.nL, e2] at h3
   omega
 subst hG
 have hr := hP.r
 simp only [KR] at hr
 obtain ⟨vs, xs, rfl, e1, e2⟩ := hr
 cases e1
 match vs, e2 with
 | [x, y], e2 =>
  simp only [KRs] at e2
  exact ⟨k, x, y, h1, e2.1.2.symm, e2.2.1.2.symm, e2.1.1⟩
theorem ex_seq {n : Nat} {a b : ICode} {σ σ' : St} {r : Option (Ex × St)} (h1 : exec (tabOf FTL) n a σ = some (.norm, σ')) (h2 : exec (tabOf FTL) n b σ' = r) : exec (tabOf FTL) (n + 1) (.seq a b) σ = r := by
 rw [exec.eq_def]; simp only; rw [h1]; exact h2
theorem ex_seq_ret {n : Nat} {a b : ICode} {σ σ' : St} (h1 : exec (tabOf FTL) n a σ = some (.ret, σ')) : exec (tabOf FTL) (n + 1) (.seq a b) σ = some (.ret, σ') := by
 rw [exec.eq_def]; simp only; rw [h1]
theorem ex_reg {n : Nat} {ops : List IOper} {σ σ' : St} (h : runOps sRO (callE (tabOf FTL) n) ops σ = some σ') : exec (tabOf FTL) (n + 1) (.reg ops false) σ = some (.norm, σ') := by
 rw [exec.eq_def]; simp only
 change (match runOps sRO (callE (tabOf FTL) n) ops σ with | some σ' => some (Ex.norm, σ') | none => none) = some (Ex.norm, σ')
 rw [h]
theorem ex_ret {n : Nat} {σ : St} : exec (tabOf FTL) (n + 1) .ret σ = some (.ret, σ) := by rw [exec.eq_def]
theorem ex_skip {n : Nat} {σ : St} : exec (tabOf FTL) (n + 1) .skip σ = some (.norm, σ) := by rw [exec.eq_def]
theorem runOps_two {RO : Nat → List Bool} {C : CallF} : ∀ {a b : List IOper} {σ σ' : St}, runOps RO C a σ = some σ' → runOps RO C (a ++ b) σ = runOps RO C b σ'
 | [], b, σ, σ', h => by simp only [runOps] at h; cases h; rfl
 | o :: os, b, σ, σ', h => by
  simp only [List.cons_append, runOps] at h ⊢
  cases hs : stepOp RO C o σ with
  | none => rw [hs] at h; cases h
  | some s => rw [hs] at h; exact runOps_two h
theorem fin_E {n : Nat} {k b : Int} {σ : St} (h : exec (tabOf FTL) n sB (sI k b) = some (.ret, σ)) (h4 : nth σ.fr 4 = .bool true) : callE (tabOf FTL) (n + 1) 5 [i6 k, i6 b] [] = some (.bool true, []) := by
 have hF : tabOf FTL 5 = some f_law22_WireSame := rfl
 rw [callE.eq_def]
 simp only [hF]
 have hi : f_law22_WireSame.intr = none := rfl
 rw [hi]
 simp only
 have hs : (⟨[i6 k, i6 b] ++ List.replicate (f_law22_WireSame.ntmps - [i6 k, i6 b].length) PV.junk, ⟨List.map some ([] : List Blk), List.replicate f_law22_WireSame.nslots ⟨0, none⟩⟩⟩ : St) = sI k b := rfl
 rw [hs, h]
 simp only
 have hf : ∃ h', (finish f_law22_WireSame ([] : List Blk).length σ.fr).run σ.h = some ((.bool true, []), h') := by
  refine ⟨σ.h, ?_⟩
  unfold finish
  rw [HM.run_bind]
  have hr : (resOf σ.fr f_law22_WireSame.res).run σ.h = some ([.bool true], σ.h) := by
   have : f_law22_WireSame.res = [.tmp 4] := rfl
   simp only [this, resOf, HM.bind, HM.run, h4]
  rw [hr]
  rfl
 obtain ⟨h', hf⟩ := hf
 rw [hf]
end Gv

namespace Gv
open Go
theorem cond_t {n : Nat} {x y : ICode} {σ : St} {t : Nat} {r : Option (Ex × St)} (h : nth σ.fr t = .bool true) (hx : exec (tabOf FTL) n x σ = r) : exec (tabOf FTL) (n + 1) (.cond (.t t) x y) σ = r := by
 rw [exec.eq_def]; simp only [PO.ev, h]; exact hx
theorem cond_f {n : Nat} {x y : ICode} {σ : St} {t : Nat} {r : Option (Ex × St)} (h : nth σ.fr t = .bool false) (hx : exec (tabOf FTL) n y σ = r) : exec (tabOf FTL) (n + 1) (.cond (.t t) x y) σ = r := by
 rw [exec.eq_def]; simp only [PO.ev, h]; exact hx
theorem out_E {k b : Int} {N : Nat} {g g' g2 : St} (hN : 300 ≤ N) (hg : exec (tabOf FTL) (N + 1) sG (sA k b) = some (.norm, g)) (h18 : nth g.fr 18 = .bool true)
  (c1 : ∀ C : CallF, runOps sRO C k1 g = runOps sRO (fun _ _ _ => C 22 [vA, vA] []) k1 g) (r1 : runOps sRO (fun _ _ _ => some (.bool true, [])) k1 g = some g')
  (c2 : ∀ C : CallF, runOps sRO C k2 g' = runOps sRO (fun _ _ _ => C 10 [] []) k2 g') (r2 : runOps sRO (fun _ _ _ => some (.bool true, [])) k2 g' = some g2) (h4 : nth g2.fr 4 = .bool true)
  (hS : callE (tabOf FTL) (N - 2) 22 [vA, vA] [] = some (.bool true, [])) (hA : callE (tabOf FTL) (N - 2) 10 [] [] = some (.bool true, [])) :
  ∃ n, callE (tabOf FTL) n 5 [i6 k, i6 b] [] = some (.bool true, []) := by
 obtain ⟨M, rfl⟩ : ∃ M, N = M + 2 := ⟨N - 2, by omega⟩
 rw [show M + 2 - 2 = M by omega] at hS hA
 have hreg : runOps sRO (callE (tabOf FTL) M) (k1 ++ k2) g = some g2 := by
  have a : runOps sRO (callE (tabOf FTL) M) k1 g = some g' := by rw [c1, hS]; exact r1
  rw [runOps_two a, c2, hA]; exact r2
 obtain ⟨n0, h0⟩ := sA_ok k b
 have h0' : exec (tabOf FTL) (M + n0 + 6) (icl sB) (sI k b) = some (.norm, xS (exec (tabOf FTL) 200 (icl sB) (sI k b))) := exec_mono (by omega) h0
 have h1 : exec (tabOf FTL) (M + n0 + 5) sC1 (xS (exec (tabOf FTL) 200 (icl sB) (sI k b))) = some (.norm, sA k b) := exec_mono (by omega) (sA_ok' k b)
 have e1 : exec (tabOf FTL) (M + 3) (.cond (.t 18) (.seq (.reg (k1 ++ k2) false) .ret) .skip) g = some (.ret, g2) :=
  cond_t h18 (ex_seq (ex_reg hreg) ex_ret)
 have e2 : exec (tabOf FTL) (M + 4) (.seq sG (.cond (.t 18) (.seq (.reg (k1 ++ k2) false) .ret) .skip)) (sA k b) = some (.ret, g2) := ex_seq hg e1
 refine ⟨_, fin_E (n := M + n0 + 7) (σ := g2) ?_ h4⟩
 rw [body_eq]
 exact ex_seq h0' (ex_seq h1 (exec_mono (n := M + 5) (by omega) (ex_seq_ret e2)))
theorem gLo_ok {k b : Int} (hb : b < 1) (n : Nat) : exec (tabOf FTL) (n + 1) sG (sA k b) = some (.norm, gLo k b) := by
 have h1 := sA_len k b
 have h2 := sA_1 k b
 unfold gLo
 generalize sA k b = s at h1 h2 ⊢
 cases s
 exact guard_lo h1 h2 hb _ _
theorem gHi_ok {k b : Int} (h0 : 1 ≤ b) (hb : 1000 < b) (n : Nat) : exec (tabOf FTL) (n + 1) sG (sA k b) = some (.norm, gHi k b) := by
 have h1 := sA_len k b
 have h2 := sA_1 k b
 unfold gHi
 generalize sA k b = s at h1 h2 ⊢
 cases s
 exact guard_hi h1 h2 h0 hb _ _
theorem gIn_ok {k b : Int} (h0 : 1 ≤ b) (hb : b ≤ 1000) (n : Nat) : exec (tabOf FTL) (n + 1) sG (sA k b) = some (.norm, gIn k b) := by
 have h1 := sA_len k b
 have h2 := sA_1 k b
 unfold gIn
 generalize sA k b = s at h1 h2 ⊢
 cases s
 exact guard_in h1 h2 h0 hb _ _
theorem lo_E {k b : Int} (hb : b < 1) {n m : Nat} (hS : callE (tabOf FTL) n 22 [vA, vA] [] = some (.bool true, [])) (hA : callE (tabOf FTL) m 10 [] [] = some (.bool true, [])) : ∃ n, callE (tabOf FTL) n 5 [i6 k, i6 b] [] = some (.bool true, []) :=
 out_E (N := n + m + 302) (g := gLo k b) (g' := gLo' k b true) (g2 := gLo2 k b) (by omega) (gLo_ok hb _) (lo_18 k b) (fun C => lo_call C k b) (lo_1 k b) (fun C => lo_2 C k b) (lo_3 k b) (lo_4 k b)
  (callE_mono (by omega) _ _ _ _ hS) (callE_mono (by omega) _ _ _ _ hA)
theorem hi_E {k b : Int} (h0 : 1 ≤ b) (hb : 1000 < b) {n m : Nat} (hS : callE (tabOf FTL) n 22 [vA, vA] [] = some (.bool true, [])) (hA : callE (tabOf FTL) m 10 [] [] = some (.bool true, [])) : ∃ n, callE (tabOf FTL) n 5 [i6 k, i6 b] [] = some (.bool true, []) :=
 out_E (N := n + m + 302) (g := gHi k b) (g' := gHi' k b true) (g2 := gHi2 k b) (by omega) (gHi_ok h0 hb _) (hi_18 k b) (fun C => hi_call C k b) (hi_1 k b) (fun C => hi_2 C k b) (hi_3 k b) (hi_4 k b)
  (callE_mono (by omega) _ _ _ _ hS) (callE_mono (by omega) _ _ _ _ hA)
theorem in_E {k b r : Int} (S : SnOk r) (h0 : 1 ≤ b) (hb : b ≤ 1000) {n1 n2 n3 n4 n5 : Nat} {x y : List PV} {c d : Bool} {lx ly : List UInt8} (hx : bytesOf x = some lx) (hy : bytesOf y = some ly) (hn : lx ≠ ly)
  (hR : callE (tabOf FTL) n1 23 [i6 k, i6 10] [] = some (i6 r, [])) (hE1 : callE (tabOf FTL) n2 16 [vA] [] = some (.tup [.lst x c, i6 0], [])) (hE2 : callE (tabOf FTL) n3 16 [vB b r] [] = some (.tup [.lst y d, i6 0], []))
  (hS : callE (tabOf FTL) n4 22 [vA, vB b r] [] = some (.bool false, [])) (hA : callE (tabOf FTL) n5 10 [] [] = some (.bool true, [])) : ∃ n, callE (tabOf FTL) n 5 [i6 k, i6 b] [] = some (.bool true, []) := by
 obtain ⟨n0, h0'⟩ := sA_ok k b
 obtain ⟨M, hM⟩ : ∃ M, M = n0 + n1 + n2 + n3 + n4 + n5 + 300 := ⟨_, rfl⟩
 have a0 : exec (tabOf FTL) (M + 10) (icl sB) (sI k b) = some (.norm, xS (exec (tabOf FTL) 200 (icl sB) (sI k b))) := exec_mono (by omega) h0'
 have a1 : exec (tabOf FTL) (M + 9) sC1 (xS (exec (tabOf FTL) 200 (icl sB) (sI k b))) = some (.norm, sA k b) := exec_mono (by omega) (sA_ok' k b)
 have a2 : exec (tabOf FTL) (M + 8) (.seq sG (.cond (.t 18) (.seq (.reg (k1 ++ k2) false) .ret) .skip)) (sA k b) = some (.norm, gIn k b) :=
  ex_seq (gIn_ok h0 hb _) (cond_f (in_18 k b) ex_skip)
 have q1 : runOps sRO (callE (tabOf FTL) (M + 5)) sRR (gIn k b) = some (sR k b r) := by
  rw [round_call, callE_mono (m := M + 5) (by omega) _ _ _ _ hR]; exact round_ret k b r
 have a3 : exec (tabOf FTL) (M + 7) (.seq (.reg sRR false) sSW) (gIn k b) = some (.norm, sS k b r) := ex_seq (ex_reg q1) (exec_mono (by omega) (S.sw k b))
 have q2 : runOps sRO (callE (tabOf FTL) (M + 5)) e1 (sS k b r) = some (sE k b r x c) := by
  rw [S.c1, callE_mono (m := M + 5) (by omega) _ _ _ _ hE1]; exact S.h1 ..
 have q3 : runOps sRO (callE (tabOf FTL) (M + 4)) e2 (sE k b r x c) = some (sF k b r x c y d) := by
  rw [S.c2, callE_mono (m := M + 4) (by omega) _ _ _ _ hE2]; exact S.h2 ..
 have q4 : runOps sRO (callE (tabOf FTL) (M + 3)) l1 (sF k b r x c y d) = some (sL k b r x c y d) := by
  rw [S.c3, callE_mono (m := M + 3) (by omega) _ _ _ _ hS]; exact S.h3 ..
 have z1 := S.len k b x c y d
 have z2 := S.t8 k b x c y d
 have z3 := S.t10 k b x c y d
 have z4 := S.t7 k b x c y d
 have z5 := S.t9 k b x c y d
 have z6 := S.t139 k b x c y d
 have q7 : ∃ σ, runOps sRO (callE (tabOf FTL) (M + 3)) l2 (sL k b r x c y d) = some σ ∧ nth σ.fr 4 = .bool true := by
  generalize sL k b r x c y d = s at z1 z2 z3 z4 z5 z6 ⊢
  cases s with
  | mk f h =>
   obtain ⟨fr', q5, q6⟩ := sn_fin (C := callE (tabOf FTL) (M + 3)) (callE_mono (by omega) _ _ _ _ hA) hx hy hn z1 z2 z3 z4 z5 z6 h
   exact ⟨_, q5, q6⟩
 obtain ⟨σ, q5, q6⟩ := q7
 have q8 : runOps sRO (callE (tabOf FTL) (M + 3)) (l1 ++ l2) (sF k b r x c y d) = some σ := by rw [runOps_two q4]; exact q5
 refine ⟨_, fin_E (n := M + 11) (σ := σ) ?_ q6⟩
 rw [body_eq]
 exact ex_seq a0 (ex_seq a1 (ex_seq a2 (ex_seq a3 (ex_seq (ex_reg q2) (ex_seq (ex_reg q3) (ex_seq (ex_reg q8) ex_ret))))))
end Gv

namespace Gv
open Go
theorem ofNat_one : ∀ {l r : List Nat}, (∀ x ∈ l, x < 256) → (∀ x ∈ r, x < 256) → l.map UInt8.ofNat = r.map UInt8.ofNat → l = r
 | [], [], _, _, _ => rfl
 | [], _ :: _, _, _, h => by simp at h
 | _ :: _, [], _, _, h => by simp at h
 | x :: l, y :: r, hl, hr, h => by
  simp only [List.map_cons, List.cons.injEq] at h
  have h1 := congrArg UInt8.toNat h.1
  have a := hl x (List.mem_cons_self ..)
  have b := hr y (List.mem_cons_self ..)
  simp [Nat.mod_eq_of_lt a, Nat.mod_eq_of_lt b] at h1
  rw [h1, ofNat_one (fun z hz => hl z (List.mem_cons_of_mem _ hz)) (fun z hz => hr z (List.mem_cons_of_mem _ hz)) h.2]
theorem wr_eq {n : Int} (h1 : -9223372036854775808 ≤ n) (h2 : n ≤ 9223372036854775807) : wr n = n := i64_of h1 h2
structure TwOk (b r : Int) : Prop where
 ok : okTask (twoT b r)
 len : (enTask (twoT b r)).length ≤ 65536
 ne : oneT ≠ twoT b r
 vb : nrm (vB b r) = eTask (twoT b r) ∧ pl (vB b r) = true
theorem one_ok : okTask oneT := by
 simp [okTask, okProg, okLen, okHandler, okCode, okActor, okNote, oneT, SInstr.ok, SBudget.ok, SLimits.ok, I64]
theorem one_len : (enTask oneT).length ≤ 65536 := by decide +kernel
theorem tw0 {b : Int} (h0 : 1 ≤ b) (h1 : b ≤ 1000) : TwOk b 0 := by
 have e : wr (9 + b) = 9 + b := (wr_eq (by omega) (by omega)).trans (by omega)
 refine ⟨?_, ?_, ?_, vB_0 b⟩
 ·simp [okTask, okProg, okLen, okHandler, okCode, okActor, okNote, twoT, SInstr.ok, SBudget.ok, SLimits.ok, I64, e]; omega
 ·have n0 := nbl (9 + b)
  have n1 := nbl 9
  have n2 := nbl (-5)
  have n3 := nbl 300
  have n4 := nbl 2
  have n5 := nbl (-1)
  have n6 := nbl 0
  have n7 := nbl 1
  have n8 := nbl 4
  have n9 := nbl 70
  simp only [twoT, Int.reduceEq, if_false, if_true, e, enTask, enProg, enHandler, enActor, enNote, enCode, enNums, enN, flagI, enSign, enInstr, List.length_append, List.length_cons, List.length_nil, List.flatMap_cons, List.flatMap_nil, Nat.zero_add, Nat.reduceAdd, Int.cast_ofNat_Int, Bool.false_eq_true]
  omega
 ·simp [oneT, twoT, e]; omega
theorem tw1 {b : Int} (h0 : 1 ≤ b) (h1 : b ≤ 1000) : TwOk b 1 := by
 have e : wr (-5 + b) = -5 + b := (wr_eq (by omega) (by omega)).trans (by omega)
 refine ⟨?_, ?_, ?_, vB_1 b⟩
 ·simp [okTask, okProg, okLen, okHandler, okCode, okActor, okNote, twoT, SInstr.ok, SBudget.ok, SLimits.ok, I64, e]; omega
 ·have n0 := nbl (-5 + b)
  have n1 := nbl 9
  have n2 := nbl (-5)
  have n3 := nbl 300
  have n4 := nbl 2
  have n5 := nbl (-1)
  have n6 := nbl 0
  have n7 := nbl 1
  have n8 := nbl 4
  have n9 := nbl 70
  simp only [twoT, Int.reduceEq, if_false, if_true, e, enTask, enProg, enHandler, enActor, enNote, enCode, enNums, enN, flagI, enSign, enInstr, List.length_append, List.length_cons, List.length_nil, List.flatMap_cons, List.flatMap_nil, Nat.zero_add, Nat.reduceAdd, Int.cast_ofNat_Int, Bool.false_eq_true]
  omega
 ·simp [oneT, twoT, e]; omega
theorem tw2 {b : Int} (h0 : 1 ≤ b) (h1 : b ≤ 1000) : TwOk b 2 := by
 have e : wr (300 + b) = 300 + b := (wr_eq (by omega) (by omega)).trans (by omega)
 refine ⟨?_, ?_, ?_, vB_2 b⟩
 ·simp [okTask, okProg, okLen, okHandler, okCode, okActor, okNote, twoT, SInstr.ok, SBudget.ok, SLimits.ok, I64, e]; omega
 ·have n0 := nbl (300 + b)
  have n1 := nbl 9
  have n2 := nbl (-5)
  have n3 := nbl 300
  have n4 := nbl 2
  have n5 := nbl (-1)
  have n6 := nbl 0
  have n7 := nbl 1
  have n8 := nbl 4
  have n9 := nbl 70
  simp only [twoT, Int.reduceEq, if_false, if_true, e, enTask, enProg, enHandler, enActor, enNote, enCode, enNums, enN, flagI, enSign, enInstr, List.length_append, List.length_cons, List.length_nil, List.flatMap_cons, List.flatMap_nil, Nat.zero_add, Nat.reduceAdd, Int.cast_ofNat_Int, Bool.false_eq_true]
  omega
 ·simp [oneT, twoT, e]; omega
theorem tw3 {b : Int} : TwOk b 3 := by
 refine ⟨?_, ?_, ?_, vB_3 b⟩
 ·simp [okTask, okProg, okLen, okHandler, okCode, okActor, okNote, twoT, SInstr.ok, SBudget.ok, SLimits.ok, I64]
 ·exact (by decide +kernel : (enTask (twoT 0 3)).length ≤ 65536)
 ·simp [oneT, twoT]
theorem tw4 {b : Int} (h0 : 1 ≤ b) (h1 : b ≤ 1000) : TwOk b 4 := by
 have e : wr (1 + b) = 1 + b := (wr_eq (by omega) (by omega)).trans (by omega)
 refine ⟨?_, ?_, ?_, vB_4 b⟩
 ·simp [okTask, okProg, okLen, okHandler, okCode, okActor, okNote, twoT, SInstr.ok, SBudget.ok, SLimits.ok, I64, e]; omega
 ·have n0 := nbl (1 + b)
  have n1 := nbl 9
  have n2 := nbl (-5)
  have n3 := nbl 300
  have n4 := nbl 2
  have n5 := nbl (-1)
  have n6 := nbl 0
  have n7 := nbl 1
  have n8 := nbl 4
  have n9 := nbl 70
  simp only [twoT, Int.reduceEq, if_false, if_true, e, enTask, enProg, enHandler, enActor, enNote, enCode, enNums, enN, flagI, enSign, enInstr, List.length_append, List.length_cons, List.length_nil, List.flatMap_cons, List.flatMap_nil, Nat.zero_add, Nat.reduceAdd, Int.cast_ofNat_Int, Bool.false_eq_true]
  omega
 ·simp [oneT, twoT, e]; omega
theorem tw5 {b : Int} : TwOk b 5 := by
 refine ⟨?_, ?_, ?_, vB_5 b⟩
 ·simp [okTask, okProg, okLen, okHandler, okCode, okActor, okNote, twoT, SInstr.ok, SBudget.ok, SLimits.ok, I64]
 ·exact (by decide +kernel : (enTask (twoT 0 5)).length ≤ 65536)
 ·simp [oneT, twoT]
theorem tw6 {b : Int} (h0 : 1 ≤ b) (h1 : b ≤ 1000) : TwOk b 6 := by
 have e : wr (0 + b) = b := (wr_eq (by omega) (by omega)).trans (by omega)
 have e' : wr b = b := wr_eq (by omega) (by omega)
 refine ⟨?_, ?_, ?_, vB_6 b⟩
 ·simp [okTask, okProg, okLen, okHandler, okCode, okActor, okNote, twoT, SInstr.ok, SBudget.ok, SLimits.ok, I64, e']; omega
 ·have n0 := nbl (b)
  have n1 := nbl 9
  have n2 := nbl (-5)
  have n3 := nbl 300
  have n4 := nbl 2
  have n5 := nbl (-1)
  have n6 := nbl 0
  have n7 := nbl 1
  have n8 := nbl 4
  have n9 := nbl 70
  simp only [twoT, Int.reduceEq, if_false, if_true, e, enTask, enProg, enHandler, enActor, enNote, enCode, enNums, enN, flagI, enSign, enInstr, List.length_append, List.length_cons, List.length_nil, List.flatMap_cons, List.flatMap_nil, Nat.zero_add, Nat.reduceAdd, Int.cast_ofNat_Int, Bool.false_eq_true]
  omega
 ·simp [oneT, twoT, e']; omega
theorem tw7 {b : Int} (h0 : 1 ≤ b) (h1 : b ≤ 1000) : TwOk b 7 := by
 have e : wr (4 + b) = 4 + b := (wr_eq (by omega) (by omega)).trans (by omega)
 refine ⟨?_, ?_, ?_, vB_7 b⟩
 ·simp [okTask, okProg, okLen, okHandler, okCode, okActor, okNote, twoT, SInstr.ok, SBudget.ok, SLimits.ok, I64, e]; omega
 ·have n0 := nbl (4 + b)
  have n1 := nbl 9
  have n2 := nbl (-5)
  have n3 := nbl 300
  have n4 := nbl 2
  have n5 := nbl (-1)
  have n6 := nbl 0
  have n7 := nbl 1
  have n8 := nbl 4
  have n9 := nbl 70
  simp only [twoT, Int.reduceEq, if_false, if_true, e, enTask, enProg, enHandler, enActor, enNote, enCode, enNums, enN, flagI, enSign, enInstr, List.length_append, List.length_cons, List.length_nil, List.flatMap_cons, List.flatMap_nil, Nat.zero_add, Nat.reduceAdd, Int.cast_ofNat_Int, Bool.false_eq_true]
  omega
 ·simp [oneT, twoT, e]; omega
theorem tw8 {b : Int} (h0 : 1 ≤ b) (h1 : b ≤ 1000) : TwOk b 8 := by
 have e : wr (70 + b) = 70 + b := (wr_eq (by omega) (by omega)).trans (by omega)
 refine ⟨?_, ?_, ?_, vB_8 b⟩
 ·simp [okTask, okProg, okLen, okHandler, okCode, okActor, okNote, twoT, SInstr.ok, SBudget.ok, SLimits.ok, I64, e]; omega
 ·have n0 := nbl (70 + b)
  have n1 := nbl 9
  have n2 := nbl (-5)
  have n3 := nbl 300
  have n4 := nbl 2
  have n5 := nbl (-1)
  have n6 := nbl 0
  have n7 := nbl 1
  have n8 := nbl 4
  have n9 := nbl 70
  simp only [twoT, Int.reduceEq, if_false, if_true, e, enTask, enProg, enHandler, enActor, enNote, enCode, enNums, enN, flagI, enSign, enInstr, List.length_append, List.length_cons, List.length_nil, List.flatMap_cons, List.flatMap_nil, Nat.zero_add, Nat.reduceAdd, Int.cast_ofNat_Int, Bool.false_eq_true]
  omega
 ·simp [oneT, twoT, e]; omega
theorem tw9 {b : Int} (h0 : 1 ≤ b) (h1 : b ≤ 1000) : TwOk b 9 := by
 have e : wr (-1 + b) = -1 + b := (wr_eq (by omega) (by omega)).trans (by omega)
 refine ⟨?_, ?_, ?_, vB_9 b⟩
 ·simp [okTask, okProg, okLen, okHandler, okCode, okActor, okNote, twoT, SInstr.ok, SBudget.ok, SLimits.ok, I64, e]; omega
 ·have n0 := nbl (-1 + b)
  have n1 := nbl 9
  have n2 := nbl (-5)
  have n3 := nbl 300
  have n4 := nbl 2
  have n5 := nbl (-1)
  have n6 := nbl 0
  have n7 := nbl 1
  have n8 := nbl 4
  have n9 := nbl 70
  simp only [twoT, Int.reduceEq, if_false, e, enTask, enProg, enHandler, enActor, enNote, enCode, enNums, enN, flagI, enSign, enInstr, List.length_append, List.length_cons, List.length_nil, List.flatMap_cons, List.flatMap_nil, Nat.zero_add, Nat.reduceAdd, Int.cast_ofNat_Int, Bool.false_eq_true]
  omega
 ·simp [oneT, twoT, e]; omega
end Gv

namespace Gv
open Go Go.ChangeShapes Go.WideShapes Go.RowKit
theorem VT.ct {c : CTy} {x : PV} (h : VT false [c] x) : CT c x := h.at_ 0 _ x rfl (by rw [cells_one (h.one rfl)]; rfl)
theorem ct_i64 {x : PV} (h : CT (.int .i64) x) : ∃ n : Int, x = .int .i64 n ∧ I64 n := by
 cases h with
 | int _ k hw =>
  obtain ⟨a, b⟩ := bounds_i64 hw
  exact ⟨k, rfl, a, b⟩
theorem twoOk {b : Int} (h0 : 1 ≤ b) (h1 : b ≤ 1000) {r : Nat} (hr : r < 10) : SnOk (r : Int) ∧ TwOk b (r : Int) := by
 match r, hr with
 | 0, _ => exact ⟨sn0, tw0 h0 h1⟩
 | 1, _ => exact ⟨sn1, tw1 h0 h1⟩
 | 2, _ => exact ⟨sn2, tw2 h0 h1⟩
 | 3, _ => exact ⟨sn3, tw3⟩
 | 4, _ => exact ⟨sn4, tw4 h0 h1⟩
 | 5, _ => exact ⟨sn5, tw5⟩
 | 6, _ => exact ⟨sn6, tw6 h0 h1⟩
 | 7, _ => exact ⟨sn7, tw7 h0 h1⟩
 | 8, _ => exact ⟨sn8, tw8 h0 h1⟩
 | 9, _ => exact ⟨sn9, tw9 h0 h1⟩
theorem enc_E {t : STask} (ht : okTask t) (hl : (enTask t).length ≤ 65536) {v : PV} (h1 : nrm v = eTask t) (h2 : pl v = true) :
  ∃ n es c, callE (tabOf FTL) n 16 [v] [] = some (.tup [.lst es c, i6 0], []) ∧ bytesOf es = some ((enTask t).map UInt8.ofNat) := by
 have hv : callV tVT 5 16 (nrmL [v]) = some (.tup [eB (enTask t), .int .i64 0], []) := by
  rw [← outEnc_ok hl]
  simp only [nrmL, h1]
  exact wEnc_V (m := 0) ht.plain (by omega)
 obtain ⟨k, x, y, e1, e2, e3, e4⟩ := call_E2 (n := 1) (F := v_wire_Encode) rfl rfl (by simp only [plL, h2, Bool.and_self]) rfl hv
 have hy : y = i6 0 := by cases y <;> simp [nrm] at e3 ⊢; exact e3
 subst hy
 have hne : enTask t ≠ [] := by
  intro h
  have := congrArg List.length h
  simp [enTask, enSign] at this
 cases x with
 | lst es c =>
  simp only [nrm, eB, PV.lst.injEq] at e2
  refine ⟨k, es, c, e1, bytesOf_im (l := (enTask t).map UInt8.ofNat) ?_⟩
  rw [e2.1]; exact bytesOf_bytesV _
 | nils =>
  simp only [nrm, eB, PV.lst.injEq] at e2
  exfalso
  have := e2.1
  cases hh : enTask t with
  | nil => exact hne hh
  | cons a l => rw [hh] at this; simp [bytesV] at this
 | _ => simp [nrm, eB] at e2
theorem small_of {t : STask} (hl : (enTask t).length ≤ 65536) : smlP t.prog ∧ (t.watch.length < 1000000000 ∧ ∀ x ∈ t.watch, x.length < 1000000000) := sml_len (by omega)
theorem same_E {t u : STask} (ht : (enTask t).length ≤ 65536) {v w : PV} (h1 : nrm v = eTask t) (h2 : pl v = true) (h3 : nrm w = eTask u) (h4 : pl w = true) :
  ∃ n, callE (tabOf FTL) n 22 [v, w] [] = some (.bool (decide (t = u)), []) := by
 have hv : callV tVT 5 22 (nrmL [v, w]) = some (.bool (decide (t = u)), []) := by
  simp only [nrmL, h1, h3]
  exact wireSame_V (m := 0) t u (small_of ht).1 (small_of ht).2
 obtain ⟨k, x, e1, e2, e3⟩ := call_E (n := 2) (F := v_wire_Same) rfl rfl (by simp only [plL, h2, h4, Bool.and_self]) rfl hv
 have hx : x = .bool (decide (t = u)) := by cases x <;> simp [nrm] at e2 ⊢; exact e2
 exact ⟨k, hx ▸ e1⟩
theorem wireSame_true {x0 x1 : PV} (h0 : VT false [.int .i64] x0) (h1 : VT false [.int .i64] x1) : ∃ n, callE (tabOf FTL) n 5 [x0, x1] [] = some (.bool true, []) := by
 obtain ⟨k, rfl, _⟩ := ct_i64 h0.ct
 obtain ⟨b, rfl, _⟩ := ct_i64 h1.ct
 obtain ⟨n1, hS⟩ := same_E one_len vA_one vA_pl vA_one vA_pl
 rw [decide_eq_true rfl] at hS
 by_cases b0 : b < 1
 ·exact lo_E b0 hS awakeV
 by_cases b1 : 1000 < b
 ·exact hi_E (by omega) b1 hS awakeV
 obtain ⟨r, hr, hv⟩ := round_V (m := 0) k (n := 10) (by omega) (by omega)
 obtain ⟨n2, x, e1, e2, _⟩ := call_E (n := 2) (F := v_alike_Round) (args := [i6 k, i6 10]) rfl rfl rfl rfl (show callV tVT 1 23 (nrmL [i6 k, i6 10]) = _ from hv)
 have hx : x = i6 r := by cases x <;> simp [nrm] at e2 ⊢; exact e2
 subst hx
 obtain ⟨S, T⟩ := twoOk (b := b) (by omega) (by omega) hr
 obtain ⟨n3, es, c, g1, g2⟩ := enc_E one_ok one_len vA_one vA_pl
 obtain ⟨n4, es', c', g3, g4⟩ := enc_E T.ok T.len T.vb.1 T.vb.2
 obtain ⟨n5, g5⟩ := same_E one_len vA_one vA_pl T.vb.1 T.vb.2
 rw [decide_eq_false T.ne] at g5
 refine in_E S (by omega) (by omega) g2 g4 (fun hh => ?_) e1 g1 g3 g5 awakeV
 have he := ofNat_one (enTask_lt _) (enTask_lt _) hh
 have d1 := dec_en one_ok ⟨enTask_lt _, by have := one_len; omega⟩
 have d2 := dec_en T.ok ⟨enTask_lt _, by have := T.len; omega⟩
 rw [he, d2] at d1
 exact T.ne (Option.some.inj d1).symm
end Gv
