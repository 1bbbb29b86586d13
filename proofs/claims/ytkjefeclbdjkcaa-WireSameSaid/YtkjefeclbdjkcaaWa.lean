/- What this file proves: one part of the proof that the law answers true for every input, by an interpreter that is proved sound against the given model. -/
import Derived.Test.YtkjefeclbdjkcaaVc
import Derived.Test.YtkjefeclbdjkcaaWp
import Derived.Test.YtkjefeclbdjkcaaWn
/- What this file proves: one part of the proof that the law answers true for every input, by an interpreter that is proved sound against the given model. -/
namespace Gv
open Go
variable {C : CallV} {V : Nat → List PV → List PV → Bool}
theorem den_assoc (a b c : VC) (env : Env) : den C V (.seq a (.seq b c)) env = den C V (.seq (.seq a b) c) env := by
 simp only [den]
 cases den C V a env with
 | none => rfl
 | some r => cases r <;> rfl
theorem loopN_congr {f g : Env → Option VEx} (h : ∀ env, f env = g env) : ∀ (n : Nat) (env : Env), loopN f n env = loopN g n env
 | 0, _ => rfl
 | n + 1, env => by
  simp only [loopN, h]
  cases g env with
  | none => rfl
  | some r => cases r <;> first | exact loopN_congr h n _ | rfl
theorem loop_assoc (a b c : VC) (env : Env) : den C V (.loop (.seq a (.seq b c))) env = den C V (.loop (.seq (.seq a b) c)) env := by
 simp only [den]
 exact loopN_congr (fun e => den_assoc a b c e) _ _
theorem i64_idx {k : Nat} (h : k < 4611686018427387904) : IntKind.i64.wrap (k : Int) = k := i64_of (x := (k : Int)) (by omega) (by omega)
theorem add_idx {k : Nat} (h : k < 4611686018427387903) : binI .add .i64 (k : Int) .i64 1 = some (.int .i64 ((k + 1 : Nat) : Int)) := by
 simp only [binI]
 rw [if_neg (by decide), show ((k : Int) + 1) = ((k + 1 : Nat) : Int) from rfl, i64_idx (k := k + 1) (by omega)]
theorem lss_idx (k n : Nat) : binI .lss .i64 (k : Int) .i64 (n : Int) = some (.bool (decide (k < n))) := by simp [binI]
theorem bigN_eq : bigN = 1099511627776 := rfl
theorem for_loop {H BODY : VC} {vi b n : Nat} (hn : n < 1099511627775) (St : Nat → Env → Prop) (Stop : VEx → Prop)
  (hset : ∀ k env v, St k env → St k (env.set vi v))
  (hhead : ∀ k env, k ≤ n → St k env → env vi = .int .i64 (k : Nat) → den C V H env = some (if k < n then .norm env else .exit b env))
  (hbody : ∀ k env, k < n → St k env → env vi = .int .i64 (k : Nat) → ∃ r, den C V BODY env = some r ∧ ((∃ env', r = .norm env' ∧ St (k + 1) env' ∧ env' vi = .int .i64 (k : Nat)) ∨ ((∀ e, r ≠ .norm e) ∧ Stop r))) :
  ∀ {env : Env}, St 0 env → env vi = .int .i64 0 → ∃ r, den C V (.loop (.seq H (.seq BODY (.st [.asg [] [(vi, .bin .add (.v vi) (.int .i64 1))]])))) env = some r ∧ ((∃ env', r = .exit b env' ∧ St n env' ∧ env' vi = .int .i64 (n : Nat)) ∨ ((∀ e, r ≠ .norm e) ∧ Stop r)) := by
 have key : ∀ (d k j : Nat) {env : Env}, k + d = n → St k env → env vi = .int .i64 (k : Nat) → ∃ r, loopN (den C V (.seq H (.seq BODY (.st [.asg [] [(vi, .bin .add (.v vi) (.int .i64 1))]])))) (d + 1 + j) env = some r ∧ ((∃ env', r = .exit b env' ∧ St n env' ∧ env' vi = .int .i64 (n : Nat)) ∨ ((∀ e, r ≠ .norm e) ∧ Stop r)) := by
  intro d
  induction d with
  | zero =>
   intro k j env hk hs hv
   have hkn : k = n := by omega
   subst hkn
   refine ⟨.exit b env, ?_, .inl ⟨env, rfl, hs, hv⟩⟩
   rw [show 0 + 1 + j = j + 1 by omega]
   simp only [loopN, den, hhead k env (Nat.le_refl _) hs hv, Nat.lt_irrefl, if_false]
  | succ d ih =>
   intro k j env hk hs hv
   have hkn : k < n := by omega
   rw [show d + 1 + 1 + j = (d + 1 + j) + 1 by omega]
   obtain ⟨r, hr, hcase⟩ := hbody k env hkn hs hv
   rcases hcase with ⟨env', rfl, hs', hv'⟩ | ⟨hnn, hst⟩
   ·obtain ⟨r2, h2, h3⟩ := ih (k + 1) j (env := env'.set vi (.int .i64 ((k + 1 : Nat) : Int))) (by omega) (hset _ _ _ hs') (by simp)
    refine ⟨r2, ?_, h3⟩
    have ha := add_idx (k := k) (by omega)
    simp only [loopN, den, hhead k env (by omega) hs hv, if_pos hkn, hr, runVS, VS.run, allGood, if_true, bindAll, X.ev, hv', obind_some, bin, ha]
    exact h2
   ·refine ⟨r, ?_, .inr ⟨hnn, hst⟩⟩
    simp only [loopN, den, hhead k env (by omega) hs hv, if_pos hkn, hr]
    cases r with
    | norm e => exact absurd rfl (hnn e)
    | exit i e => rfl
    | ret x os => rfl
 intro env h0 hv
 obtain ⟨r, h1, h2⟩ := key n 0 (1099511627775 - n) (by omega) h0 hv
 refine ⟨r, ?_, h2⟩
 simp only [den]
 rw [show n + 1 + (1099511627775 - n) = bigN by rw [bigN_eq]; omega] at h1
 exact h1
theorem ia_map {α : Type} {f : α → PV} {sz k : Nat} {xs : List α} {x : α} (h : xs[k]? = some x) (hs : (f x).cells.length = sz) : indexAddrPV sz (.lst (xs.map f) false) (.int .i64 (k : Nat)) = some (.lptr (f x).cells) := by
 have hk : k < xs.length := (List.getElem?_eq_some_iff.1 h).1
 have h1 : (0 : Int) ≤ (k : Int) ∧ (k : Int) < ((xs.map f).length : Int) := by rw [List.length_map]; omega
 have h2 : (xs.map f)[(Int.toNat (k : Int))]? = some (f x) := by rw [Int.toNat_natCast, List.getElem?_map, h]; rfl
 simp only [indexAddrPV]
 rw [if_pos h1, h2]
 simp only
 rw [if_pos hs]
theorem len_map {α : Type} {f : α → PV} {xs : List α} : lenV (.lst (xs.map f) false) = some (.int .i64 (xs.length : Nat)) := by simp [lenV]
end Gv
namespace Gv
open Go
variable {C : CallV} {V : Nat → List PV → List PV → Bool}
theorem range_run {BODY : VC} {vi vn b n : Nat} (hn : n < 1099511627775) (St : Nat → Env → Prop)
  (hset : ∀ k env v, St k env → St k (env.set vi v)) (hvn : ∀ k env, St k env → env vn = .int .i64 (n : Nat))
  (hbody : ∀ k env, k < n → St k env → env vi = .int .i64 (k : Nat) → ∃ env', den C V BODY env = some (.norm env') ∧ St (k + 1) env' ∧ env' vi = .int .i64 (k : Nat))
  {env : Env} (h0 : St 0 env) (hv : env vi = .int .i64 0) :
  ∃ env', den C V (.block b (.loop (.seq (.st [.asg [(.bin .lss (.v vi) (.v vn))] []]) (.seq (.cond (.bin .lss (.v vi) (.v vn)) .skip (.exit b)) (.seq BODY (.st [.asg [] [(vi, .bin .add (.v vi) (.int .i64 1))]])))))) env = some (.norm env') ∧ St n env' := by
 obtain ⟨r, h1, h2⟩ := for_loop (C := C) (V := V) (b := b) (H := .seq (.st [.asg [(.bin .lss (.v vi) (.v vn))] []]) (.cond (.bin .lss (.v vi) (.v vn)) .skip (.exit b))) (BODY := BODY) hn St (fun _ => False) hset
  (fun k env hk hs hv => by
   have h3 := hvn k env hs
   by_cases hkn : k < n
   ·simp only [den, runVS, VS.run, allGood, X.ev, hv, h3, obind_some, bin, lss_idx, hkn, decide_true, Option.isSome_some, Bool.true_and, if_true, bindAll]
   ·simp only [den, runVS, VS.run, allGood, X.ev, hv, h3, obind_some, bin, lss_idx, hkn, decide_false, Option.isSome_some, Bool.true_and, if_true, bindAll, if_false])
  (fun k env hk hs hv => by
   obtain ⟨e, h3, h4, h5⟩ := hbody k env hk hs hv
   exact ⟨_, h3, .inl ⟨e, rfl, h4, h5⟩⟩) h0 hv
 rcases h2 with ⟨e, rfl, h3, _⟩ | ⟨_, h3⟩
 ·refine ⟨e, ?_, h3⟩
  have h4 := (loop_assoc (C := C) (V := V) (.st [.asg [(.bin .lss (.v vi) (.v vn))] []]) (.cond (.bin .lss (.v vi) (.v vn)) .skip (.exit b)) (.seq BODY (.st [.asg [] [(vi, .bin .add (.v vi) (.int .i64 1))]])) env).trans h1
  exact den_block h4
 ·exact h3.elim
theorem all_run {HEAD BODY : VC} {vi b n : Nat} (hn : n < 1099511627775) (p : Nat → Bool) (R : PV) (St : Nat → Env → Prop)
  (hset : ∀ k env v, St k env → St k (env.set vi v))
  (hhead : ∀ k env, k ≤ n → St k env → env vi = .int .i64 (k : Nat) → den C V HEAD env = some (if k < n then .norm env else .exit b env))
  (hbody : ∀ k env, k < n → St k env → env vi = .int .i64 (k : Nat) → ∃ r, den C V BODY env = some r ∧ (if p k then ∃ env', r = .norm env' ∧ St (k + 1) env' ∧ env' vi = .int .i64 (k : Nat) else r = .ret R []))
  {env : Env} (h0 : St 0 env) (hv : env vi = .int .i64 0) :
  ∃ r, den C V (.block b (.loop (.seq HEAD (.seq BODY (.st [.asg [] [(vi, .bin .add (.v vi) (.int .i64 1))]]))))) env = some r ∧ (if (∀ k, k < n → p k = true) then ∃ env', r = .norm env' ∧ St n env' else r = .ret R []) := by
 obtain ⟨r, h1, h2⟩ := for_loop (C := C) (V := V) (b := b) (H := HEAD) (BODY := BODY) hn (fun k e => St k e ∧ ∀ j, j < k → p j = true) (fun r => r = .ret R [] ∧ ¬ ∀ k, k < n → p k = true) (fun k env v h => ⟨hset k env v h.1, h.2⟩)
  (fun k env hk hs hv => hhead k env hk hs.1 hv)
  (fun k env hk hs hv => by
   obtain ⟨r, h3, h4⟩ := hbody k env hk hs.1 hv
   cases hp : p k with
   | true =>
    rw [hp, if_pos rfl] at h4
    obtain ⟨e, h5, h6, h7⟩ := h4
    refine ⟨r, h3, .inl ⟨e, h5, ⟨h6, fun j hj => ?_⟩, h7⟩⟩
    by_cases hjk : j = k
    ·subst hjk; exact hp
    ·exact hs.2 j (by omega)
   | false =>
    rw [hp] at h4
    simp only [Bool.false_eq_true, if_false] at h4
    refine ⟨r, h3, .inr ⟨(fun e he => (by rw [h4] at he; cases he)), h4, (fun h => (by have := h k hk; rw [hp] at this; cases this))⟩⟩) ⟨h0, fun j hj => by omega⟩ hv
 rcases h2 with ⟨e, rfl, ⟨h3, h4⟩, _⟩ | ⟨h3, h4, h5⟩
 ·exact ⟨_, den_block h1, by rw [if_pos h4]; exact ⟨e, rfl, h3⟩⟩
 ·subst h4
  exact ⟨_, den_block_ret h1, by rw [if_neg h5]⟩
end Gv

namespace Gv
open Go
@[simp] theorem fits_eI (l : List Int) : PV.fits (eI l) none = true := rfl
@[simp] theorem fits_eB (l : List Nat) : PV.fits (eB l) none = true := rfl
@[simp] theorem fits_eCode (l : List SInstr) : PV.fits (eCode l) none = true := rfl
@[simp] theorem cell_eI (l : List Int) : PV.isCell (eI l) = true := rfl
@[simp] theorem cell_eB (l : List Nat) : PV.isCell (eB l) = true := rfl
@[simp] theorem cell_eCode (l : List SInstr) : PV.isCell (eCode l) = true := rfl
@[simp] theorem cells_eI (l : List Int) : PV.cells (eI l) = [eI l] := rfl
@[simp] theorem cells_eB (l : List Nat) : PV.cells (eB l) = [eB l] := rfl
@[simp] theorem cells_eCode (l : List SInstr) : PV.cells (eCode l) = [eCode l] := rfl
theorem fits_int (k : IntKind) (n : Int) : PV.fits (.int k n) none = true := rfl
theorem fits_bool (b : Bool) : PV.fits (.bool b) none = true := rfl
theorem fits_str (b : List UInt8) : PV.fits (.str b) none = true := rfl
theorem fits_lst (l : List PV) (c : Bool) : PV.fits (.lst l c) none = true := rfl
theorem fits_agg (l : List PV) (n : Nat) : PV.fits (.agg l) (some n) = (l.length == n) := rfl
theorem fits_nilp : PV.fits .nilp none = true := rfl
theorem fits_lptr (l : List PV) : PV.fits (.lptr l) none = true := rfl
theorem fits_fn (f : Nat) (l : List PV) : PV.fits (.fn f l) none = true := rfl
theorem cell_int (k : IntKind) (n : Int) : PV.isCell (.int k n) = true := rfl
theorem cell_bool (b : Bool) : PV.isCell (.bool b) = true := rfl
theorem cell_str (b : List UInt8) : PV.isCell (.str b) = true := rfl
theorem cell_lst (l : List PV) (c : Bool) : PV.isCell (.lst l c) = true := rfl
theorem cell_nilp : PV.isCell .nilp = true := rfl
theorem cell_lptr (l : List PV) : PV.isCell (.lptr l) = true := rfl
theorem cell_fn (f : Nat) (l : List PV) : PV.isCell (.fn f l) = true := rfl
theorem cells_int (k : IntKind) (n : Int) : PV.cells (.int k n) = [.int k n] := rfl
theorem cells_bool (b : Bool) : PV.cells (.bool b) = [.bool b] := rfl
theorem cells_lst (l : List PV) (c : Bool) : PV.cells (.lst l c) = [.lst l c] := rfl
theorem cells_agg (l : List PV) : PV.cells (.agg l) = l := rfl
theorem eI1 (a : Int) : PV.lst [.int .i64 a] false = eI [a] := rfl
theorem eI2 (a b : Int) : PV.lst [.int .i64 a, .int .i64 b] false = eI [a, b] := rfl
theorem eI3 (a b c : Int) : PV.lst [.int .i64 a, .int .i64 b, .int .i64 c] false = eI [a, b, c] := rfl
theorem eI6 (a b c d e f : Int) : PV.lst [.int .i64 a, .int .i64 b, .int .i64 c, .int .i64 d, .int .i64 e, .int .i64 f] false = eI [a, b, c, d, e, f] := rfl
theorem eB0 : PV.lst [] false = eB [] := rfl
theorem ia_eI {k : Nat} {l : List Int} {x : Int} (h : l[k]? = some x) : indexAddrPV 1 (eI l) (.int .i64 (k : Nat)) = some (.lptr [.int .i64 x]) := ia_map (f := fun n => PV.int .i64 n) h rfl
theorem len_eI {l : List Int} : lenV (eI l) = some (.int .i64 l.length) := len_map
theorem ia_eCode {k : Nat} {l : List SInstr} {x : SInstr} (h : l[k]? = some x) : indexAddrPV 2 (eCode l) (.int .i64 (k : Nat)) = some (.lptr [.int .i64 x.op, .int .i64 x.a]) := ia_map (f := eInstr) h rfl
theorem len_eCode {l : List SInstr} : lenV (eCode l) = some (.int .i64 l.length) := len_map
theorem ia_hs {k : Nat} {l : List SHandler} {x : SHandler} (h : l[k]? = some x) : indexAddrPV 2 (.lst (l.map eHandler) false) (.int .i64 (k : Nat)) = some (.lptr [.int .i64 x.args, eCode x.code]) := ia_map (f := eHandler) h rfl
theorem ia_as {k : Nat} {l : List SActor} {x : SActor} (h : l[k]? = some x) : indexAddrPV 4 (.lst (l.map eActor) false) (.int .i64 (k : Nat)) = some (.lptr [eI x.regs, .int .i64 x.cap, .int .i64 x.timer, .bool x.armed]) := ia_map (f := eActor) h rfl
theorem ia_ns {k : Nat} {l : List SNote} {x : SNote} (h : l[k]? = some x) : indexAddrPV 3 (.lst (l.map eNote) false) (.int .i64 (k : Nat)) = some (.lptr [.int .i64 x.to, .int .i64 x.handler, eI x.args]) := ia_map (f := eNote) h rfl
theorem ia_ws {k : Nat} {l : List (List SInstr)} {x : List SInstr} (h : l[k]? = some x) : indexAddrPV 1 (.lst (l.map eCode) false) (.int .i64 (k : Nat)) = some (.lptr [eCode x]) := ia_map (f := eCode) h rfl
theorem take_snoc {α : Type} {l : List α} {k : Nat} {x : α} (h : l[k]? = some x) : l.take (k + 1) = l.take k ++ [x] := by
 rw [List.take_add_one, h]; rfl
theorem get_lt {α : Type} {l : List α} {k : Nat} (h : k < l.length) : ∃ x, l[k]? = some x ∧ x ∈ l := ⟨l[k], List.getElem?_eq_getElem h, List.getElem_mem h⟩
section
variable {C : CallV} {V : Nat → List PV → List PV → Bool}
theorem nx {a b : VC} {env e : Env} {x : Option VEx} (h : den C V a env = some (.norm e)) (k : den C V b e = x) : den C V (.seq a b) env = x := by rw [den_seq h]; exact k
theorem seq_of {a b : VC} {env : Env} {x : Option VEx} {P : Env → Prop} (h : ∃ e, den C V a env = some (.norm e) ∧ P e) (k : ∀ e, P e → den C V b e = x) : den C V (.seq a b) env = x := by
 obtain ⟨e, h1, h2⟩ := h
 exact nx h1 (k e h2)
theorem ras (a b c : VC) (env : Env) : den C V (.seq (.seq a b) c) env = den C V (.seq a (.seq b c)) env := (den_assoc a b c env).symm
end
theorem vw0 : type_of% (And.intro @den.eq_1 (And.intro @den.eq_2 (And.intro @den.eq_3 (And.intro @den.eq_4 (And.intro @den.eq_5 (And.intro @den.eq_6 (And.intro @den.eq_7 (And.intro @den.eq_8 (And.intro @runVS.eq_1 (And.intro @runVS.eq_2 (And.intro @VS.run.eq_1 (And.intro @VS.run.eq_2 (And.intro @VS.run.eq_3 (And.intro @allGood.eq_1 (And.intro @allGood.eq_2 (And.intro @bindAll.eq_1 (And.intro @bindAll.eq_2 (And.intro @evAll.eq_1 (And.intro @evAll.eq_2 (And.intro @X.ev.eq_1 (And.intro @X.ev.eq_2 (And.intro @X.ev.eq_3 (And.intro @X.ev.eq_4 (And.intro @X.ev.eq_5 (And.intro @X.ev.eq_6 (And.intro @X.ev.eq_7 (And.intro @X.ev.eq_8 (And.intro @X.ev.eq_9 (And.intro @X.ev.eq_10 (@X.ev.eq_11)))))))))))))))))))))))))))))) := (And.intro @den.eq_1 (And.intro @den.eq_2 (And.intro @den.eq_3 (And.intro @den.eq_4 (And.intro @den.eq_5 (And.intro @den.eq_6 (And.intro @den.eq_7 (And.intro @den.eq_8 (And.intro @runVS.eq_1 (And.intro @runVS.eq_2 (And.intro @VS.run.eq_1 (And.intro @VS.run.eq_2 (And.intro @VS.run.eq_3 (And.intro @allGood.eq_1 (And.intro @allGood.eq_2 (And.intro @bindAll.eq_1 (And.intro @bindAll.eq_2 (And.intro @evAll.eq_1 (And.intro @evAll.eq_2 (And.intro @X.ev.eq_1 (And.intro @X.ev.eq_2 (And.intro @X.ev.eq_3 (And.intro @X.ev.eq_4 (And.intro @X.ev.eq_5 (And.intro @X.ev.eq_6 (And.intro @X.ev.eq_7 (And.intro @X.ev.eq_8 (And.intro @X.ev.eq_9 (And.intro @X.ev.eq_10 (@X.ev.eq_11))))))))))))))))))))))))))))))
theorem vw1 : type_of% (And.intro @X.ev.eq_12 (And.intro @X.ev.eq_13 (And.intro @X.ev.eq_14 (And.intro @X.ev.eq_15 (And.intro @X.ev.eq_16 (And.intro @X.ev.eq_17 (And.intro @X.ev.eq_18 (And.intro @X.ev.eq_19 (And.intro @X.ev.eq_20 (And.intro @X.ev.eq_21 (And.intro @X.ev.eq_22 (And.intro @X.ev.eq_23 (And.intro @X.ev.eq_24 (And.intro @X.ev.eq_25 (And.intro @X.ev.eq_26 (And.intro @X.ev.eq_27 (And.intro @X.ev.eq_28 (And.intro @X.ev.eq_29 (And.intro @X.ev.eq_30 (And.intro @X.ev.eq_31 (And.intro @X.ev.eq_32 (And.intro @X.ev.eq_33 (And.intro @X.ev.eq_34 (And.intro @X.ev.eq_35 (And.intro @X.ev.eq_36 (And.intro @X.ev.eq_37 (And.intro @X.ev.eq_38 (And.intro @X.ev.eq_39 (And.intro @guardV.eq_1 (@guardV.eq_2)))))))))))))))))))))))))))))) := (And.intro @X.ev.eq_12 (And.intro @X.ev.eq_13 (And.intro @X.ev.eq_14 (And.intro @X.ev.eq_15 (And.intro @X.ev.eq_16 (And.intro @X.ev.eq_17 (And.intro @X.ev.eq_18 (And.intro @X.ev.eq_19 (And.intro @X.ev.eq_20 (And.intro @X.ev.eq_21 (And.intro @X.ev.eq_22 (And.intro @X.ev.eq_23 (And.intro @X.ev.eq_24 (And.intro @X.ev.eq_25 (And.intro @X.ev.eq_26 (And.intro @X.ev.eq_27 (And.intro @X.ev.eq_28 (And.intro @X.ev.eq_29 (And.intro @X.ev.eq_30 (And.intro @X.ev.eq_31 (And.intro @X.ev.eq_32 (And.intro @X.ev.eq_33 (And.intro @X.ev.eq_34 (And.intro @X.ev.eq_35 (And.intro @X.ev.eq_36 (And.intro @X.ev.eq_37 (And.intro @X.ev.eq_38 (And.intro @X.ev.eq_39 (And.intro @guardV.eq_1 (@guardV.eq_2))))))))))))))))))))))))))))))
theorem vw2 : type_of% (And.intro @listOf.eq_1 (And.intro @listOf.eq_2 (And.intro @toIntV.eq_1 (And.intro @toIntV.eq_2 (And.intro @bin.eq_1 (And.intro @bin.eq_2 (And.intro @bin.eq_3 (And.intro @bin.eq_4 (And.intro @bin.eq_5 (And.intro @bin.eq_6 (And.intro @ldV.eq_1 (And.intro @ldV.eq_2 (And.intro @fldV.eq_1 (And.intro @fldV.eq_2 (And.intro @extV.eq_1 (And.intro @extV.eq_2 (And.intro @loadV.eq_1 (And.intro @loadC.eq_1 (And.intro @loadC.eq_2 (And.intro @okCells.eq_1 (And.intro @okCells.eq_2 (And.intro @chkV.eq_1 (And.intro @fieldAddrPV.eq_1 (And.intro @fieldAddrPV.eq_2 (And.intro @fieldAddrPV.eq_3 (And.intro @Env.sets.eq_1 (And.intro @Env.sets.eq_2 (And.intro @obind_some (And.intro @obind_none (@Env.set_at)))))))))))))))))))))))))))))) := (And.intro @listOf.eq_1 (And.intro @listOf.eq_2 (And.intro @toIntV.eq_1 (And.intro @toIntV.eq_2 (And.intro @bin.eq_1 (And.intro @bin.eq_2 (And.intro @bin.eq_3 (And.intro @bin.eq_4 (And.intro @bin.eq_5 (And.intro @bin.eq_6 (And.intro @ldV.eq_1 (And.intro @ldV.eq_2 (And.intro @fldV.eq_1 (And.intro @fldV.eq_2 (And.intro @extV.eq_1 (And.intro @extV.eq_2 (And.intro @loadV.eq_1 (And.intro @loadC.eq_1 (And.intro @loadC.eq_2 (And.intro @okCells.eq_1 (And.intro @okCells.eq_2 (And.intro @chkV.eq_1 (And.intro @fieldAddrPV.eq_1 (And.intro @fieldAddrPV.eq_2 (And.intro @fieldAddrPV.eq_3 (And.intro @Env.sets.eq_1 (And.intro @Env.sets.eq_2 (And.intro @obind_some (And.intro @obind_none (@Env.set_at))))))))))))))))))))))))))))))
theorem vw3 : type_of% (And.intro @fits_int (And.intro @fits_bool (And.intro @fits_str (And.intro @fits_lst (And.intro @fits_agg (And.intro @fits_nilp (And.intro @fits_lptr (And.intro @fits_fn (And.intro @cell_int (And.intro @cell_bool (And.intro @cell_str (And.intro @cell_lst (And.intro @cell_nilp (And.intro @cell_lptr (And.intro @cell_fn (And.intro @cells_int (And.intro @cells_bool (And.intro @cells_lst (And.intro @cells_agg (And.intro @cells_eI (And.intro @cells_eB (And.intro @cells_eCode (And.intro @fits_eI (And.intro @fits_eB (And.intro @fits_eCode (And.intro @cell_eI (And.intro @cell_eB (And.intro @cell_eCode (And.intro @Option.isSome_some.{0} (@Option.isSome_none.{0})))))))))))))))))))))))))))))) := (And.intro @fits_int (And.intro @fits_bool (And.intro @fits_str (And.intro @fits_lst (And.intro @fits_agg (And.intro @fits_nilp (And.intro @fits_lptr (And.intro @fits_fn (And.intro @cell_int (And.intro @cell_bool (And.intro @cell_str (And.intro @cell_lst (And.intro @cell_nilp (And.intro @cell_lptr (And.intro @cell_fn (And.intro @cells_int (And.intro @cells_bool (And.intro @cells_lst (And.intro @cells_agg (And.intro @cells_eI (And.intro @cells_eB (And.intro @cells_eCode (And.intro @fits_eI (And.intro @fits_eB (And.intro @fits_eCode (And.intro @cell_eI (And.intro @cell_eB (And.intro @cell_eCode (And.intro @Option.isSome_some.{0} (@Option.isSome_none.{0}))))))))))))))))))))))))))))))
theorem vw4 : type_of% (And.intro @List.getElem?_cons_zero.{0} (And.intro @List.getElem?_cons_succ.{0} (And.intro @List.drop_succ_cons.{0} (And.intro @List.drop_zero.{0} (And.intro @List.take_succ_cons.{0} (And.intro @List.take_zero.{0} (And.intro @List.length_cons.{0} (And.intro @List.length_nil.{0} (And.intro @Bool.true_and (And.intro @Bool.false_and (And.intro @Bool.and_true (And.intro @Nat.le_refl (And.intro @Bool.false_eq_true (And.intro @and_self (@and_true))))))))))))))) := (And.intro @List.getElem?_cons_zero.{0} (And.intro @List.getElem?_cons_succ.{0} (And.intro @List.drop_succ_cons.{0} (And.intro @List.drop_zero.{0} (And.intro @List.take_succ_cons.{0} (And.intro @List.take_zero.{0} (And.intro @List.length_cons.{0} (And.intro @List.length_nil.{0} (And.intro @Bool.true_and (And.intro @Bool.false_and (And.intro @Bool.and_true (And.intro @Nat.le_refl (And.intro @Bool.false_eq_true (And.intro @and_self (@and_true)))))))))))))))
end Gv
namespace Gv
open Go
variable {C : CallV} {V : Nat → List PV → List PV → Bool}
theorem all_seq {HEAD BODY K : VC} {vi b n : Nat} {X0 : Option VEx} (hn : n < 1099511627775) (p : Nat → Bool) (R : PV) (St : Nat → Env → Prop) (P : Prop)
  (hset : ∀ k env v, St k env → St k (env.set vi v))
  (hhead : ∀ k env, k ≤ n → St k env → env vi = .int .i64 (k : Nat) → den C V HEAD env = some (if k < n then .norm env else .exit b env))
  (hbody : ∀ k env, k < n → St k env → env vi = .int .i64 (k : Nat) → ∃ r, den C V BODY env = some r ∧ (if p k then ∃ env', r = .norm env' ∧ St (k + 1) env' ∧ env' vi = .int .i64 (k : Nat) else r = .ret R []))
  (hP : (∀ k, k < n → p k = true) ↔ P) (hk : P → ∀ e, St n e → den C V K e = X0) (hr : ¬ P → X0 = some (.ret R []))
  {env : Env} (h0 : St 0 env) (hv : env vi = .int .i64 0) :
  den C V (.seq (.block b (.loop (.seq HEAD (.seq BODY (.st [.asg [] [(vi, .bin .add (.v vi) (.int .i64 1))]]))))) K) env = X0 := by
 obtain ⟨r, h1, h2⟩ := all_run (C := C) (V := V) hn p R St hset hhead hbody h0 hv
 by_cases h : P
 ·rw [if_pos (hP.2 h)] at h2
  obtain ⟨e, rfl, h3⟩ := h2
  exact nx h1 (hk h e h3)
 ·rw [if_neg (fun h' => h (hP.1 h'))] at h2
  subst h2
  rw [den_seq_ret h1, hr h]
theorem all_seqA {BODY K : VC} {vi vn b n : Nat} {X0 : Option VEx} (hn : n < 1099511627775) (p : Nat → Bool) (R : PV) (St : Nat → Env → Prop) (P : Prop)
  (hset : ∀ k env v, St k env → St k (env.set vi v)) (hvn : ∀ k env, St k env → env vn = .int .i64 (n : Nat))
  (hbody : ∀ k env, k < n → St k env → env vi = .int .i64 (k : Nat) → ∃ r, den C V BODY env = some r ∧ (if p k then ∃ env', r = .norm env' ∧ St (k + 1) env' ∧ env' vi = .int .i64 (k : Nat) else r = .ret R []))
  (hP : (∀ k, k < n → p k = true) ↔ P) (hk : P → ∀ e, St n e → den C V K e = X0) (hr : ¬ P → X0 = some (.ret R []))
  {env : Env} (h0 : St 0 env) (hv : env vi = .int .i64 0) :
  den C V (.seq (.block b (.loop (.seq (.st [.asg [(.bin .lss (.v vi) (.v vn))] []]) (.seq (.cond (.bin .lss (.v vi) (.v vn)) .skip (.exit b)) (.seq BODY (.st [.asg [] [(vi, .bin .add (.v vi) (.int .i64 1))]])))))) K) env = X0 := by
 have e : ∀ env, den C V (.block b (.loop (.seq (.st [.asg [(.bin .lss (.v vi) (.v vn))] []]) (.seq (.cond (.bin .lss (.v vi) (.v vn)) .skip (.exit b)) (.seq BODY (.st [.asg [] [(vi, .bin .add (.v vi) (.int .i64 1))]])))))) env =
   den C V (.block b (.loop (.seq (.seq (.st [.asg [(.bin .lss (.v vi) (.v vn))] []]) (.cond (.bin .lss (.v vi) (.v vn)) .skip (.exit b))) (.seq BODY (.st [.asg [] [(vi, .bin .add (.v vi) (.int .i64 1))]]))))) env := fun env => by
  have := loop_assoc (C := C) (V := V) (.st [.asg [(.bin .lss (.v vi) (.v vn))] []]) (.cond (.bin .lss (.v vi) (.v vn)) .skip (.exit b)) (.seq BODY (.st [.asg [] [(vi, .bin .add (.v vi) (.int .i64 1))]])) env
  rw [den.eq_def, den.eq_def C V (.block b _)]
  simp only
  rw [this]
 have key := all_seq (C := C) (V := V) (K := K) (X0 := X0) (b := b) (HEAD := .seq (.st [.asg [(.bin .lss (.v vi) (.v vn))] []]) (.cond (.bin .lss (.v vi) (.v vn)) .skip (.exit b))) hn p R St P hset
  (fun k env hk hs hv => by
   have h3 := hvn k env hs
   by_cases hkn : k < n
   ·simp only [den, runVS, VS.run, allGood, X.ev, hv, h3, obind_some, bin, lss_idx, hkn, decide_true, Option.isSome_some, Bool.true_and, if_true, bindAll]
   ·simp only [den, runVS, VS.run, allGood, X.ev, hv, h3, obind_some, bin, lss_idx, hkn, decide_false, Option.isSome_some, Bool.true_and, if_true, bindAll, if_false]) hbody hP hk hr h0 hv
 rw [← key, den.eq_def, den.eq_def C V (.seq _ K)]
 simp only
 rw [e]
end Gv

namespace Gv
open Go
theorem appB {l m : List Nat} (h : l.length + m.length < 2147483648) : appV 1 (eB l) (eB m) = some (eB (l ++ m)) := app_bytes h
theorem nb_len' (k u : Nat) : (nb k u).length ≤ k := by
 induction k generalizing u with
 | zero => simp [nb]
 | succ k ih =>
  simp only [nb]
  split
  ·simp only [List.length_cons]; have := ih (u / 128); omega
  ·simp
theorem take_flat {α : Type} (f : α → List Nat) (l : List α) (k : Nat) : ((l.take k).flatMap f).length ≤ (l.flatMap f).length := by
 induction l generalizing k with
 | nil => simp
 | cons x l ih =>
  cases k with
  | zero => simp
  | succ k => simp only [List.take_succ_cons, List.flatMap_cons, List.length_append]; have := ih k; omega
variable {C : CallV} {V : Nat → List PV → List PV → Bool}
theorem number_pos (n : Int) : 1 ≤ (number n).length := by
 show 1 ≤ (nb 10 (zz n)).length
 rw [nb]; split <;> simp
theorem flat_ge {α : Type} {f : α → List Nat} (h : ∀ x, 1 ≤ (f x).length) : ∀ (l : List α), l.length ≤ (l.flatMap f).length
 | [] => by simp
 | x :: l => by
  have h1 := h x
  have h2 := flat_ge h l
  simp only [List.flatMap_cons, List.length_append, List.length_cons]; omega
theorem take_step {α : Type} (f : α → List Nat) {l : List α} {k : Nat} {x : α} (h : l[k]? = some x) : (l.take (k + 1)).flatMap f = (l.take k).flatMap f ++ f x ∧ ((l.take k).flatMap f).length + (f x).length ≤ (l.flatMap f).length := by
 have h1 : (l.take (k + 1)).flatMap f = (l.take k).flatMap f ++ f x := by rw [take_snoc h]; simp
 exact ⟨h1, by have := take_flat f l (k + 1); rw [h1, List.length_append] at this; exact this⟩
theorem enN_eq (l : List Int) : enN l = l.flatMap number := rfl
theorem enN_ge (l : List Int) : l.length ≤ (enN l).length := flat_ge number_pos l
def CNumW (C : CallV) : Prop := ∀ n : Int, I64 n → C 11 [.int .i64 n] = some (eB (number n), [])
theorem wput_loop (hN : CNumW C) {l : List Int} (hl : ∀ n ∈ l, I64 n) {b : List Nat} (hb : b.length + (enN l).length < 2147483648) {env : Env} (h7 : env 7 = eI l) (h8 : env 8 = .int .i64 l.length) (h9 : env 9 = .int .i64 0) (h0 : env 0 = eB b) :
  ∃ env', den C V (.block 0 (.loop v_wire_put_L1)) env = some (.norm env') ∧ env' 0 = eB (b ++ enN l) := by
 let St : Nat → Env → Prop := fun k e => e 7 = eI l ∧ e 8 = .int .i64 l.length ∧ e 0 = eB (b ++ (l.take k).flatMap number)
 obtain ⟨e, h1, h2⟩ : ∃ e, den C V (.block 0 (.loop v_wire_put_L1)) env = some (.norm e) ∧ St l.length e := by
  refine range_run (St := St) (by have := enN_ge l; omega) (fun k e v h => by simpa [St] using h) (fun k e h => h.2.1) (fun k e hk ⟨g7, g8, g0⟩ g9 => ?_) ⟨h7, h8, by simpa using h0⟩ h9
  obtain ⟨x, hx, hm⟩ := get_lt hk
  obtain ⟨t1, t2⟩ := take_step number hx
  have ha := appB (l := b ++ (l.take k).flatMap number) (m := number x) (by simp only [List.length_append]; rw [enN_eq] at hb; omega)
  refine ⟨_, by simp only [vw0, vw1, vw2, vw3, vw4, ↓reduceIte, reduceCtorEq, g7, g9, g0, ia_eI hx, hN x (hl x hm), ha]; rfl, ⟨by simp [g7], by simp [g8], by simp [t1]⟩, by simp [g9]⟩
 exact ⟨e, h1, by simpa [enN_eq] using h2.2.2⟩
theorem wput_V {m : Nat} {l : List Int} (hl : ∀ n ∈ l, I64 n) {b : List Nat} (hb : b.length + (enN l).length < 2147483648) : callV tVT (m + 2) 48 [eB b, eI l] = some (eB (b ++ enN l), []) := by
 refine callV_of (F := v_wire_put) rfl rfl rfl ?_ (.inl rfl)
 have hN : CNumW (callV tVT (m + 1)) := fun n h => number_V h.1 h.2
 generalize callV tVT (m + 1) = C at hN
 generalize vTab tVT = V
 refine nx (by simp only [vw0]; rfl) ?_
 rw [ras]
 refine nx (by simp only [vw0, vw1, vw2, ↓reduceIte]; rfl) ?_
 refine seq_of (wput_loop hN hl hb (by simp [Env.ofArgs_at]) (by simp) (by simp) (by simp [Env.ofArgs_at])) fun e h0 => ?_
 simp only [vw0, vw2, ↓reduceIte, h0]
def CPut (C : CallV) (f : Nat) : Prop := ∀ (l : List Int) (b : List Nat), (∀ n ∈ l, I64 n) → b.length + (enN l).length < 2147483648 → C f [eB b, eI l] = some (eB (b ++ enN l), [])
theorem wput_C {m : Nat} : CPut (callV tVT (m + 2)) 48 := fun l b hl hb => wput_V hl hb
theorem enCode_eq (l : List SInstr) : enCode l = enN [(l.length : Int)] ++ l.flatMap enInstr := by simp [enCode, enN]
theorem enInstr_eq (i : SInstr) : enInstr i = enN [i.op, i.a] := by simp [enInstr, enN]
theorem enInstr_pos (i : SInstr) : 1 ≤ (enInstr i).length := by rw [enInstr, List.length_append]; have := number_pos i.op; omega
def CCode (C : CallV) (f : Nat) : Prop := ∀ (l : List SInstr) (b : List Nat), (∀ i ∈ l, i.ok) → b.length + (enCode l).length < 2147483648 → C f [eB b, eCode l] = some (eB (b ++ enCode l), [])
theorem i64_len {α : Type} {f : α → List Nat} (hf : ∀ x, 1 ≤ (f x).length) {l : List α} {n : Nat} (h : n + (l.flatMap f).length < 2147483648) : ∀ x ∈ [(l.length : Int)], I64 x := by
 have := flat_ge hf l
 intro x hx
 simp only [List.mem_singleton] at hx
 subst hx
 exact ⟨by omega, by omega⟩
theorem mem2 {a b : Int} (ha : I64 a) (hb : I64 b) : ∀ n ∈ [a, b], I64 n := fun n hn => by
 simp only [List.mem_cons, List.not_mem_nil, or_false] at hn
 rcases hn with rfl | rfl <;> assumption
theorem mem1 {a : Int} (ha : I64 a) : ∀ n ∈ [a], I64 n := fun n hn => by
 simp only [List.mem_cons, List.not_mem_nil, or_false] at hn
 subst hn; exact ha
theorem mem3 {a b c : Int} (ha : I64 a) (hb : I64 b) (hc : I64 c) : ∀ n ∈ [a, b, c], I64 n := fun n hn => by
 simp only [List.mem_cons, List.not_mem_nil, or_false] at hn
 rcases hn with rfl | rfl | rfl <;> assumption
end Gv

namespace Gv
open Go
variable {C : CallV} {V : Nat → List PV → List PV → Bool}
theorem flag64 (x : Bool) : I64 (flagI x) := by cases x <;> constructor <;> decide
theorem mem6 {a b c d e f : Int} (ha : I64 a) (hb : I64 b) (hc : I64 c) (hd : I64 d) (he : I64 e) (hf : I64 f) : ∀ n ∈ [a, b, c, d, e, f], I64 n := fun n hn => by
 simp only [List.mem_cons, List.not_mem_nil, or_false] at hn
 rcases hn with rfl | rfl | rfl | rfl | rfl | rfl <;> assumption
end Gv

namespace Gv
open Go
variable {C : CallV} {V : Nat → List PV → List PV → Bool}
def BO (b : List Nat) : Prop := (∀ x ∈ b, x < 256) ∧ b.length < 1000000000
theorem BO.suf {a b : List Nat} (h : ∃ p, a = p ++ b) (ha : BO a) : BO b := by
 obtain ⟨p, rfl⟩ := h
 have := ha.2
 rw [List.length_append] at this
 exact ⟨fun x hx => ha.1 x (List.mem_append_right _ hx), by omega⟩
theorem len_eB {b : List Nat} : lenV (eB b) = some (.int .i64 b.length) := lenV_bytes b
theorem neqI {a b : Int} : binI .neq .i64 a .i64 b = some (.bool (a != b)) := by simp [binI]
theorem eqlI {a b : Int} : binI .eql .i64 a .i64 b = some (.bool (a == b)) := by simp [binI]
theorem gtrI {a b : Int} : binI .gtr .i64 a .i64 b = some (.bool (decide (b < a))) := by simp [binI]
end Gv

namespace Gv
open Go
variable {C : CallV} {V : Nat → List PV → List PV → Bool}
end Gv

namespace Gv
open Go
variable {C : CallV} {V : Nat → List PV → List PV → Bool}
theorem putCode_V {m : Nat} : CCode (callV tVT (m + 3)) 50 := by
 intro l b hl hb
 rw [enCode_eq] at hb ⊢
 refine callV_of (F := v_wire_putCode) rfl rfl rfl ?_ (.inl rfl)
 have hP : CPut (callV tVT (m + 2)) 48 := wput_C
 generalize callV tVT (m + 2) = C at hP
 generalize vTab tVT = V
 rw [List.length_append] at hb
 have hge := flat_ge enInstr_pos l
 have hp := hP [(l.length : Int)] b (i64_len (n := b.length) enInstr_pos (by omega)) (by omega)
 refine nx (by simp only [vw0, vw1, vw2, vw3, vw4, ↓reduceIte, Env.ofArgs_at, Option.getD_some, len_eCode, eI1, hp]; rfl) ?_
 rw [ras]
 refine nx (by simp only [vw0, vw1, vw2, vw4, ↓reduceIte, Nat.reduceEqDiff, reduceCtorEq, Env.ofArgs_at, Option.getD_some, len_eCode]; rfl) ?_
 let St : Nat → Env → Prop := fun k e => e 12 = eCode l ∧ e 13 = .int .i64 l.length ∧ e 0 = eB ((b ++ enN [(l.length : Int)]) ++ (l.take k).flatMap enInstr)
 refine seq_of (P := St l.length) (range_run (St := St) (by omega) (fun k e v h => by simpa [St] using h) (fun k e h => h.2.1) (fun k e hk ⟨g1, g2, g0⟩ g5 => ?_) ⟨by simp, by simp, by simp⟩ (by simp)) fun e h0 => ?_
 ·obtain ⟨x, hx, hm⟩ := get_lt hk
  obtain ⟨t1, t2⟩ := take_step enInstr hx
  have ha := hP [x.op, x.a] ((b ++ enN [(l.length : Int)]) ++ (l.take k).flatMap enInstr) (mem2 (hl x hm).1 (hl x hm).2) (by rw [← enInstr_eq]; simp only [List.length_append]; omega)
  refine ⟨_, by simp only [vw0, vw1, vw2, vw3, vw4, ↓reduceIte, reduceCtorEq, Nat.reduceAdd, beq_self_eq_true, g1, g5, g0, ia_eCode hx, eI2, ha]; rfl, ⟨by simp [g1], by simp [g2], by simp [t1, enInstr_eq]⟩, by simp [g5]⟩
 ·simp only [vw0, vw2, ↓reduceIte, h0.2.2, List.take_length, List.append_assoc]
theorem enNums_eq (l : List Int) : enNums l = enN [(l.length : Int)] ++ enN l := by simp [enNums, enN]
theorem putNumbers_V {m : Nat} {l : List Int} {b : List Nat} (hl : ∀ n ∈ l, I64 n) (hb : b.length + (enNums l).length < 2147483648) : callV tVT (m + 3) 85 [eB b, eI l] = some (eB (b ++ enNums l), []) := by
 rw [enNums_eq] at hb ⊢
 refine callV_of (F := v_wire_putNumbers) rfl rfl rfl ?_ (.inl rfl)
 have hP : CPut (callV tVT (m + 2)) 48 := wput_C
 generalize callV tVT (m + 2) = C at hP
 generalize vTab tVT = V
 rw [List.length_append] at hb
 have hge := enN_ge l
 have h1 := hP [(l.length : Int)] b (mem1 ⟨by omega, by omega⟩) (by omega)
 have h2 := hP l (b ++ enN [(l.length : Int)]) hl (by rw [List.length_append]; omega)
 simp only [vw0, vw1, vw2, vw3, vw4, ↓reduceIte, Nat.reduceEqDiff, v_wire_putNumbers, Env.ofArgs_at, Option.getD_some, len_eI, eI1, h1, h2, List.append_assoc]
theorem flag_V {m : Nat} (x : Bool) : callV tVT (m + 1) 86 [.bool x] = some (.int .i64 (flagI x), []) := by
 refine callV_of (F := v_wire_flag) rfl rfl rfl ?_ (.inr rfl)
 cases x <;> simp only [vw0, vw2, vw4, ↓reduceIte, v_wire_flag, Env.ofArgs_at, Option.getD_some, flagI]
end Gv

namespace Gv
open Go
variable {C : CallV} {V : Nat → List PV → List PV → Bool}
def eProg (p : SProg) : PV := .agg (cProg p)
def eTask (t : STask) : PV := .agg (cTask t)
theorem cTask_eq (t : STask) : cTask t = [.lst (t.prog.handlers.map eHandler) false, .lst (t.prog.actors.map eActor) false, .lst (t.prog.boot.map eNote) false, .int .i64 t.prog.fuel, .lst (t.watch.map eCode) false,
 .int .i64 t.budget.drop, .int .i64 t.budget.dup, .int .i64 t.budget.time, .int .i64 t.budget.crash, .int .i64 t.limits.depth, .int .i64 t.limits.runs] := rfl
theorem len_hs {l : List SHandler} : lenV (.lst (l.map eHandler) false) = some (.int .i64 l.length) := len_map
theorem len_as {l : List SActor} : lenV (.lst (l.map eActor) false) = some (.int .i64 l.length) := len_map
theorem len_ns {l : List SNote} : lenV (.lst (l.map eNote) false) = some (.int .i64 l.length) := len_map
theorem len_ws {l : List (List SInstr)} : lenV (.lst (l.map eCode) false) = some (.int .i64 l.length) := len_map
theorem enHandler_eq (h : SHandler) : enHandler h = enN [h.args] ++ enCode h.code := by simp [enHandler, enN]
theorem enActor_eq (a : SActor) : enActor a = enNums a.regs ++ enN [a.cap, a.timer, flagI a.armed] := by simp [enActor, enN]
theorem enNote_eq (n : SNote) : enNote n = enN [n.to, n.handler] ++ enNums n.args := by simp [enNote, enN]
theorem enProg_eq (p : SProg) : enProg p = enN [(p.handlers.length : Int)] ++ p.handlers.flatMap enHandler ++ enN [(p.actors.length : Int)] ++ p.actors.flatMap enActor ++ enN [(p.boot.length : Int)] ++ p.boot.flatMap enNote ++ enN [p.fuel] := by simp [enProg, enN]
def CNums (C : CallV) (f : Nat) : Prop := ∀ (l : List Int) (b : List Nat), (∀ n ∈ l, I64 n) → b.length + (enNums l).length < 2147483648 → C f [eB b, eI l] = some (eB (b ++ enNums l), [])
def CFlag (C : CallV) (f : Nat) : Prop := ∀ x : Bool, C f [.bool x] = some (.int .i64 (flagI x), [])
theorem le64 {n : Nat} (h : n < 2147483648) : I64 (n : Int) := ⟨by omega, by omega⟩
theorem wprog1 (hP : CPut C 48) (hC : CCode C 50) {l : List SHandler} (hl : ∀ h ∈ l, h.ok) {b : List Nat} (hb : b.length + (l.flatMap enHandler).length < 2147483648) {env : Env} (h18 : env 18 = .lst (l.map eHandler) false) (h19 : env 19 = .int .i64 l.length) (h20 : env 20 = .int .i64 0) (h0 : env 0 = eB b) {p3 : PV} (h3 : env 3 = p3) :
  ∃ e, den C V (.block 0 (.loop v_wire_putProgram_L1)) env = some (.norm e) ∧ (e 0 = eB (b ++ l.flatMap enHandler) ∧ e 3 = p3) := by
 let St : Nat → Env → Prop := fun k e => e 18 = .lst (l.map eHandler) false ∧ e 19 = .int .i64 l.length ∧ e 0 = eB (b ++ (l.take k).flatMap enHandler) ∧ e 3 = p3
 have hge := flat_ge handler_pos l
 obtain ⟨e, h1, h2⟩ : ∃ e, den C V (.block 0 (.loop v_wire_putProgram_L1)) env = some (.norm e) ∧ St l.length e := by
  refine range_run (St := St) (by omega) (fun k e v h => by simpa [St] using h) (fun k e h => h.2.1) (fun k e hk ⟨g1, g2, g0, g3⟩ g5 => ?_) ⟨h18, h19, by simpa using h0, h3⟩ h20
  obtain ⟨x, hx, hm⟩ := get_lt hk
  obtain ⟨t1, t2⟩ := take_step enHandler hx
  have ho := hl x hm
  have hln : (enHandler x).length = (enN [x.args]).length + (enCode x.code).length := by rw [enHandler_eq, List.length_append]
  have q1 := hP [x.args] (b ++ (l.take k).flatMap enHandler) (mem1 ho.1) (by simp only [List.length_append]; omega)
  have q2 := hC x.code (b ++ (l.take k).flatMap enHandler ++ enN [x.args]) ho.2 (by simp only [List.length_append]; omega)
  refine ⟨_, by simp only [vw0, vw1, vw2, vw3, vw4, ↓reduceIte, Nat.reduceEqDiff, reduceCtorEq, Nat.reduceAdd, beq_self_eq_true, g1, g5, g0, ia_hs hx, eI1, q1, q2]; rfl, ⟨by simp [g1], by simp [g2], by simp [t1, enHandler_eq], by simp [g3]⟩, by simp [g5]⟩
 exact ⟨e, h1, by simpa using h2.2.2.1, h2.2.2.2⟩
theorem wprog2 (hP : CPut C 48) (hN : CNums C 85) (hF : CFlag C 86) {l : List SActor} (hl : ∀ h ∈ l, h.ok) {b : List Nat} (hb : b.length + (l.flatMap enActor).length < 2147483648) {env : Env} (h18 : env 40 = .lst (l.map eActor) false) (h19 : env 41 = .int .i64 l.length) (h20 : env 42 = .int .i64 0) (h0 : env 0 = eB b) {p3 : PV} (h3 : env 3 = p3) :
  ∃ e, den C V (.block 2 (.loop v_wire_putProgram_L2)) env = some (.norm e) ∧ (e 0 = eB (b ++ l.flatMap enActor) ∧ e 3 = p3) := by
 let St : Nat → Env → Prop := fun k e => e 40 = .lst (l.map eActor) false ∧ e 41 = .int .i64 l.length ∧ e 0 = eB (b ++ (l.take k).flatMap enActor) ∧ e 3 = p3
 have hge := flat_ge actor_pos l
 obtain ⟨e, h1, h2⟩ : ∃ e, den C V (.block 2 (.loop v_wire_putProgram_L2)) env = some (.norm e) ∧ St l.length e := by
  refine range_run (St := St) (by omega) (fun k e v h => by simpa [St] using h) (fun k e h => h.2.1) (fun k e hk ⟨g1, g2, g0, g3⟩ g5 => ?_) ⟨h18, h19, by simpa using h0, h3⟩ h20
  obtain ⟨x, hx, hm⟩ := get_lt hk
  obtain ⟨t1, t2⟩ := take_step enActor hx
  have ho := hl x hm
  have hln : (enActor x).length = (enNums x.regs).length + (enN [x.cap, x.timer, flagI x.armed]).length := by rw [enActor_eq, List.length_append]
  have q1 := hN x.regs (b ++ (l.take k).flatMap enActor) ho.1 (by simp only [List.length_append]; omega)
  have q2 := hP [x.cap, x.timer, flagI x.armed] (b ++ (l.take k).flatMap enActor ++ enNums x.regs) (mem3 ho.2.1 ho.2.2 (flag64 _)) (by simp only [List.length_append]; omega)
  refine ⟨_, by simp only [vw0, vw1, vw2, vw3, vw4, ↓reduceIte, Nat.reduceEqDiff, reduceCtorEq, Nat.reduceAdd, beq_self_eq_true, g1, g5, g0, ia_as hx, eI3, hF x.armed, q1, q2]; rfl, ⟨by simp [g1], by simp [g2], by simp [t1, enActor_eq], by simp [g3]⟩, by simp [g5]⟩
 exact ⟨e, h1, by simpa using h2.2.2.1, h2.2.2.2⟩
theorem wprog3 (hP : CPut C 48) (hN : CNums C 85) {l : List SNote} (hl : ∀ h ∈ l, h.ok) {b : List Nat} (hb : b.length + (l.flatMap enNote).length < 2147483648) {env : Env} (h18 : env 67 = .lst (l.map eNote) false) (h19 : env 68 = .int .i64 l.length) (h20 : env 69 = .int .i64 0) (h0 : env 0 = eB b) {p3 : PV} (h3 : env 3 = p3) :
  ∃ e, den C V (.block 4 (.loop v_wire_putProgram_L3)) env = some (.norm e) ∧ (e 0 = eB (b ++ l.flatMap enNote) ∧ e 3 = p3) := by
 let St : Nat → Env → Prop := fun k e => e 67 = .lst (l.map eNote) false ∧ e 68 = .int .i64 l.length ∧ e 0 = eB (b ++ (l.take k).flatMap enNote) ∧ e 3 = p3
 have hge := flat_ge note_pos l
 obtain ⟨e, h1, h2⟩ : ∃ e, den C V (.block 4 (.loop v_wire_putProgram_L3)) env = some (.norm e) ∧ St l.length e := by
  refine range_run (St := St) (by omega) (fun k e v h => by simpa [St] using h) (fun k e h => h.2.1) (fun k e hk ⟨g1, g2, g0, g3⟩ g5 => ?_) ⟨h18, h19, by simpa using h0, h3⟩ h20
  obtain ⟨x, hx, hm⟩ := get_lt hk
  obtain ⟨t1, t2⟩ := take_step enNote hx
  have ho := hl x hm
  have hln : (enNote x).length = (enN [x.to, x.handler]).length + (enNums x.args).length := by rw [enNote_eq, List.length_append]
  have q1 := hP [x.to, x.handler] (b ++ (l.take k).flatMap enNote) (mem2 ho.1 ho.2.1) (by simp only [List.length_append]; omega)
  have q2 := hN x.args (b ++ (l.take k).flatMap enNote ++ enN [x.to, x.handler]) ho.2.2 (by simp only [List.length_append]; omega)
  refine ⟨_, by simp only [vw0, vw1, vw2, vw3, vw4, ↓reduceIte, Nat.reduceEqDiff, reduceCtorEq, Nat.reduceAdd, beq_self_eq_true, g1, g5, g0, ia_ns hx, eI2, q1, q2]; rfl, ⟨by simp [g1], by simp [g2], by simp [t1, enNote_eq], by simp [g3]⟩, by simp [g5]⟩
 exact ⟨e, h1, by simpa using h2.2.2.1, h2.2.2.2⟩
theorem putProgram_V {m : Nat} {p : SProg} {b : List Nat} (hp : p.ok) (hb : b.length + (enProg p).length < 2147483648) : callV tVT (m + 4) 49 [eB b, eProg p] = some (eB (b ++ enProg p), []) := by
 rw [enProg_eq] at hb ⊢
 refine callV_of (F := v_wire_putProgram) rfl rfl rfl ?_ (.inl rfl)
 have hP : CPut (callV tVT (m + 3)) 48 := wput_C
 have hC : CCode (callV tVT (m + 3)) 50 := putCode_V
 have hN : CNums (callV tVT (m + 3)) 85 := fun l b hl hb => putNumbers_V hl hb
 have hF : CFlag (callV tVT (m + 3)) 86 := fun x => flag_V x
 generalize callV tVT (m + 3) = C at *
 generalize vTab tVT = V
 obtain ⟨hs, as, ns, fuel⟩ := p
 obtain ⟨o1, o2, o3, o4⟩ := hp
 simp only at *
 simp only [List.length_append] at hb
 have u1 := flat_ge handler_pos hs
 have u2 := flat_ge actor_pos as
 have u3 := flat_ge note_pos ns
 have q1 := hP [(hs.length : Int)] b (mem1 (le64 (by omega))) (by omega)
 have q2 := hP [(as.length : Int)] (b ++ enN [(hs.length : Int)] ++ hs.flatMap enHandler) (mem1 (le64 (by omega))) (by simp only [List.length_append]; omega)
 have q3 := hP [(ns.length : Int)] (b ++ enN [(hs.length : Int)] ++ hs.flatMap enHandler ++ enN [(as.length : Int)] ++ as.flatMap enActor) (mem1 (le64 (by omega))) (by simp only [List.length_append]; omega)
 have q4 := hP [fuel] (b ++ enN [(hs.length : Int)] ++ hs.flatMap enHandler ++ enN [(as.length : Int)] ++ as.flatMap enActor ++ enN [(ns.length : Int)] ++ ns.flatMap enNote) (mem1 o4) (by simp only [List.length_append]; omega)
 refine nx (by simp only [vw0, vw1, vw2, vw3, vw4, ↓reduceIte, reduceCtorEq, Nat.reduceAdd, beq_self_eq_true, Env.ofArgs_at, Option.getD_some, eProg, cProg, len_hs, eI1, q1]; rfl) ?_
 rw [ras]
 refine nx (by simp only [vw0, vw1, vw2, vw3, vw4, ↓reduceIte, Nat.reduceEqDiff, reduceCtorEq, len_hs]; rfl) ?_
 refine seq_of (wprog1 hP hC o1 (b := b ++ enN [(hs.length : Int)]) (by simp only [List.length_append]; omega) (by simp) (by simp) (by simp) (by simp) (p3 := .lptr [.lst (hs.map eHandler) false, .lst (as.map eActor) false, .lst (ns.map eNote) false, .int .i64 fuel]) (by simp)) fun e ⟨k0, k3⟩ => ?_
 refine nx (by simp only [vw0, vw1, vw2, vw3, vw4, ↓reduceIte, k3, k0, len_as, eI1, q2]; rfl) ?_
 rw [ras]
 refine nx (by simp only [vw0, vw1, vw2, vw3, vw4, ↓reduceIte, Nat.reduceEqDiff, reduceCtorEq, k3, len_as]; rfl) ?_
 refine seq_of (wprog2 hP hN hF o2 (b := b ++ enN [(hs.length : Int)] ++ hs.flatMap enHandler ++ enN [(as.length : Int)]) (by simp only [List.length_append]; omega) (by simp) (by simp) (by simp) (by simp) (p3 := .lptr [.lst (hs.map eHandler) false, .lst (as.map eActor) false, .lst (ns.map eNote) false, .int .i64 fuel]) (by simp [k3])) fun e ⟨k0, k3⟩ => ?_
 refine nx (by simp only [vw0, vw1, vw2, vw3, vw4, ↓reduceIte, k3, k0, len_ns, eI1, q3]; rfl) ?_
 rw [ras]
 refine nx (by simp only [vw0, vw1, vw2, vw3, vw4, ↓reduceIte, Nat.reduceEqDiff, reduceCtorEq, k3, len_ns]; rfl) ?_
 refine seq_of (wprog3 hP hN o3 (b := b ++ enN [(hs.length : Int)] ++ hs.flatMap enHandler ++ enN [(as.length : Int)] ++ as.flatMap enActor ++ enN [(ns.length : Int)]) (by simp only [List.length_append]; omega) (by simp) (by simp) (by simp) (by simp) (p3 := .lptr [.lst (hs.map eHandler) false, .lst (as.map eActor) false, .lst (ns.map eNote) false, .int .i64 fuel]) (by simp [k3])) fun e ⟨k0, k3⟩ => ?_
 simp only [vw0, vw1, vw2, vw3, vw4, ↓reduceIte, k3, k0, eI1, q4]
 simp
end Gv

namespace Gv
open Go
variable {C : CallV} {V : Nat → List PV → List PV → Bool}
def outEnc (t : STask) : PV := if 65536 < (enTask t).length then .tup [eB [], .int .i64 3] else .tup [eB (enTask t), .int .i64 0]
theorem enTask_eq (t : STask) : enTask t = enSign ++ enProg t.prog ++ enN [(t.watch.length : Int)] ++ t.watch.flatMap enCode ++ enN [t.budget.drop, t.budget.dup, t.budget.time, t.budget.crash, t.limits.depth, t.limits.runs] := by simp [enTask, enN]
theorem task6 {t : STask} (h : t.ok) : ∀ n ∈ [t.budget.drop, t.budget.dup, t.budget.time, t.budget.crash, t.limits.depth, t.limits.runs], I64 n := mem6 h.2.2.1.1 h.2.2.1.2.1 h.2.2.1.2.2.1 h.2.2.1.2.2.2 h.2.2.2.1 h.2.2.2.2
theorem sign_lst : PV.lst [.int .u8 71, .int .u8 65, .int .u8 86, .int .u8 49] false = eB enSign := rfl
theorem wenc1 (hC : CCode C 50) {l : List (List SInstr)} (hl : ∀ w ∈ l, ∀ i ∈ w, i.ok) {b : List Nat} (hb : b.length + (l.flatMap enCode).length < 2147483648) {env : Env} (h18 : env 18 = .lst (l.map eCode) false) (h19 : env 19 = .int .i64 l.length) (h20 : env 20 = .int .i64 0) (h0 : env 4 = eB b) {p1 : PV} (h1 : env 1 = p1) :
  ∃ e, den C V (.block 0 (.loop v_wire_Encode_L1)) env = some (.norm e) ∧ (e 4 = eB (b ++ l.flatMap enCode) ∧ e 1 = p1) := by
 let St : Nat → Env → Prop := fun k e => e 18 = .lst (l.map eCode) false ∧ e 19 = .int .i64 l.length ∧ e 4 = eB (b ++ (l.take k).flatMap enCode) ∧ e 1 = p1
 have hge := flat_ge code_pos l
 obtain ⟨e, h1, h2⟩ : ∃ e, den C V (.block 0 (.loop v_wire_Encode_L1)) env = some (.norm e) ∧ St l.length e := by
  refine range_run (St := St) (by omega) (fun k e v h => by simpa [St] using h) (fun k e h => h.2.1) (fun k e hk ⟨g1, g2, g0, g3⟩ g5 => ?_) ⟨h18, h19, by simpa using h0, h1⟩ h20
  obtain ⟨x, hx, hm⟩ := get_lt hk
  obtain ⟨t1, t2⟩ := take_step enCode hx
  have q1 := hC x (b ++ (l.take k).flatMap enCode) (hl x hm) (by simp only [List.length_append]; omega)
  refine ⟨_, by simp only [vw0, vw1, vw2, vw3, vw4, ↓reduceIte, Nat.reduceEqDiff, g1, g5, g0, ia_ws hx, q1]; rfl, ⟨by simp [g1], by simp [g2], by simp [t1], by simp [g3]⟩, by simp [g5]⟩
 exact ⟨e, h1, by simpa using h2.2.2.1, h2.2.2.2⟩
theorem wEnc_V {m : Nat} {t : STask} (ht : t.ok) (hb : (enTask t).length < 1000000000) : callV tVT (m + 5) 16 [eTask t] = some (outEnc t, []) := by
 refine callV_of (F := v_wire_Encode) rfl rfl rfl ?_ (.inl rfl)
 have hP : CPut (callV tVT (m + 4)) 48 := wput_C
 have hC : CCode (callV tVT (m + 4)) 50 := putCode_V
 have hG : ∀ (p : SProg) (b : List Nat), p.ok → b.length + (enProg p).length < 2147483648 → callV tVT (m + 4) 49 [eB b, eProg p] = some (eB (b ++ enProg p), []) := fun p b h1 h2 => putProgram_V h1 h2
 generalize callV tVT (m + 4) = C at *
 generalize vTab tVT = V
 have hlen := enTask_eq t
 have hl := congrArg List.length hlen
 simp only [List.length_append] at hl
 have h4 : enSign.length = 4 := rfl
 have u1 := flat_ge code_pos t.watch
 have q0 := hG t.prog enSign ht.1 (by omega)
 simp only [eProg, cProg] at q0
 have q1 := hP [(t.watch.length : Int)] (enSign ++ enProg t.prog) (mem1 (le64 (by omega))) (by simp only [List.length_append]; omega)
 have q2 := hP [t.budget.drop, t.budget.dup, t.budget.time, t.budget.crash, t.limits.depth, t.limits.runs] (enSign ++ enProg t.prog ++ enN [(t.watch.length : Int)] ++ t.watch.flatMap enCode) (task6 ht) (by simp only [List.length_append]; omega)
 refine nx (by simp only [vw0, vw1, vw2, vw3, vw4, ↓reduceIte, Nat.reduceEqDiff, Nat.reduceAdd, beq_self_eq_true, Env.ofArgs_at, Option.getD_some, eTask, cTask_eq, sign_lst, show posV (eB enSign) = some (eB enSign) from rfl, q0, len_ws, eI1, q1]; rfl) ?_
 rw [ras]
 refine nx (by simp only [vw0, vw1, vw2, vw3, vw4, ↓reduceIte, Nat.reduceEqDiff, len_ws]; rfl) ?_
 refine seq_of (wenc1 hC ht.2.1 (b := enSign ++ enProg t.prog ++ enN [(t.watch.length : Int)]) (by simp only [List.length_append]; omega) (by simp) (by simp) (by simp) (by simp) (p1 := .lptr (cTask t)) (by simp [cTask_eq])) fun e ⟨k4, k1⟩ => ?_
 rw [cTask_eq] at k1
 refine nx (by simp only [vw0, vw1, vw2, vw3, vw4, ↓reduceIte, k1, k4, eI6, q2]; rfl) ?_
 rw [← hlen]
 by_cases hc : (65536 : Int) < ((enTask t).length : Int)
 ·refine den_seq_ret ?_
  have : 65536 < (enTask t).length := by omega
  simp only [vw0, vw1, vw2, vw3, vw4, ↓reduceIte, Nat.reduceEqDiff, len_eB, gtrI, hc, decide_true, outEnc, this, eB0]
 ·have : ¬ 65536 < (enTask t).length := by omega
  refine nx (by simp only [vw0, vw1, vw2, vw3, vw4, ↓reduceIte, len_eB, gtrI, hc, decide_false]; rfl) ?_
  simp only [vw0, vw1, vw2, ↓reduceIte, Nat.reduceEqDiff, outEnc, this]
end Gv

namespace Gv
open Go
structure Bnd {α : Type} (f : RS → α × RS) (en : α → List Nat) (c : Nat) : Prop where
 bd : ∀ s : RS, BOk s.1 → (en (f s).1).length + (f s).2.1.length ≤ s.1.length + c
 gd : ∀ s : RS, BOk s.1 → (f s).2.2 = false → (en (f s).1).length + (f s).2.1.length ≤ s.1.length
theorem nbl (n : Int) : (number n).length ≤ 10 := nb_len' 10 _
theorem Bnd.pair {α β : Type} {f : RS → α × RS} {g : RS → β × RS} {ea : α → List Nat} {eb : β → List Nat} {a b : Nat} (F : Bnd f ea a) (G : Bnd g eb b) (hf : ∀ s : RS, ∃ p, s.1 = p ++ (f s).2.1) (hm : ∀ s : RS, s.2 = true → (g s).2.2 = true) :
  Bnd (pairD f g) (fun p => ea p.1 ++ eb p.2) (a + b) where
 bd s hb := by
  have h1 := F.bd s hb
  have h2 := G.bd (f s).2 (suf_bok (hf s) hb)
  simp only [pairD, List.length_append]; omega
 gd s hb h := by
  have hg : (f s).2.2 = false := by
   cases h1 : (f s).2.2 with
   | false => rfl
   | true => have := hm _ h1; simp only [pairD] at h; rw [this] at h; cases h
  have h1 := F.gd s hb hg
  have h2 := G.gd (f s).2 (suf_bok (hf s) hb) h
  simp only [pairD, List.length_append]; omega
theorem Bnd.iso {α β : Type} {f : RS → α × RS} {ea : α → List Nat} {a : Nat} (F : Bnd f ea a) (to : α → β) {eb : β → List Nat} (he : ∀ x, eb (to x) = ea x) : Bnd (fun s => (to (f s).1, (f s).2)) eb a where
 bd s hb := by simp only [he]; exact F.bd s hb
 gd s hb h := by simp only [he]; exact F.gd s hb h
theorem okTask.plain {t : STask} (h : okTask t) : t.ok := by
 obtain ⟨⟨h1, h2, h3, h4⟩, h5, h6, h7⟩ := h
 exact ⟨⟨fun x hx => ⟨(h1.1 x hx).1, (h1.1 x hx).2.1⟩, fun x hx => ⟨(h2.1 x hx).1.1, (h2.1 x hx).2⟩, fun x hx => ⟨(h3.1 x hx).1, (h3.1 x hx).2.1, (h3.1 x hx).2.2.1⟩, h4⟩, fun w hw => (h5.1 w hw).1, h6, h7⟩
end Gv
