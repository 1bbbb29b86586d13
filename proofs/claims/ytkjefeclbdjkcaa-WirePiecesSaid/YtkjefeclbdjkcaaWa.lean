/- What this file proves: one part of the proof that the law answers true for every input, by an interpreter that is proved sound against the given model. -/
import Derived.Test.YtkjefeclbdjkcaaVc
import Derived.Test.YtkjefeclbdjkcaaWp
import Derived.Test.YtkjefeclbdjkcaaWn
namespace Gv
open Go
/-! ### Walking V texts: loops, lists, numbers -/
variable {C : CallV} {V : Nat → List PV → List PV → Bool}
theorem den_assoc (a b c : VC) (env : Env) : den C V (.seq a (.seq b c)) env = den C V (.seq (.seq a b) c) env := by
  simp only [den]
  cases den C V a env with
  | none => rfl
  | some r => cases r <;> rfl
theorem loopN_congr {f g : Env → Option VEx} (h : ∀ env, f env = g env) : ∀ (n : Nat) (env : Env), loopN f n env = loopN g n env
  | 0, _ => rfl
  | n + 1, env => by
    simp only [loopN, h]
    cases g env with
    | none => rfl
    | some r => cases r <;> first | exact loopN_congr h n _ | rfl
theorem loop_assoc (a b c : VC) (env : Env) : den C V (.loop (.seq a (.seq b c))) env = den C V (.loop (.seq (.seq a b) c)) env := by
  simp only [den]
  exact loopN_congr (fun e => den_assoc a b c e) _ _
abbrev pI (n : Int) : PV := .int .i64 n
theorem i64_idx {k : Nat} (h : k < 4611686018427387904) : IntKind.i64.wrap (k : Int) = k := i64_of (x := (k : Int)) (by omega) (by omega)
theorem add_idx {k : Nat} (h : k < 4611686018427387903) : binI .add .i64 (k : Int) .i64 1 = some (.int .i64 ((k + 1 : Nat) : Int)) := by
  simp only [binI]
  rw [if_neg (by decide), show ((k : Int) + 1) = ((k + 1 : Nat) : Int) from rfl, i64_idx (k := k + 1) (by omega)]
theorem lss_idx (k n : Nat) : binI .lss .i64 (k : Int) .i64 (n : Int) = some (.bool (decide (k < n))) := by simp [binI]
theorem bigN_eq : bigN = 1099511627776 := rfl
/-- A loop over places. -/
theorem for_loop {H BODY : VC} {vi b n : Nat} (hn : n < 1099511627775) (St : Nat → Env → Prop) (Stop : VEx → Prop)
    (hset : ∀ k env v, St k env → St k (env.set vi v))
    (hhead : ∀ k env, k ≤ n → St k env → env vi = .int .i64 (k : Nat) → den C V H env = some (if k < n then .norm env else .exit b env))
    (hbody : ∀ k env, k < n → St k env → env vi = .int .i64 (k : Nat) → ∃ r, den C V BODY env = some r ∧ ((∃ env', r = .norm env' ∧ St (k + 1) env' ∧ env' vi = .int .i64 (k : Nat)) ∨ ((∀ e, r ≠ .norm e) ∧ Stop r))) :
    ∀ {env : Env}, St 0 env → env vi = .int .i64 0 → ∃ r, den C V (.loop (.seq H (.seq BODY (.st [.asg [] [(vi, .bin .add (.v vi) (.int .i64 1))]])))) env = some r ∧ ((∃ env', r = .exit b env' ∧ St n env' ∧ env' vi = .int .i64 (n : Nat)) ∨ ((∀ e, r ≠ .norm e) ∧ Stop r)) := by
  have key : ∀ (d k j : Nat) {env : Env}, k + d = n → St k env → env vi = .int .i64 (k : Nat) → ∃ r, loopN (den C V (.seq H (.seq BODY (.st [.asg [] [(vi, .bin .add (.v vi) (.int .i64 1))]])))) (d + 1 + j) env = some r ∧ ((∃ env', r = .exit b env' ∧ St n env' ∧ env' vi = .int .i64 (n : Nat)) ∨ ((∀ e, r ≠ .norm e) ∧ Stop r)) := by
    intro d
    induction d with
    | zero =>
      intro k j env hk hs hv
      have hkn : k = n := by omega
      subst hkn
      refine ⟨.exit b env, ?_, .inl ⟨env, rfl, hs, hv⟩⟩
      rw [show 0 + 1 + j = j + 1 by omega]
      simp only [loopN, den, hhead k env (Nat.le_refl _) hs hv, Nat.lt_irrefl, if_false]
    | succ d ih =>
      intro k j env hk hs hv
      have hkn : k < n := by omega
      rw [show d + 1 + 1 + j = (d + 1 + j) + 1 by omega]
      obtain ⟨r, hr, hcase⟩ := hbody k env hkn hs hv
      rcases hcase with ⟨env', rfl, hs', hv'⟩ | ⟨hnn, hst⟩
      · obtain ⟨r2, h2, h3⟩ := ih (k + 1) j (env := env'.set vi (.int .i64 ((k + 1 : Nat) : Int))) (by omega) (hset _ _ _ hs') (by simp)
        refine ⟨r2, ?_, h3⟩
        have ha := add_idx (k := k) (by omega)
        simp only [loopN, den, hhead k env (by omega) hs hv, if_pos hkn, hr, runVS, VS.run, allGood, if_true, bindAll, X.ev, hv', obind_some, bin, ha]
        exact h2
      · refine ⟨r, ?_, .inr ⟨hnn, hst⟩⟩
        simp only [loopN, den, hhead k env (by omega) hs hv, if_pos hkn, hr]
        cases r with
        | norm e => exact absurd rfl (hnn e)
        | exit i e => rfl
        | ret x os => rfl
  intro env h0 hv
  obtain ⟨r, h1, h2⟩ := key n 0 (1099511627775 - n) (by omega) h0 hv
  refine ⟨r, ?_, h2⟩
  simp only [den]
  rw [show n + 1 + (1099511627775 - n) = bigN by rw [bigN_eq]; omega] at h1
  exact h1
theorem ia_map {α : Type} {f : α → PV} {sz k : Nat} {xs : List α} {x : α} (h : xs[k]? = some x) (hs : (f x).cells.length = sz) : indexAddrPV sz (.lst (xs.map f) false) (.int .i64 (k : Nat)) = some (.lptr (f x).cells) := by
  have hk : k < xs.length := (List.getElem?_eq_some_iff.1 h).1
  have h1 : (0 : Int) ≤ (k : Int) ∧ (k : Int) < ((xs.map f).length : Int) := by rw [List.length_map]; omega
  have h2 : (xs.map f)[(Int.toNat (k : Int))]? = some (f x) := by rw [Int.toNat_natCast, List.getElem?_map, h]; rfl
  simp only [indexAddrPV]
  rw [if_pos h1, h2]
  simp only
  rw [if_pos hs]
theorem len_map {α : Type} {f : α → PV} {xs : List α} : lenV (.lst (xs.map f) false) = some (.int .i64 (xs.length : Nat)) := by simp [lenV]
end Gv
namespace Gv
open Go
variable {C : CallV} {V : Nat → List PV → List PV → Bool}
/-- 'for .. range', that goes on to its end. -/
theorem range_run {BODY : VC} {vi vn b n : Nat} (hn : n < 1099511627775) (St : Nat → Env → Prop)
    (hset : ∀ k env v, St k env → St k (env.set vi v)) (hvn : ∀ k env, St k env → env vn = .int .i64 (n : Nat))
    (hbody : ∀ k env, k < n → St k env → env vi = .int .i64 (k : Nat) → ∃ env', den C V BODY env = some (.norm env') ∧ St (k + 1) env' ∧ env' vi = .int .i64 (k : Nat))
    {env : Env} (h0 : St 0 env) (hv : env vi = .int .i64 0) :
    ∃ env', den C V (.block b (.loop (.seq (.st [.asg [(.bin .lss (.v vi) (.v vn))] []]) (.seq (.cond (.bin .lss (.v vi) (.v vn)) .skip (.exit b)) (.seq BODY (.st [.asg [] [(vi, .bin .add (.v vi) (.int .i64 1))]])))))) env = some (.norm env') ∧ St n env' := by
  obtain ⟨r, h1, h2⟩ := for_loop (C := C) (V := V) (b := b) (H := .seq (.st [.asg [(.bin .lss (.v vi) (.v vn))] []]) (.cond (.bin .lss (.v vi) (.v vn)) .skip (.exit b))) (BODY := BODY) hn St (fun _ => False) hset
    (fun k env hk hs hv => by
      have h3 := hvn k env hs
      by_cases hkn : k < n
      · simp only [den, runVS, VS.run, allGood, X.ev, hv, h3, obind_some, bin, lss_idx, hkn, decide_true, Option.isSome_some, Bool.true_and, if_true, bindAll]
      · simp only [den, runVS, VS.run, allGood, X.ev, hv, h3, obind_some, bin, lss_idx, hkn, decide_false, Option.isSome_some, Bool.true_and, if_true, bindAll, if_false])
    (fun k env hk hs hv => by
      obtain ⟨e, h3, h4, h5⟩ := hbody k env hk hs hv
      exact ⟨_, h3, .inl ⟨e, rfl, h4, h5⟩⟩) h0 hv
  rcases h2 with ⟨e, rfl, h3, _⟩ | ⟨_, h3⟩
  · refine ⟨e, ?_, h3⟩
    have h4 := (loop_assoc (C := C) (V := V) (.st [.asg [(.bin .lss (.v vi) (.v vn))] []]) (.cond (.bin .lss (.v vi) (.v vn)) .skip (.exit b)) (.seq BODY (.st [.asg [] [(vi, .bin .add (.v vi) (.int .i64 1))]])) env).trans h1
    exact den_block h4
  · exact h3.elim
/-- 'for i := 0; i < ..; i++', that goes on to its end. -/
theorem for_run {BODY : VC} {c : X} {vi b n : Nat} (hn : n < 1099511627775) (St : Nat → Env → Prop)
    (hset : ∀ k env v, St k env → St k (env.set vi v)) (hc : ∀ k env, k ≤ n → St k env → env vi = .int .i64 (k : Nat) → c.ev env = some (.bool (decide (k < n))))
    (hbody : ∀ k env, k < n → St k env → env vi = .int .i64 (k : Nat) → ∃ env', den C V BODY env = some (.norm env') ∧ St (k + 1) env' ∧ env' vi = .int .i64 (k : Nat))
    {env : Env} (h0 : St 0 env) (hv : env vi = .int .i64 0) :
    ∃ env', den C V (.block b (.loop (.seq (.seq (.st [.asg [c] []]) (.cond c .skip (.exit b))) (.seq BODY (.st [.asg [] [(vi, .bin .add (.v vi) (.int .i64 1))]]))))) env = some (.norm env') ∧ St n env' := by
  obtain ⟨r, h1, h2⟩ := for_loop (C := C) (V := V) (b := b) (H := .seq (.st [.asg [c] []]) (.cond c .skip (.exit b))) (BODY := BODY) hn St (fun _ => False) hset
    (fun k env hk hs hv => by
      have h3 := hc k env hk hs hv
      by_cases hkn : k < n
      · simp only [den, runVS, VS.run, allGood, h3, hkn, decide_true, Option.isSome_some, Bool.true_and, if_true, bindAll, obind_some]
      · simp only [den, runVS, VS.run, allGood, h3, hkn, decide_false, Option.isSome_some, Bool.true_and, if_true, bindAll, if_false, obind_some])
    (fun k env hk hs hv => by
      obtain ⟨e, h3, h4, h5⟩ := hbody k env hk hs hv
      exact ⟨_, h3, .inl ⟨e, rfl, h4, h5⟩⟩) h0 hv
  rcases h2 with ⟨e, rfl, h3, _⟩ | ⟨_, h3⟩
  · exact ⟨e, den_block h1, h3⟩
  · exact h3.elim
/-- A comparison of two lists, as it is written: the places that are like so far; unlike ones end it. -/
theorem all_run {HEAD BODY : VC} {vi b n : Nat} (hn : n < 1099511627775) (p : Nat → Bool) (R : PV) (St : Nat → Env → Prop)
    (hset : ∀ k env v, St k env → St k (env.set vi v))
    (hhead : ∀ k env, k ≤ n → St k env → env vi = .int .i64 (k : Nat) → den C V HEAD env = some (if k < n then .norm env else .exit b env))
    (hbody : ∀ k env, k < n → St k env → env vi = .int .i64 (k : Nat) → ∃ r, den C V BODY env = some r ∧ (if p k then ∃ env', r = .norm env' ∧ St (k + 1) env' ∧ env' vi = .int .i64 (k : Nat) else r = .ret R []))
    {env : Env} (h0 : St 0 env) (hv : env vi = .int .i64 0) :
    ∃ r, den C V (.block b (.loop (.seq HEAD (.seq BODY (.st [.asg [] [(vi, .bin .add (.v vi) (.int .i64 1))]]))))) env = some r ∧ (if (∀ k, k < n → p k = true) then ∃ env', r = .norm env' ∧ St n env' else r = .ret R []) := by
  obtain ⟨r, h1, h2⟩ := for_loop (C := C) (V := V) (b := b) (H := HEAD) (BODY := BODY) hn (fun k e => St k e ∧ ∀ j, j < k → p j = true) (fun r => r = .ret R [] ∧ ¬ ∀ k, k < n → p k = true) (fun k env v h => ⟨hset k env v h.1, h.2⟩)
    (fun k env hk hs hv => hhead k env hk hs.1 hv)
    (fun k env hk hs hv => by
      obtain ⟨r, h3, h4⟩ := hbody k env hk hs.1 hv
      cases hp : p k with
      | true =>
        rw [hp, if_pos rfl] at h4
        obtain ⟨e, h5, h6, h7⟩ := h4
        refine ⟨r, h3, .inl ⟨e, h5, ⟨h6, fun j hj => ?_⟩, h7⟩⟩
        by_cases hjk : j = k
        · subst hjk; exact hp
        · exact hs.2 j (by omega)
      | false =>
        rw [hp] at h4
        simp only [Bool.false_eq_true, if_false] at h4
        refine ⟨r, h3, .inr ⟨(fun e he => (by rw [h4] at he; cases he)), h4, (fun h => (by have := h k hk; rw [hp] at this; cases this))⟩⟩) ⟨h0, fun j hj => by omega⟩ hv
  rcases h2 with ⟨e, rfl, ⟨h3, h4⟩, _⟩ | ⟨h3, h4, h5⟩
  · exact ⟨_, den_block h1, by rw [if_pos h4]; exact ⟨e, rfl, h3⟩⟩
  · subst h4
    exact ⟨_, den_block_ret h1, by rw [if_neg h5]⟩
end Gv

namespace Gv
open Go
@[simp] theorem fits_eI (l : List Int) : PV.fits (eI l) none = true := rfl
@[simp] theorem fits_eB (l : List Nat) : PV.fits (eB l) none = true := rfl
@[simp] theorem fits_eCode (l : List SInstr) : PV.fits (eCode l) none = true := rfl
@[simp] theorem cell_eI (l : List Int) : PV.isCell (eI l) = true := rfl
@[simp] theorem cell_eB (l : List Nat) : PV.isCell (eB l) = true := rfl
@[simp] theorem cell_eCode (l : List SInstr) : PV.isCell (eCode l) = true := rfl
@[simp] theorem cells_eI (l : List Int) : PV.cells (eI l) = [eI l] := rfl
@[simp] theorem cells_eB (l : List Nat) : PV.cells (eB l) = [eB l] := rfl
@[simp] theorem cells_eCode (l : List SInstr) : PV.cells (eCode l) = [eCode l] := rfl
theorem fits_int (k : IntKind) (n : Int) : PV.fits (.int k n) none = true := rfl
theorem fits_bool (b : Bool) : PV.fits (.bool b) none = true := rfl
theorem fits_str (b : List UInt8) : PV.fits (.str b) none = true := rfl
theorem fits_lst (l : List PV) (c : Bool) : PV.fits (.lst l c) none = true := rfl
theorem fits_agg (l : List PV) (n : Nat) : PV.fits (.agg l) (some n) = (l.length == n) := rfl
theorem fits_nilp : PV.fits .nilp none = true := rfl
theorem fits_lptr (l : List PV) : PV.fits (.lptr l) none = true := rfl
theorem fits_fn (f : Nat) (l : List PV) : PV.fits (.fn f l) none = true := rfl
theorem cell_int (k : IntKind) (n : Int) : PV.isCell (.int k n) = true := rfl
theorem cell_bool (b : Bool) : PV.isCell (.bool b) = true := rfl
theorem cell_str (b : List UInt8) : PV.isCell (.str b) = true := rfl
theorem cell_lst (l : List PV) (c : Bool) : PV.isCell (.lst l c) = true := rfl
theorem cell_nilp : PV.isCell .nilp = true := rfl
theorem cell_lptr (l : List PV) : PV.isCell (.lptr l) = true := rfl
theorem cell_fn (f : Nat) (l : List PV) : PV.isCell (.fn f l) = true := rfl
theorem cells_int (k : IntKind) (n : Int) : PV.cells (.int k n) = [.int k n] := rfl
theorem cells_bool (b : Bool) : PV.cells (.bool b) = [.bool b] := rfl
theorem cells_lst (l : List PV) (c : Bool) : PV.cells (.lst l c) = [.lst l c] := rfl
theorem cells_agg (l : List PV) : PV.cells (.agg l) = l := rfl
theorem obind_ite {α β : Type} (c : Prop) [Decidable c] (a b : Option α) (f : α → Option β) : obind (if c then a else b) f = if c then obind a f else obind b f := by split <;> rfl
theorem lst1 (a : PV) : PV.lst [a] false = .lst ([a]) false := rfl
theorem eI1 (a : Int) : PV.lst [.int .i64 a] false = eI [a] := rfl
theorem eI2 (a b : Int) : PV.lst [.int .i64 a, .int .i64 b] false = eI [a, b] := rfl
theorem eI3 (a b c : Int) : PV.lst [.int .i64 a, .int .i64 b, .int .i64 c] false = eI [a, b, c] := rfl
theorem eI5 (a b c d e : Int) : PV.lst [.int .i64 a, .int .i64 b, .int .i64 c, .int .i64 d, .int .i64 e] false = eI [a, b, c, d, e] := rfl
theorem eI6 (a b c d e f : Int) : PV.lst [.int .i64 a, .int .i64 b, .int .i64 c, .int .i64 d, .int .i64 e, .int .i64 f] false = eI [a, b, c, d, e, f] := rfl
theorem eB0 : PV.lst [] false = eB [] := rfl
theorem ia_eI {k : Nat} {l : List Int} {x : Int} (h : l[k]? = some x) : indexAddrPV 1 (eI l) (.int .i64 (k : Nat)) = some (.lptr [.int .i64 x]) := ia_map (f := fun n => PV.int .i64 n) h rfl
theorem len_eI {l : List Int} : lenV (eI l) = some (.int .i64 l.length) := len_map
theorem ia_eCode {k : Nat} {l : List SInstr} {x : SInstr} (h : l[k]? = some x) : indexAddrPV 2 (eCode l) (.int .i64 (k : Nat)) = some (.lptr [.int .i64 x.op, .int .i64 x.a]) := ia_map (f := eInstr) h rfl
theorem len_eCode {l : List SInstr} : lenV (eCode l) = some (.int .i64 l.length) := len_map
theorem ia_hs {k : Nat} {l : List SHandler} {x : SHandler} (h : l[k]? = some x) : indexAddrPV 2 (.lst (l.map eHandler) false) (.int .i64 (k : Nat)) = some (.lptr [.int .i64 x.args, eCode x.code]) := ia_map (f := eHandler) h rfl
theorem ia_as {k : Nat} {l : List SActor} {x : SActor} (h : l[k]? = some x) : indexAddrPV 4 (.lst (l.map eActor) false) (.int .i64 (k : Nat)) = some (.lptr [eI x.regs, .int .i64 x.cap, .int .i64 x.timer, .bool x.armed]) := ia_map (f := eActor) h rfl
theorem ia_ns {k : Nat} {l : List SNote} {x : SNote} (h : l[k]? = some x) : indexAddrPV 3 (.lst (l.map eNote) false) (.int .i64 (k : Nat)) = some (.lptr [.int .i64 x.to, .int .i64 x.handler, eI x.args]) := ia_map (f := eNote) h rfl
theorem ia_ws {k : Nat} {l : List (List SInstr)} {x : List SInstr} (h : l[k]? = some x) : indexAddrPV 1 (.lst (l.map eCode) false) (.int .i64 (k : Nat)) = some (.lptr [eCode x]) := ia_map (f := eCode) h rfl
theorem ia_es {k : Nat} {l : List SEvent} {x : SEvent} (h : l[k]? = some x) : indexAddrPV 5 (.lst (l.map eEvent) false) (.int .i64 (k : Nat)) = some (.lptr (cEvent x)) := ia_map (f := eEvent) h rfl
theorem take_snoc {α : Type} {l : List α} {k : Nat} {x : α} (h : l[k]? = some x) : l.take (k + 1) = l.take k ++ [x] := by
  rw [List.take_add_one, h]; rfl
theorem get_lt {α : Type} {l : List α} {k : Nat} (h : k < l.length) : ∃ x, l[k]? = some x ∧ x ∈ l := ⟨l[k], List.getElem?_eq_getElem h, List.getElem_mem h⟩
section
variable {C : CallV} {V : Nat → List PV → List PV → Bool}
theorem nx {a b : VC} {env e : Env} {x : Option VEx} (h : den C V a env = some (.norm e)) (k : den C V b e = x) : den C V (.seq a b) env = x := by rw [den_seq h]; exact k
theorem seq_of {a b : VC} {env : Env} {x : Option VEx} {P : Env → Prop} (h : ∃ e, den C V a env = some (.norm e) ∧ P e) (k : ∀ e, P e → den C V b e = x) : den C V (.seq a b) env = x := by
  obtain ⟨e, h1, h2⟩ := h
  exact nx h1 (k e h2)
theorem ras (a b c : VC) (env : Env) : den C V (.seq (.seq a b) c) env = den C V (.seq a (.seq b c)) env := (den_assoc a b c env).symm
end
/-- What a text of V is reckoned by. -/
theorem vw0 : type_of% (And.intro @den.eq_1 (And.intro @den.eq_2 (And.intro @den.eq_3 (And.intro @den.eq_4 (And.intro @den.eq_5 (And.intro @den.eq_6 (And.intro @den.eq_7 (And.intro @den.eq_8 (And.intro @runVS.eq_1 (And.intro @runVS.eq_2 (And.intro @VS.run.eq_1 (And.intro @VS.run.eq_2 (And.intro @VS.run.eq_3 (And.intro @allGood.eq_1 (And.intro @allGood.eq_2 (And.intro @bindAll.eq_1 (And.intro @bindAll.eq_2 (And.intro @evAll.eq_1 (And.intro @evAll.eq_2 (And.intro @X.ev.eq_1 (And.intro @X.ev.eq_2 (And.intro @X.ev.eq_3 (And.intro @X.ev.eq_4 (And.intro @X.ev.eq_5 (And.intro @X.ev.eq_6 (And.intro @X.ev.eq_7 (And.intro @X.ev.eq_8 (And.intro @X.ev.eq_9 (And.intro @X.ev.eq_10 (@X.ev.eq_11)))))))))))))))))))))))))))))) := (And.intro @den.eq_1 (And.intro @den.eq_2 (And.intro @den.eq_3 (And.intro @den.eq_4 (And.intro @den.eq_5 (And.intro @den.eq_6 (And.intro @den.eq_7 (And.intro @den.eq_8 (And.intro @runVS.eq_1 (And.intro @runVS.eq_2 (And.intro @VS.run.eq_1 (And.intro @VS.run.eq_2 (And.intro @VS.run.eq_3 (And.intro @allGood.eq_1 (And.intro @allGood.eq_2 (And.intro @bindAll.eq_1 (And.intro @bindAll.eq_2 (And.intro @evAll.eq_1 (And.intro @evAll.eq_2 (And.intro @X.ev.eq_1 (And.intro @X.ev.eq_2 (And.intro @X.ev.eq_3 (And.intro @X.ev.eq_4 (And.intro @X.ev.eq_5 (And.intro @X.ev.eq_6 (And.intro @X.ev.eq_7 (And.intro @X.ev.eq_8 (And.intro @X.ev.eq_9 (And.intro @X.ev.eq_10 (@X.ev.eq_11))))))))))))))))))))))))))))))
theorem vw1 : type_of% (And.intro @X.ev.eq_12 (And.intro @X.ev.eq_13 (And.intro @X.ev.eq_14 (And.intro @X.ev.eq_15 (And.intro @X.ev.eq_16 (And.intro @X.ev.eq_17 (And.intro @X.ev.eq_18 (And.intro @X.ev.eq_19 (And.intro @X.ev.eq_20 (And.intro @X.ev.eq_21 (And.intro @X.ev.eq_22 (And.intro @X.ev.eq_23 (And.intro @X.ev.eq_24 (And.intro @X.ev.eq_25 (And.intro @X.ev.eq_26 (And.intro @X.ev.eq_27 (And.intro @X.ev.eq_28 (And.intro @X.ev.eq_29 (And.intro @X.ev.eq_30 (And.intro @X.ev.eq_31 (And.intro @X.ev.eq_32 (And.intro @X.ev.eq_33 (And.intro @X.ev.eq_34 (And.intro @X.ev.eq_35 (And.intro @X.ev.eq_36 (And.intro @X.ev.eq_37 (And.intro @X.ev.eq_38 (And.intro @X.ev.eq_39 (And.intro @guardV.eq_1 (@guardV.eq_2)))))))))))))))))))))))))))))) := (And.intro @X.ev.eq_12 (And.intro @X.ev.eq_13 (And.intro @X.ev.eq_14 (And.intro @X.ev.eq_15 (And.intro @X.ev.eq_16 (And.intro @X.ev.eq_17 (And.intro @X.ev.eq_18 (And.intro @X.ev.eq_19 (And.intro @X.ev.eq_20 (And.intro @X.ev.eq_21 (And.intro @X.ev.eq_22 (And.intro @X.ev.eq_23 (And.intro @X.ev.eq_24 (And.intro @X.ev.eq_25 (And.intro @X.ev.eq_26 (And.intro @X.ev.eq_27 (And.intro @X.ev.eq_28 (And.intro @X.ev.eq_29 (And.intro @X.ev.eq_30 (And.intro @X.ev.eq_31 (And.intro @X.ev.eq_32 (And.intro @X.ev.eq_33 (And.intro @X.ev.eq_34 (And.intro @X.ev.eq_35 (And.intro @X.ev.eq_36 (And.intro @X.ev.eq_37 (And.intro @X.ev.eq_38 (And.intro @X.ev.eq_39 (And.intro @guardV.eq_1 (@guardV.eq_2))))))))))))))))))))))))))))))
theorem vw2 : type_of% (And.intro @listOf.eq_1 (And.intro @listOf.eq_2 (And.intro @toIntV.eq_1 (And.intro @toIntV.eq_2 (And.intro @bin.eq_1 (And.intro @bin.eq_2 (And.intro @bin.eq_3 (And.intro @bin.eq_4 (And.intro @bin.eq_5 (And.intro @bin.eq_6 (And.intro @ldV.eq_1 (And.intro @ldV.eq_2 (And.intro @fldV.eq_1 (And.intro @fldV.eq_2 (And.intro @extV.eq_1 (And.intro @extV.eq_2 (And.intro @loadV.eq_1 (And.intro @loadC.eq_1 (And.intro @loadC.eq_2 (And.intro @okCells.eq_1 (And.intro @okCells.eq_2 (And.intro @chkV.eq_1 (And.intro @fieldAddrPV.eq_1 (And.intro @fieldAddrPV.eq_2 (And.intro @fieldAddrPV.eq_3 (And.intro @Env.sets.eq_1 (And.intro @Env.sets.eq_2 (And.intro @obind_some (And.intro @obind_none (@Env.set_at)))))))))))))))))))))))))))))) := (And.intro @listOf.eq_1 (And.intro @listOf.eq_2 (And.intro @toIntV.eq_1 (And.intro @toIntV.eq_2 (And.intro @bin.eq_1 (And.intro @bin.eq_2 (And.intro @bin.eq_3 (And.intro @bin.eq_4 (And.intro @bin.eq_5 (And.intro @bin.eq_6 (And.intro @ldV.eq_1 (And.intro @ldV.eq_2 (And.intro @fldV.eq_1 (And.intro @fldV.eq_2 (And.intro @extV.eq_1 (And.intro @extV.eq_2 (And.intro @loadV.eq_1 (And.intro @loadC.eq_1 (And.intro @loadC.eq_2 (And.intro @okCells.eq_1 (And.intro @okCells.eq_2 (And.intro @chkV.eq_1 (And.intro @fieldAddrPV.eq_1 (And.intro @fieldAddrPV.eq_2 (And.intro @fieldAddrPV.eq_3 (And.intro @Env.sets.eq_1 (And.intro @Env.sets.eq_2 (And.intro @obind_some (And.intro @obind_none (@Env.set_at))))))))))))))))))))))))))))))
theorem vw3 : type_of% (And.intro @fits_int (And.intro @fits_bool (And.intro @fits_str (And.intro @fits_lst (And.intro @fits_agg (And.intro @fits_nilp (And.intro @fits_lptr (And.intro @fits_fn (And.intro @cell_int (And.intro @cell_bool (And.intro @cell_str (And.intro @cell_lst (And.intro @cell_nilp (And.intro @cell_lptr (And.intro @cell_fn (And.intro @cells_int (And.intro @cells_bool (And.intro @cells_lst (And.intro @cells_agg (And.intro @cells_eI (And.intro @cells_eB (And.intro @cells_eCode (And.intro @fits_eI (And.intro @fits_eB (And.intro @fits_eCode (And.intro @cell_eI (And.intro @cell_eB (And.intro @cell_eCode (And.intro @Option.isSome_some.{0} (@Option.isSome_none.{0})))))))))))))))))))))))))))))) := (And.intro @fits_int (And.intro @fits_bool (And.intro @fits_str (And.intro @fits_lst (And.intro @fits_agg (And.intro @fits_nilp (And.intro @fits_lptr (And.intro @fits_fn (And.intro @cell_int (And.intro @cell_bool (And.intro @cell_str (And.intro @cell_lst (And.intro @cell_nilp (And.intro @cell_lptr (And.intro @cell_fn (And.intro @cells_int (And.intro @cells_bool (And.intro @cells_lst (And.intro @cells_agg (And.intro @cells_eI (And.intro @cells_eB (And.intro @cells_eCode (And.intro @fits_eI (And.intro @fits_eB (And.intro @fits_eCode (And.intro @cell_eI (And.intro @cell_eB (And.intro @cell_eCode (And.intro @Option.isSome_some.{0} (@Option.isSome_none.{0}))))))))))))))))))))))))))))))
theorem vw4 : type_of% (And.intro @List.getElem?_cons_zero.{0} (And.intro @List.getElem?_cons_succ.{0} (And.intro @List.drop_succ_cons.{0} (And.intro @List.drop_zero.{0} (And.intro @List.take_succ_cons.{0} (And.intro @List.take_zero.{0} (And.intro @List.length_cons.{0} (And.intro @List.length_nil.{0} (And.intro @Bool.true_and (And.intro @Bool.false_and (And.intro @Bool.and_true (And.intro @Nat.le_refl (And.intro @Bool.false_eq_true (And.intro @and_self (@and_true))))))))))))))) := (And.intro @List.getElem?_cons_zero.{0} (And.intro @List.getElem?_cons_succ.{0} (And.intro @List.drop_succ_cons.{0} (And.intro @List.drop_zero.{0} (And.intro @List.take_succ_cons.{0} (And.intro @List.take_zero.{0} (And.intro @List.length_cons.{0} (And.intro @List.length_nil.{0} (And.intro @Bool.true_and (And.intro @Bool.false_and (And.intro @Bool.and_true (And.intro @Nat.le_refl (And.intro @Bool.false_eq_true (And.intro @and_self (@and_true)))))))))))))))
end Gv
namespace Gv
open Go
variable {C : CallV} {V : Nat → List PV → List PV → Bool}
theorem all_seq {HEAD BODY K : VC} {vi b n : Nat} {X0 : Option VEx} (hn : n < 1099511627775) (p : Nat → Bool) (R : PV) (St : Nat → Env → Prop) (P : Prop)
    (hset : ∀ k env v, St k env → St k (env.set vi v))
    (hhead : ∀ k env, k ≤ n → St k env → env vi = .int .i64 (k : Nat) → den C V HEAD env = some (if k < n then .norm env else .exit b env))
    (hbody : ∀ k env, k < n → St k env → env vi = .int .i64 (k : Nat) → ∃ r, den C V BODY env = some r ∧ (if p k then ∃ env', r = .norm env' ∧ St (k + 1) env' ∧ env' vi = .int .i64 (k : Nat) else r = .ret R []))
    (hP : (∀ k, k < n → p k = true) ↔ P) (hk : P → ∀ e, St n e → den C V K e = X0) (hr : ¬ P → X0 = some (.ret R []))
    {env : Env} (h0 : St 0 env) (hv : env vi = .int .i64 0) :
    den C V (.seq (.block b (.loop (.seq HEAD (.seq BODY (.st [.asg [] [(vi, .bin .add (.v vi) (.int .i64 1))]]))))) K) env = X0 := by
  obtain ⟨r, h1, h2⟩ := all_run (C := C) (V := V) hn p R St hset hhead hbody h0 hv
  by_cases h : P
  · rw [if_pos (hP.2 h)] at h2
    obtain ⟨e, rfl, h3⟩ := h2
    exact nx h1 (hk h e h3)
  · rw [if_neg (fun h' => h (hP.1 h'))] at h2
    subst h2
    rw [den_seq_ret h1, hr h]
/-- The same, as 'for .. range' is written. -/
theorem all_seqA {BODY K : VC} {vi vn b n : Nat} {X0 : Option VEx} (hn : n < 1099511627775) (p : Nat → Bool) (R : PV) (St : Nat → Env → Prop) (P : Prop)
    (hset : ∀ k env v, St k env → St k (env.set vi v)) (hvn : ∀ k env, St k env → env vn = .int .i64 (n : Nat))
    (hbody : ∀ k env, k < n → St k env → env vi = .int .i64 (k : Nat) → ∃ r, den C V BODY env = some r ∧ (if p k then ∃ env', r = .norm env' ∧ St (k + 1) env' ∧ env' vi = .int .i64 (k : Nat) else r = .ret R []))
    (hP : (∀ k, k < n → p k = true) ↔ P) (hk : P → ∀ e, St n e → den C V K e = X0) (hr : ¬ P → X0 = some (.ret R []))
    {env : Env} (h0 : St 0 env) (hv : env vi = .int .i64 0) :
    den C V (.seq (.block b (.loop (.seq (.st [.asg [(.bin .lss (.v vi) (.v vn))] []]) (.seq (.cond (.bin .lss (.v vi) (.v vn)) .skip (.exit b)) (.seq BODY (.st [.asg [] [(vi, .bin .add (.v vi) (.int .i64 1))]])))))) K) env = X0 := by
  have e : ∀ env, den C V (.block b (.loop (.seq (.st [.asg [(.bin .lss (.v vi) (.v vn))] []]) (.seq (.cond (.bin .lss (.v vi) (.v vn)) .skip (.exit b)) (.seq BODY (.st [.asg [] [(vi, .bin .add (.v vi) (.int .i64 1))]])))))) env =
      den C V (.block b (.loop (.seq (.seq (.st [.asg [(.bin .lss (.v vi) (.v vn))] []]) (.cond (.bin .lss (.v vi) (.v vn)) .skip (.exit b))) (.seq BODY (.st [.asg [] [(vi, .bin .add (.v vi) (.int .i64 1))]]))))) env := fun env => by
    have := loop_assoc (C := C) (V := V) (.st [.asg [(.bin .lss (.v vi) (.v vn))] []]) (.cond (.bin .lss (.v vi) (.v vn)) .skip (.exit b)) (.seq BODY (.st [.asg [] [(vi, .bin .add (.v vi) (.int .i64 1))]])) env
    rw [den.eq_def, den.eq_def C V (.block b _)]
    simp only
    rw [this]
  have key := all_seq (C := C) (V := V) (K := K) (X0 := X0) (b := b) (HEAD := .seq (.st [.asg [(.bin .lss (.v vi) (.v vn))] []]) (.cond (.bin .lss (.v vi) (.v vn)) .skip (.exit b))) hn p R St P hset
    (fun k env hk hs hv => by
      have h3 := hvn k env hs
      by_cases hkn : k < n
      · simp only [den, runVS, VS.run, allGood, X.ev, hv, h3, obind_some, bin, lss_idx, hkn, decide_true, Option.isSome_some, Bool.true_and, if_true, bindAll]
      · simp only [den, runVS, VS.run, allGood, X.ev, hv, h3, obind_some, bin, lss_idx, hkn, decide_false, Option.isSome_some, Bool.true_and, if_true, bindAll, if_false]) hbody hP hk hr h0 hv
  rw [← key, den.eq_def, den.eq_def C V (.seq _ K)]
  simp only
  rw [e]
theorem get_eq {α : Type} {a b : List α} (hl : a.length = b.length) : (∀ k, k < a.length → a[k]? = b[k]?) ↔ a = b := by
  constructor
  · intro h
    apply List.ext_getElem?
    intro i
    by_cases hi : i < a.length
    · exact h i hi
    · rw [List.getElem?_eq_none (by omega), List.getElem?_eq_none (by omega)]
  · rintro rfl k _; rfl
end Gv

namespace Gv
open Go
theorem appB {l m : List Nat} (h : l.length + m.length < 2147483648) : appV 1 (eB l) (eB m) = some (eB (l ++ m)) := app_bytes h
theorem nb_len' (k u : Nat) : (nb k u).length ≤ k := by
  induction k generalizing u with
  | zero => simp [nb]
  | succ k ih =>
    simp only [nb]
    split
    · simp only [List.length_cons]; have := ih (u / 128); omega
    · simp
theorem number_len (n : Int) : (number n).length ≤ 10 := nb_len' _ _
theorem enN_len (l : List Int) : (enN l).length ≤ 10 * l.length := by
  induction l with
  | nil => simp [enN]
  | cons x l ih => simp only [enN, List.flatMap_cons, List.length_append, List.length_cons] at ih ⊢; have := number_len x; omega
theorem enN_app (l m : List Int) : enN (l ++ m) = enN l ++ enN m := by simp [enN]
theorem enN_cons (x : Int) (m : List Int) : enN (x :: m) = number x ++ enN m := by simp [enN]
theorem enN_nil : enN [] = [] := rfl
theorem flatMap_len {α : Type} {f : α → List Nat} {B : Nat} : ∀ {l : List α}, (∀ x ∈ l, (f x).length ≤ B) → (l.flatMap f).length ≤ B * l.length
  | [], _ => by simp
  | x :: l, h => by
    have h1 := h x (List.mem_cons_self ..)
    have h2 := flatMap_len (l := l) (fun y hy => h y (List.mem_cons_of_mem _ hy))
    simp only [List.flatMap_cons, List.length_append, List.length_cons, Nat.mul_succ]; omega
theorem take_flat {α : Type} (f : α → List Nat) (l : List α) (k : Nat) : ((l.take k).flatMap f).length ≤ (l.flatMap f).length := by
  induction l generalizing k with
  | nil => simp
  | cons x l ih =>
    cases k with
    | zero => simp
    | succ k => simp only [List.take_succ_cons, List.flatMap_cons, List.length_append]; have := ih k; omega
theorem len64 {α : Type} {l : List α} (h : l.length < 1000000000) : I64 (l.length : Int) := by constructor <;> omega
variable {C : CallV} {V : Nat → List PV → List PV → Bool}
theorem number_pos (n : Int) : 1 ≤ (number n).length := by
  show 1 ≤ (nb 10 (zz n)).length
  rw [nb]; split <;> simp
theorem flat_ge {α : Type} {f : α → List Nat} (h : ∀ x, 1 ≤ (f x).length) : ∀ (l : List α), l.length ≤ (l.flatMap f).length
  | [] => by simp
  | x :: l => by
    have h1 := h x
    have h2 := flat_ge h l
    simp only [List.flatMap_cons, List.length_append, List.length_cons]; omega
theorem take_step {α : Type} (f : α → List Nat) {l : List α} {k : Nat} {x : α} (h : l[k]? = some x) : (l.take (k + 1)).flatMap f = (l.take k).flatMap f ++ f x ∧ ((l.take k).flatMap f).length + (f x).length ≤ (l.flatMap f).length := by
  have h1 : (l.take (k + 1)).flatMap f = (l.take k).flatMap f ++ f x := by rw [take_snoc h]; simp
  exact ⟨h1, by have := take_flat f l (k + 1); rw [h1, List.length_append] at this; exact this⟩
theorem enN_eq (l : List Int) : enN l = l.flatMap number := rfl
theorem enN_ge (l : List Int) : l.length ≤ (enN l).length := flat_ge number_pos l
def CNumW (C : CallV) : Prop := ∀ n : Int, I64 n → C 11 [.int .i64 n] = some (eB (number n), [])
theorem wput_loop (hN : CNumW C) {l : List Int} (hl : ∀ n ∈ l, I64 n) {b : List Nat} (hb : b.length + (enN l).length < 2147483648) {env : Env} (h7 : env 7 = eI l) (h8 : env 8 = .int .i64 l.length) (h9 : env 9 = .int .i64 0) (h0 : env 0 = eB b) :
    ∃ env', den C V (.block 0 (.loop v_wire_put_L1)) env = some (.norm env') ∧ env' 0 = eB (b ++ enN l) := by
  let St : Nat → Env → Prop := fun k e => e 7 = eI l ∧ e 8 = .int .i64 l.length ∧ e 0 = eB (b ++ (l.take k).flatMap number)
  obtain ⟨e, h1, h2⟩ : ∃ e, den C V (.block 0 (.loop v_wire_put_L1)) env = some (.norm e) ∧ St l.length e := by
    refine range_run (St := St) (by have := enN_ge l; omega) (fun k e v h => by simpa [St] using h) (fun k e h => h.2.1) (fun k e hk ⟨g7, g8, g0⟩ g9 => ?_) ⟨h7, h8, by simpa using h0⟩ h9
    obtain ⟨x, hx, hm⟩ := get_lt hk
    obtain ⟨t1, t2⟩ := take_step number hx
    have ha := appB (l := b ++ (l.take k).flatMap number) (m := number x) (by simp only [List.length_append]; rw [enN_eq] at hb; omega)
    refine ⟨_, by simp only [vw0, vw1, vw2, vw3, vw4, ↓reduceIte, reduceCtorEq, g7, g9, g0, ia_eI hx, hN x (hl x hm), ha]; rfl, ⟨by simp [g7], by simp [g8], by simp [t1]⟩, by simp [g9]⟩
  exact ⟨e, h1, by simpa [enN_eq] using h2.2.2⟩
theorem wput_V {m : Nat} {l : List Int} (hl : ∀ n ∈ l, I64 n) {b : List Nat} (hb : b.length + (enN l).length < 2147483648) : callV tVT (m + 2) 48 [eB b, eI l] = some (eB (b ++ enN l), []) := by
  refine callV_of (F := v_wire_put) rfl rfl rfl ?_ (.inl rfl)
  have hN : CNumW (callV tVT (m + 1)) := fun n h => number_V h.1 h.2
  generalize callV tVT (m + 1) = C at hN
  generalize vTab tVT = V
  refine nx (by simp only [vw0]; rfl) ?_
  rw [ras]
  refine nx (by simp only [vw0, vw1, vw2, ↓reduceIte]; rfl) ?_
  refine seq_of (wput_loop hN hl hb (by simp [Env.ofArgs_at]) (by simp) (by simp) (by simp [Env.ofArgs_at])) fun e h0 => ?_
  simp only [vw0, vw2, ↓reduceIte, h0]
/-- Numbers put behind bytes. -/
def CPut (C : CallV) (f : Nat) : Prop := ∀ (l : List Int) (b : List Nat), (∀ n ∈ l, I64 n) → b.length + (enN l).length < 2147483648 → C f [eB b, eI l] = some (eB (b ++ enN l), [])
theorem rput_V {m : Nat} : CPut (callV tVT (m + 2)) 51 := by
  intro l b hl hb
  refine callV_of (F := v_ref20_put) rfl rfl rfl ?_ (.inl rfl)
  have hN : ∀ n : Int, I64 n → callV tVT (m + 1) 14 [.int .i64 n] = some (eB (number n), []) := fun n h => numberR_V h.1 h.2
  generalize callV tVT (m + 1) = C at hN
  generalize vTab tVT = V
  refine nx (by simp only [vw0]; rfl) ?_
  rw [ras]
  refine nx (by simp only [vw0, vw2, ↓reduceIte]; rfl) ?_
  let St : Nat → Env → Prop := fun k e => e 1 = eI l ∧ e 0 = eB (b ++ (l.take k).flatMap number)
  refine seq_of (P := St l.length) (for_run (St := St) (by have := enN_ge l; omega) (fun k e v h => by simpa [St] using h) (fun k e hk h hv => by simp only [vw0, vw1, vw2, h.1, hv, len_eI, lss_idx]) (fun k e hk ⟨g1, g0⟩ g5 => ?_) ⟨by simp [Env.ofArgs_at], by simp [Env.ofArgs_at]⟩ (by simp)) fun e h0 => ?_
  · obtain ⟨x, hx, hm⟩ := get_lt hk
    obtain ⟨t1, t2⟩ := take_step number hx
    have ha := appB (l := b ++ (l.take k).flatMap number) (m := number x) (by simp only [List.length_append]; rw [enN_eq] at hb; omega)
    refine ⟨_, by simp only [vw0, vw1, vw2, vw3, vw4, ↓reduceIte, reduceCtorEq, g1, g5, g0, ia_eI hx, hN x (hl x hm), ha]; rfl, ⟨by simp [g1], by simp [t1]⟩, by simp [g5]⟩
  · simp only [vw0, vw2, ↓reduceIte, h0.2, List.take_length, ← enN_eq]
theorem wput_C {m : Nat} : CPut (callV tVT (m + 2)) 48 := fun l b hl hb => wput_V hl hb
theorem enCode_eq (l : List SInstr) : enCode l = enN [(l.length : Int)] ++ l.flatMap enInstr := by simp [enCode, enN]
theorem enInstr_eq (i : SInstr) : enInstr i = enN [i.op, i.a] := by simp [enInstr, enN]
theorem enN1_ge (n : Int) : 1 ≤ (enN [n]).length := by simp [enN]; exact number_pos n
theorem enInstr_pos (i : SInstr) : 1 ≤ (enInstr i).length := by rw [enInstr, List.length_append]; have := number_pos i.op; omega
def CCode (C : CallV) (f : Nat) : Prop := ∀ (l : List SInstr) (b : List Nat), (∀ i ∈ l, i.ok) → b.length + (enCode l).length < 2147483648 → C f [eB b, eCode l] = some (eB (b ++ enCode l), [])
theorem i64_len {α : Type} {f : α → List Nat} (hf : ∀ x, 1 ≤ (f x).length) {l : List α} {n : Nat} (h : n + (l.flatMap f).length < 2147483648) : ∀ x ∈ [(l.length : Int)], I64 x := by
  have := flat_ge hf l
  intro x hx
  simp only [List.mem_singleton] at hx
  subst hx
  exact ⟨by omega, by omega⟩
theorem mem2 {a b : Int} (ha : I64 a) (hb : I64 b) : ∀ n ∈ [a, b], I64 n := fun n hn => by
  simp only [List.mem_cons, List.not_mem_nil, or_false] at hn
  rcases hn with rfl | rfl <;> assumption
theorem mem1 {a : Int} (ha : I64 a) : ∀ n ∈ [a], I64 n := fun n hn => by
  simp only [List.mem_cons, List.not_mem_nil, or_false] at hn
  subst hn; exact ha
theorem mem3 {a b c : Int} (ha : I64 a) (hb : I64 b) (hc : I64 c) : ∀ n ∈ [a, b, c], I64 n := fun n hn => by
  simp only [List.mem_cons, List.not_mem_nil, or_false] at hn
  rcases hn with rfl | rfl | rfl <;> assumption
end Gv

namespace Gv
open Go
variable {C : CallV} {V : Nat → List PV → List PV → Bool}
theorem flag64 (x : Bool) : I64 (flagI x) := by cases x <;> constructor <;> decide
theorem enEvent_pos (e : SEvent) : 1 ≤ (enEvent e).length := by rw [enEvent, enN_cons, List.length_append]; have := number_pos e.kind; omega
theorem mem5 {a b c d e : Int} (ha : I64 a) (hb : I64 b) (hc : I64 c) (hd : I64 d) (he : I64 e) : ∀ n ∈ [a, b, c, d, e], I64 n := fun n hn => by
  simp only [List.mem_cons, List.not_mem_nil, or_false] at hn
  rcases hn with rfl | rfl | rfl | rfl | rfl <;> assumption
theorem mem6 {a b c d e f : Int} (ha : I64 a) (hb : I64 b) (hc : I64 c) (hd : I64 d) (he : I64 e) (hf : I64 f) : ∀ n ∈ [a, b, c, d, e, f], I64 n := fun n hn => by
  simp only [List.mem_cons, List.not_mem_nil, or_false] at hn
  rcases hn with rfl | rfl | rfl | rfl | rfl | rfl <;> assumption
theorem ev_ok {e : SEvent} (h : e.ok) : ∀ n ∈ [e.kind, e.id.frm, e.id.n, e.id.copy, e.who], I64 n := mem5 h.1 h.2.1.1 h.2.1.2.1 h.2.1.2.2 h.2.2
theorem enPath_eq (l : List SEvent) : enPath l = enN [(l.length : Int)] ++ l.flatMap enEvent := by simp [enPath, enN]
theorem number_eq (n : Int) : number n = enN [n] := by simp [enN]
/-- The bytes of a schedule, as both give them. -/
def outPath (l : List SEvent) : PV := if 1000 < l.length then .tup [eB [], .int .i64 3] else .tup [eB (enPath l), .int .i64 0]
theorem len_eE {l : List SEvent} : lenV (eEvents l) = some (.int .i64 l.length) := len_map
theorem ia_eE {k : Nat} {l : List SEvent} {x : SEvent} (h : l[k]? = some x) : indexAddrPV 5 (eEvents l) (.int .i64 (k : Nat)) = some (.lptr [.int .i64 x.kind, .int .i64 x.id.frm, .int .i64 x.id.n, .int .i64 x.id.copy, .int .i64 x.who]) := ia_es h
theorem gtr_idx (k n : Nat) : binI .gtr .i64 (k : Int) .i64 (n : Int) = some (.bool (decide (n < k))) := by simp [binI]
theorem enEvent_len (e : SEvent) : (enEvent e).length ≤ 50 := by have := enN_len [e.kind, e.id.frm, e.id.n, e.id.copy, e.who]; simpa [enEvent] using this
end Gv

namespace Gv
open Go
variable {C : CallV} {V : Nat → List PV → List PV → Bool}
theorem wPath_V {m : Nat} {l : List SEvent} (hl : ∀ e ∈ l, e.ok) (hlen : l.length < 1000000) : callV tVT (m + 3) 24 [eEvents l] = some (outPath l, []) := by
  refine callV_of (F := v_wire_Path) rfl rfl rfl ?_ (.inl rfl)
  have hP : CPut (callV tVT (m + 2)) 48 := wput_C
  generalize callV tVT (m + 2) = C at hP
  generalize vTab tVT = V
  have hgt : binI .gtr .i64 (l.length : Int) .i64 1000 = some (.bool (decide (1000 < l.length))) := gtr_idx l.length 1000
  refine nx (by simp only [vw0]; rfl) ?_
  by_cases hc : 1000 < l.length
  · refine den_seq_ret ?_
    simp only [vw0, vw1, vw2, vw3, vw4, ↓reduceIte, Nat.reduceEqDiff, Env.ofArgs_at, Option.getD_some, len_eE, hgt, hc, decide_true, outPath, eB0]
  · refine nx (by simp only [vw0, vw1, vw2, vw3, vw4, ↓reduceIte, Env.ofArgs_at, Option.getD_some, len_eE, hgt, hc, decide_false]; rfl) ?_
    have hfl := flatMap_len (f := enEvent) (l := l) (B := 50) fun x _ => enEvent_len x
    have hp := hP [(l.length : Int)] [] (mem1 ⟨by omega, by omega⟩) (by have := enN_len [(l.length : Int)]; simp only [List.length_cons, List.length_nil] at *; omega)
    refine nx (by simp only [vw0, vw1, vw2, vw3, vw4, ↓reduceIte, Env.ofArgs_at, Option.getD_some, len_eE, eB0, eI1, hp]; rfl) ?_
    rw [ras]
    refine nx (by simp only [vw0, vw1, vw2, vw4, ↓reduceIte, reduceCtorEq, Env.ofArgs_at, Option.getD_some, len_eE]; rfl) ?_
    let St : Nat → Env → Prop := fun k e => e 14 = eEvents l ∧ e 15 = .int .i64 l.length ∧ e 4 = eB (([] ++ enN [(l.length : Int)]) ++ (l.take k).flatMap enEvent)
    refine seq_of (P := St l.length) (range_run (St := St) (by omega) (fun k e v h => by simpa [St] using h) (fun k e h => h.2.1) (fun k e hk ⟨g1, g2, g0⟩ g5 => ?_) ⟨by simp, by simp, by simp⟩ (by simp)) fun e h0 => ?_
    · obtain ⟨x, hx, hm⟩ := get_lt hk
      obtain ⟨t1, t2⟩ := take_step enEvent hx
      have ha := hP [x.kind, x.id.frm, x.id.n, x.id.copy, x.who] (([] ++ enN [(l.length : Int)]) ++ (l.take k).flatMap enEvent) (ev_ok (hl x hm)) (by have := enN_len [(l.length : Int)]; have := enEvent_len x; rw [enEvent] at this; simp only [List.length_append, List.length_cons, List.length_nil] at *; omega)
      refine ⟨_, by simp only [vw0, vw1, vw2, vw3, vw4, ↓reduceIte, Nat.reduceEqDiff, Nat.reduceAdd, beq_self_eq_true, g1, g5, g0, ia_eE hx, eI5, ha]; rfl, ⟨by simp [g1], by simp [g2], by simp [t1, enEvent]⟩, by simp [g5]⟩
    · simp only [vw0, vw1, vw2, ↓reduceIte, Nat.reduceEqDiff, h0.2.2, List.take_length, outPath, hc, enPath_eq, List.nil_append]
theorem rpath_V {m : Nat} {l : List SEvent} (hl : ∀ e ∈ l, e.ok) (hlen : l.length < 1000000) : callV tVT (m + 3) 70 [eB [], eEvents l] = some (eB (enPath l), []) := by
  rw [enPath_eq]
  refine callV_of (F := v_ref20_path) rfl rfl rfl ?_ (.inl rfl)
  have hP : CPut (callV tVT (m + 2)) 51 := rput_V
  generalize callV tVT (m + 2) = C at hP
  generalize vTab tVT = V
  have hfl := flatMap_len (f := enEvent) (l := l) (B := 50) fun x _ => enEvent_len x
  have hp := hP [(l.length : Int)] [] (mem1 ⟨by omega, by omega⟩) (by have := enN_len [(l.length : Int)]; simp only [List.length_cons, List.length_nil] at *; omega)
  refine nx (by simp only [vw0, vw1, vw2, vw3, vw4, ↓reduceIte, Env.ofArgs_at, Option.getD_some, len_eE, eI1, hp]; rfl) ?_
  rw [ras]
  refine nx (by simp only [vw0, vw2, ↓reduceIte]; rfl) ?_
  let St : Nat → Env → Prop := fun k e => e 1 = eEvents l ∧ e 0 = eB (([] ++ enN [(l.length : Int)]) ++ (l.take k).flatMap enEvent)
  refine seq_of (P := St l.length) (for_run (St := St) (by omega) (fun k e v h => by simpa [St] using h) (fun k e hk h hv => by simp only [vw0, vw1, vw2, h.1, hv, len_eE, lss_idx]) (fun k e hk ⟨g1, g0⟩ g5 => ?_) ⟨by simp [Env.ofArgs_at], by simp⟩ (by simp)) fun e h0 => ?_
  · obtain ⟨x, hx, hm⟩ := get_lt hk
    obtain ⟨t1, t2⟩ := take_step enEvent hx
    have ha := hP [x.kind, x.id.frm, x.id.n, x.id.copy, x.who] (([] ++ enN [(l.length : Int)]) ++ (l.take k).flatMap enEvent) (ev_ok (hl x hm)) (by have := enN_len [(l.length : Int)]; have := enEvent_len x; rw [enEvent] at this; simp only [List.length_append, List.length_cons, List.length_nil] at *; omega)
    refine ⟨_, by simp only [vw0, vw1, vw2, vw3, vw4, ↓reduceIte, g1, g5, g0, ia_eE hx, eI5, ha]; rfl, ⟨by simp [g1], by simp [t1, enEvent]⟩, by simp [g5]⟩
  · simp only [vw0, vw2, ↓reduceIte, h0.2, List.take_length, List.nil_append]
theorem rPath_V {m : Nat} {l : List SEvent} (hl : ∀ e ∈ l, e.ok) (hlen : l.length < 1000000) : callV tVT (m + 4) 25 [eEvents l] = some (outPath l, []) := by
  refine callV_of (F := v_ref20_Path) rfl rfl rfl ?_ (.inl rfl)
  have hp := rpath_V (m := m) hl hlen
  generalize callV tVT (m + 3) = C at hp
  generalize vTab tVT = V
  have hgt : binI .gtr .i64 (l.length : Int) .i64 1000 = some (.bool (decide (1000 < l.length))) := gtr_idx l.length 1000
  refine nx (by simp only [vw0]; rfl) ?_
  by_cases hc : 1000 < l.length
  · refine den_seq_ret ?_
    simp only [vw0, vw1, vw2, vw3, vw4, ↓reduceIte, Nat.reduceEqDiff, Env.ofArgs_at, Option.getD_some, len_eE, hgt, hc, decide_true, outPath, eB0]
  · refine nx (by simp only [vw0, vw1, vw2, vw3, vw4, ↓reduceIte, Env.ofArgs_at, Option.getD_some, len_eE, hgt, hc, decide_false]; rfl) ?_
    simp only [vw0, vw1, vw2, vw4, ↓reduceIte, Nat.reduceEqDiff, Env.ofArgs_at, Option.getD_some, eB0, hp, outPath, hc]
end Gv

namespace Gv
open Go
variable {C : CallV} {V : Nat → List PV → List PV → Bool}
def BO (b : List Nat) : Prop := (∀ x ∈ b, x < 256) ∧ b.length < 1000000000
theorem BO.bok {b : List Nat} (h : BO b) : BOk b := ⟨h.1, by have := h.2; omega⟩
theorem BO.suf {a b : List Nat} (h : ∃ p, a = p ++ b) (ha : BO a) : BO b := by
  obtain ⟨p, rfl⟩ := h
  have := ha.2
  rw [List.length_append] at this
  exact ⟨fun x hx => ha.1 x (List.mem_append_right _ hx), by omega⟩
def eR (s : RS) : PV := .lptr [eB s.1, .bool s.2]
theorem dropB {b : List Nat} {k : Nat} (h : k ≤ b.length) : sliceV 1 (eB b) (.int .i64 (k : Nat)) (.tup []) (.tup []) = some (eB (b.drop k)) := by
  have hb : ((0 : Int) ≤ (k : Int)) := by omega
  have h1 : optV (.int .i64 (k : Nat)) = some (some (.int .i64 (k : Nat))) := rfl
  have h2 : optV (.tup []) = some none := rfl
  simp only [sliceV, h1, h2, eB]
  rw [if_neg (by simp)]
  simp only [sliceLst, optNat, asNat, if_pos hb, Int.toNat_natCast]
  rw [if_pos ⟨by rw [bytesV_len]; exact h, Nat.le_refl _, Nat.le_refl _, lstSz_bytes b⟩]
  have e : ((bytesV b).drop k).take ((bytesV b).length - k) = bytesV (b.drop k) := by
    rw [List.take_of_length_le (by rw [List.length_drop]; exact Nat.le_refl _)]
    simp [bytesV, List.map_drop]
  rw [e]
  simp [nrm, nrmL_bytes]
theorem len_eB {b : List Nat} : lenV (eB b) = some (.int .i64 b.length) := lenV_bytes b
theorem neqI {a b : Int} : binI .neq .i64 a .i64 b = some (.bool (a != b)) := by simp [binI]
theorem eqlI {a b : Int} : binI .eql .i64 a .i64 b = some (.bool (a == b)) := by simp [binI]
def CTake (C : CallV) : Prop := ∀ b : List Nat, BO b → C 12 [eB b] = some (outT (takeW b 0 0), [])
theorem ctake {m : Nat} : CTake (callV tVT (m + 1)) := fun b h => take_V h.1 (by have := h.2; omega)
theorem rdNum_V {m : Nat} {s : RS} (hs : BO s.1) : callV tVT (m + 2) 58 [eR s] = some (.int .i64 (rNum s).1, [eR (rNum s).2]) := by
  refine callV_of (F := v_wire_Reader_Num) rfl rfl rfl ?_ (.inr rfl)
  have hT := ctake (m := m) s.1 hs
  generalize callV tVT (m + 1) = C at hT
  generalize vTab tVT = V
  obtain ⟨b, bad⟩ := s
  simp only [eR] at hT ⊢
  unfold rNum
  cases ht : takeW b 0 0 with
  | none =>
    rw [ht] at hT
    simp only [outT, noneT] at hT
    refine nx (by simp only [vw0, vw1, vw2, vw3, vw4, ↓reduceIte, Env.ofArgs_at, Option.getD_some, hT]; rfl) ?_
    cases bad <;> simp only [vw0, vw1, vw2, vw3, vw4, ↓reduceIte, Nat.reduceEqDiff, reduceCtorEq, neqI, show ((2 : Int) != 0) = true from rfl]
  | some p =>
    obtain ⟨u, k⟩ := p
    rw [ht] at hT
    simp only [outT, someT] at hT
    have hd := dropB (b := b) (k := k) (by have := (takeW_bd _ _ _ _ _ ht).2; omega)
    refine nx (by simp only [vw0, vw1, vw2, vw3, vw4, ↓reduceIte, Env.ofArgs_at, Option.getD_some, hT]; rfl) ?_
    cases bad <;> simp only [vw0, vw1, vw2, vw3, vw4, ↓reduceIte, Nat.reduceEqDiff, reduceCtorEq, neqI, show ((0 : Int) != 0) = false from rfl, hd]
theorem lss0 {n : Int} : binI .lss .i64 n .i64 0 = some (.bool (decide (n < 0))) := by simp [binI]
theorem gtrI {a b : Int} : binI .gtr .i64 a .i64 b = some (.bool (decide (b < a))) := by simp [binI]
theorem rNum_suf {s : RS} (hs : BO s.1) : BO (rNum s).2.1 := hs.suf (rNum_dec.suf s)
theorem rdCount_V {m : Nat} {s : RS} (hs : BO s.1) : callV tVT (m + 3) 56 [eR s] = some (.int .i64 (rCount s).1, [eR (rCount s).2]) := by
  refine callV_of (F := v_wire_Reader_Count) rfl rfl rfl ?_ (.inr rfl)
  have hN := rdNum_V (m := m) hs
  generalize callV tVT (m + 2) = C at hN
  generalize vTab tVT = V
  have hz := rNum_dec.okr s hs.bok
  unfold rCount
  generalize rNum s = r at *
  obtain ⟨n, b, bad⟩ := r
  obtain ⟨b0, bad0⟩ := s
  simp only [eR] at hN ⊢
  refine nx (by simp only [vw0, vw1, vw2, vw3, vw4, ↓reduceIte, Nat.reduceEqDiff, Nat.reduceAdd, Env.ofArgs_at, Option.getD_some, hN]; rfl) ?_
  cases bad with
  | true => simp only [vw0, vw1, vw2, vw3, vw4, ↓reduceIte, Nat.reduceEqDiff, reduceCtorEq, true_or]; rfl
  | false =>
    by_cases h1 : n < 0
    · simp only [vw0, vw1, vw2, vw3, vw4, ↓reduceIte, Nat.reduceEqDiff, reduceCtorEq, lss0, h1, decide_true, true_or, or_true]; rfl
    · by_cases h2 : (b.length : Int) < n
      · simp only [vw0, vw1, vw2, vw3, vw4, ↓reduceIte, Nat.reduceEqDiff, lss0, h1, decide_false, len_eB, gtrI, h2, decide_true, or_true]
        simp
      · simp only [vw0, vw1, vw2, vw3, vw4, ↓reduceIte, Nat.reduceEqDiff, lss0, h1, decide_false, len_eB, gtrI, h2]
        simp
        omega
theorem rdGood_V {m : Nat} {s : RS} : callV tVT (m + 1) 59 [eR s] = some (.bool (!s.2 && decide (s.1 = [])), [eR s]) := by
  refine callV_of (F := v_wire_Reader_Good) rfl rfl rfl ?_ (.inr rfl)
  obtain ⟨b, bad⟩ := s
  simp only [eR]
  cases bad with
  | true => simp only [vw0, vw1, vw2, vw3, vw4, ↓reduceIte, Nat.reduceEqDiff, v_wire_Reader_Good, Env.ofArgs_at, Option.getD_some, un, Bool.not_true]
  | false =>
    simp only [vw0, vw1, vw2, vw3, vw4, ↓reduceIte, Nat.reduceEqDiff, v_wire_Reader_Good, Env.ofArgs_at, Option.getD_some, un, Bool.not_false, len_eB, eqlI]
    cases b <;> simp <;> omega
/-- A list read: each element by f. -/
theorem rAcc_BO {α : Type} {f : RS → α × RS} (hf : ∀ s, ∃ p, s.1 = p ++ (f s).2.1) {n : Nat} {s : RS} (h : BO s.1) : BO (rAcc f n s).2.1 := h.suf (rAcc_suf hf n s)
theorem rCount_BO {s : RS} (h : BO s.1) : BO (rCount s).2.1 := h.suf (rCount_suf s)
theorem rCount_lt {s : RS} (h : BO s.1) : (rCount s).1 < 1000000000 := by have := rCount_le s; have := (rCount_BO h).2; omega
theorem app_eI {l m : List Int} (h : l.length + m.length < 2147483648) : appV 1 (eI l) (eI m) = some (eI (l ++ m)) := by
  have hc : sized 1 (m.map fun n => PV.int .i64 n) = true ∧ (l.map fun n => PV.int .i64 n).length + (m.map fun n => PV.int .i64 n).length < maxNew := ⟨by
    clear h
    induction m with
    | nil => rfl
    | cons x m ih => show (1 == 1 && _) = true; rw [ih]; rfl, by simpa [maxNew] using h⟩
  simp only [eI, appV]
  rw [if_pos hc, List.map_append]
theorem app_map {α : Type} {f : α → PV} {sz : Nat} (hf : ∀ x, (f x).cells.length = sz) {l m : List α} (h : l.length + m.length < 2147483648) : appV sz (.lst (l.map f) false) (.lst (m.map f) false) = some (.lst ((l ++ m).map f) false) := by
  have hc : sized sz (m.map f) = true ∧ (l.map f).length + (m.map f).length < maxNew := ⟨by
    clear h
    induction m with
    | nil => rfl
    | cons x m ih => simp only [List.map_cons, sized, hf, beq_self_eq_true, Bool.true_and]; exact ih, by simpa [maxNew] using h⟩
  simp only [appV]
  rw [if_pos hc, List.map_append]
theorem app_ev {l : List SEvent} {x : SEvent} (h : l.length < 1000000000) : appV 5 (eEvents l) (.lst [eEvent x] false) = some (eEvents (l ++ [x])) := app_map (f := eEvent) (m := [x]) (fun _ => rfl) (by simp; omega)
theorem app_ins {l : List SInstr} {x : SInstr} (h : l.length < 1000000000) : appV 2 (eCode l) (.lst [eInstr x] false) = some (eCode (l ++ [x])) := app_map (f := eInstr) (m := [x]) (fun _ => rfl) (by simp; omega)
def CRNum (C : CallV) (f : Nat) : Prop := ∀ s : RS, BO s.1 → C f [.lptr [eB s.1, .bool s.2]] = some (.int .i64 (rNum s).1, [.lptr [eB (rNum s).2.1, .bool (rNum s).2.2]])
theorem lss_cast (k n : Nat) : binI .lss .i64 (k : Int) .i64 (n : Int) = some (.bool (decide (k < n))) := lss_idx k n
end Gv

namespace Gv
open Go
variable {C : CallV} {V : Nat → List PV → List PV → Bool}
theorem wevents_loop (hN : CRNum C 58) {s : RS} {n : Nat} (hn : n < 1000000000) (hs : BO s.1) {env : Env} (h5 : env 5 = .int .i64 n) (h6 : env 6 = .int .i64 0) (h2 : env 2 = eEvents []) (h4 : env 4000 = .lptr [eB s.1, .bool s.2]) :
    ∃ e, den C V (.block 0 (.loop v_wire_Reader_Events_L1)) env = some (.norm e) ∧ e 2 = eEvents (rAcc rEvent n s).1 ∧ e 4000 = eR (rAcc rEvent n s).2 := by
  let St : Nat → Env → Prop := fun k e => e 5 = .int .i64 n ∧ e 2 = eEvents (rAcc rEvent k s).1 ∧ e 4000 = .lptr [eB (rAcc rEvent k s).2.1, .bool (rAcc rEvent k s).2.2]
  obtain ⟨e, h1, h2⟩ : ∃ e, den C V (.block 0 (.loop v_wire_Reader_Events_L1)) env = some (.norm e) ∧ St n e := by
    refine range_run (St := St) (by omega) (fun k e v h => by simpa [St] using h) (fun k e h => h.1) (fun k e hk ⟨g5, g2, g4⟩ g6 => ?_) ⟨h5, h2, h4⟩ h6
    have b0 : BO (rAcc rEvent k s).2.1 := rAcc_BO rEvent_dec.suf hs
    have hlen := rAcc_len (f := rEvent) k s
    have hsucc : rAcc rEvent (k + 1) s = ((rAcc rEvent k s).1 ++ [(rEvent (rAcc rEvent k s).2).1], (rEvent (rAcc rEvent k s).2).2) := rfl
    generalize rAcc rEvent k s = q at *
    obtain ⟨l, t⟩ := q
    simp only at *
    have b1 := rNum_suf b0
    have b2 := rNum_suf b1
    have b3 := rNum_suf b2
    have b4 := rNum_suf b3
    have ha := app_ev (l := l) (x := (rEvent t).1) (by omega)
    simp only [eEvent, cEvent, rEvent] at ha
    refine ⟨_, by simp only [vw0, vw1, vw2, vw3, vw4, ↓reduceIte, Nat.reduceEqDiff, Nat.reduceAdd, beq_self_eq_true, g2, g4, hN _ b0, hN _ b1, hN _ b2, hN _ b3, hN _ b4, ha]; rfl, ⟨by simp [g5], ?_, ?_⟩, by simp [g6]⟩
    · rw [hsucc]; simp [rEvent]
    · rw [hsucc]; simp [rEvent]
  exact ⟨e, h1, h2.2.1, h2.2.2⟩
theorem rdEvents_V {m : Nat} {s : RS} (hs : BO s.1) : callV tVT (m + 4) 71 [eR s] = some (eEvents (rList rEvent s).1, [eR (rList rEvent s).2]) := by
  refine callV_of (F := v_wire_Reader_Events) rfl rfl rfl ?_ (.inl rfl)
  have hN : CRNum (callV tVT (m + 3)) 58 := fun t ht => rdNum_V ht
  have hC := rdCount_V (m := m) hs
  generalize callV tVT (m + 3) = C at hN hC
  generalize vTab tVT = V
  simp only [eR] at hC ⊢
  refine nx (by simp only [vw0, vw1, vw2, vw3, vw4, ↓reduceIte, Env.ofArgs_at, Option.getD_some]; rfl) ?_
  rw [ras]
  refine nx (by simp only [vw0, vw1, vw2, vw3, vw4, ↓reduceIte, Nat.reduceAdd, hC]; rfl) ?_
  refine seq_of (wevents_loop hN (rCount_lt hs) (rCount_BO hs) (by simp) (by simp) (by simp; rfl) (by simp)) fun e h => ?_
  have h4 := h.2
  simp only [eR] at h4
  simp only [vw0, vw1, vw2, vw3, vw4, ↓reduceIte, h.1, h4, rList]
end Gv

namespace Gv
open Go
variable {C : CallV} {V : Nat → List PV → List PV → Bool}
theorem takeB {b : List Nat} {k : Nat} (h : k ≤ b.length) : sliceV 1 (eB b) (.tup []) (.int .i64 (k : Nat)) (.tup []) = some (eB (b.take k)) := slice_bytes h
theorem b2sB (l : List Nat) : b2sV (eB l) = some (.str (l.map UInt8.ofNat)) := b2s_bytes l
theorem neqS {a b : List UInt8} : bin .neq (.str a) (.str b) = some (.bool (!(a == b))) := rfl
theorem eqlS {a b : List UInt8} : bin .eql (.str a) (.str b) = some (.bool (a == b)) := rfl
theorem u8_eq {a b : List Nat} (ha : ∀ x ∈ a, x < 256) (hb : ∀ x ∈ b, x < 256) : (a.map UInt8.ofNat == b.map UInt8.ofNat) = decide (a = b) := by
  by_cases h : a = b
  · subst h; simp
  · have : a.map UInt8.ofNat ≠ b.map UInt8.ofNat := fun he => h (u8_inj ha hb he)
    simp [h, this]
theorem rdRead_V {m : Nat} {b sg : List Nat} (hb : BO b) (hs : ∀ x ∈ sg, x < 256) : callV tVT (m + 1) 54 [eB b, .str (sg.map UInt8.ofNat)] = some (eR (if b.take sg.length = sg then (b.drop sg.length, false) else ([], true)), []) := by
  refine callV_of (F := v_wire_Read) rfl rfl rfl ?_ (.inl rfl)
  refine nx (by simp only [vw0]; rfl) ?_
  have hl : lenSPV (.str (sg.map UInt8.ofNat)) = some (.int .i64 sg.length) := by simp [lenSPV]
  by_cases h1 : b.length < sg.length
  · have h2 : b.take sg.length ≠ sg := fun h => by have := congrArg List.length h; rw [List.length_take] at this; omega
    refine den_seq_ret ?_
    simp only [vw0, vw1, vw2, vw3, vw4, ↓reduceIte, reduceCtorEq, Env.ofArgs_at, Option.getD_some, len_eB, hl, lss_idx, h1, decide_true, eR, h2, eB0]
  · have ht := takeB (b := b) (k := sg.length) (by omega)
    have hd := dropB (b := b) (k := sg.length) (by omega)
    have hu := u8_eq (a := b.take sg.length) (b := sg) (fun x hx => hb.1 x (List.mem_of_mem_take hx)) hs
    by_cases h2 : b.take sg.length = sg
    · rw [h2] at hu ht
      refine nx (by simp only [vw0, vw1, vw2, vw3, vw4, ↓reduceIte, beq_self_eq_true, Env.ofArgs_at, Option.getD_some, len_eB, hl, lss_idx, h1, decide_false, ht, b2sB, Bool.not_true]; rfl) ?_
      simp only [vw0, vw1, vw2, vw3, vw4, ↓reduceIte, Env.ofArgs_at, Option.getD_some, hl, hd, eR, h2]
    · refine den_seq_ret ?_
      simp only [vw0, vw1, vw2, vw3, vw4, ↓reduceIte, Env.ofArgs_at, Option.getD_some, len_eB, hl, lss_idx, h1, decide_false, ht, b2sB, hu, Bool.not_false, eR, h2, eB0]
/-! ### The document's reader -/
theorem rint_V {m : Nat} {b : List Nat} {bad : Bool} (hs : BO b) : callV tVT (m + 3) 61 [.lptr [eB b, .bool (!bad)]] = some (.int .i64 (rNum (b, bad)).1, [.lptr [eB (rNum (b, bad)).2.1, .bool (!(rNum (b, bad)).2.2)]]) := by
  refine callV_of (F := v_ref20_reader_int) rfl rfl rfl ?_ (.inr rfl)
  have hT : callV tVT (m + 2) 13 [eB b] = some (outR (takeR b b 0 0), []) := takeR_V hs.1 (by have := hs.2; omega)
  have hsame : takeW b 0 0 = takeR b b 0 0 := by simpa [val] using take_same b [] (by simp) hs.1 (by simp) (.inr trivial) (by simp)
  rw [← hsame] at hT
  generalize callV tVT (m + 2) = C at hT
  generalize vTab tVT = V
  unfold rNum
  cases ht : takeW b 0 0 with
  | none =>
    rw [ht] at hT
    simp only [outR, noneR] at hT
    refine nx (by simp only [vw0, vw1, vw2, vw3, vw4, ↓reduceIte, Env.ofArgs_at, Option.getD_some, hT]; rfl) ?_
    cases bad <;> simp only [vw0, vw1, vw2, vw3, vw4, ↓reduceIte, Nat.reduceEqDiff, reduceCtorEq, beq_self_eq_true, un, Bool.not_true, Bool.not_false, eqlI]
  | some p =>
    obtain ⟨u, k⟩ := p
    rw [ht] at hT
    simp only [outR, someR] at hT
    have hbd := takeW_bd _ _ _ _ _ ht
    have hd := dropB (b := b) (k := k) (by omega)
    have hk : (((k : Nat) : Int) == 0) = false := by rw [beq_eq_false_iff_ne]; omega
    refine nx (by simp only [vw0, vw1, vw2, vw3, vw4, ↓reduceIte, Env.ofArgs_at, Option.getD_some, hT]; rfl) ?_
    cases bad
    · refine nx (by simp only [vw0, vw1, vw2, vw3, vw4, ↓reduceIte, Nat.reduceEqDiff, un, Bool.not_true, Bool.not_false, eqlI, hk]; rfl) ?_
      simp only [vw0, vw1, vw2, vw3, vw4, ↓reduceIte, Nat.reduceEqDiff, hd, Bool.not_false]
    · simp only [vw0, vw1, vw2, vw3, vw4, ↓reduceIte, Nat.reduceEqDiff, reduceCtorEq, un, Bool.not_true, Bool.not_false]
theorem rmany_V {m : Nat} {b : List Nat} {bad : Bool} (hs : BO b) : callV tVT (m + 4) 60 [.lptr [eB b, .bool (!bad)]] = some (.int .i64 (rCount (b, bad)).1, [.lptr [eB (rCount (b, bad)).2.1, .bool (!(rCount (b, bad)).2.2)]]) := by
  refine callV_of (F := v_ref20_reader_many) rfl rfl rfl ?_ (.inr rfl)
  have hN := rint_V (m := m) (bad := bad) hs
  generalize callV tVT (m + 3) = C at hN
  generalize vTab tVT = V
  have hz : (rNum (b, bad)).2.2 = true → (rNum (b, bad)).1 = 0 := by
    unfold rNum
    split
    · split
      · intro _; rfl
      · intro h; simp at h
    · intro _; rfl
  unfold rCount
  generalize rNum (b, bad) = r at *
  obtain ⟨n, t, bd⟩ := r
  simp only at hN hz ⊢
  refine nx (by simp only [vw0, vw1, vw2, vw3, vw4, ↓reduceIte, Nat.reduceEqDiff, Nat.reduceAdd, Env.ofArgs_at, Option.getD_some, hN]; rfl) ?_
  by_cases h1 : n < 0
  · refine den_seq_ret ?_
    simp only [vw0, vw1, vw2, vw3, vw4, ↓reduceIte, Nat.reduceEqDiff, reduceCtorEq, lss0, h1, decide_true, true_or, or_true, Bool.not_true]; rfl
  · by_cases h2 : (t.length : Int) < n
    · refine den_seq_ret ?_
      simp only [vw0, vw1, vw2, vw3, vw4, ↓reduceIte, Nat.reduceEqDiff, lss0, h1, decide_false, len_eB, gtrI, h2, decide_true, or_true, Bool.not_true]; rfl
    · refine nx (by simp only [vw0, vw1, vw2, vw3, vw4, ↓reduceIte, Nat.reduceEqDiff, lss0, h1, decide_false, len_eB, gtrI, h2]; rfl) ?_
      cases bd with
      | true =>
        have := hz rfl
        subst this
        simp only [vw0, vw1, vw2, vw3, vw4, ↓reduceIte, Nat.reduceEqDiff, true_or, Bool.not_true]; rfl
      | false =>
        simp only [vw0, vw1, vw2, vw3, vw4, ↓reduceIte, Nat.reduceEqDiff, h1, h2, or_self, Bool.not_false]
        simp
        omega
def CRInt (C : CallV) (f : Nat) : Prop := ∀ (b : List Nat) (bad : Bool), BO b → C f [.lptr [eB b, .bool (!bad)]] = some (.int .i64 (rNum (b, bad)).1, [.lptr [eB (rNum (b, bad)).2.1, .bool (!(rNum (b, bad)).2.2)]])
theorem rStop_BO {α : Type} {f : RS → α × RS} (hf : ∀ s, ∃ p, s.1 = p ++ (f s).2.1) {n : Nat} {s : RS} (h : BO s.1) : BO (rStop f n s).2.1 := h.suf (rStop_suf hf n s)
end Gv

namespace Gv
open Go
variable {C : CallV} {V : Nat → List PV → List PV → Bool}
def outE1 (o : Option (List SEvent)) : PV := match o with | some l => .tup [eEvents l, .int .i64 0] | none => .tup [eEvents [], .int .i64 2]
theorem outE1_some (l : List SEvent) : outE1 (some l) = .tup [eEvents l, .int .i64 0] := rfl
theorem outE1_none : outE1 none = .tup [eEvents [], .int .i64 2] := rfl
def outEv (b : List Nat) : PV := if bigP b = true then .tup [eEvents [], .int .i64 3] else outE1 (decPath b)
theorem eE0 : PV.lst [] false = eEvents [] := rfl
theorem wEvents_V {m : Nat} {b : List Nat} (hb : BO b) : callV tVT (m + 5) 26 [eB b] = some (outEv b, []) := by
  refine callV_of (F := v_wire_Events) rfl rfl rfl ?_ (.inl rfl)
  have hT := ctake (m := m + 3) b hb
  have hR := rdRead_V (m := m + 3) (sg := []) hb (by simp)
  simp only [List.map_nil, List.length_nil, List.take_zero, if_true, List.drop_zero, eR] at hR
  have hE := rdEvents_V (m := m) (s := (b, false)) hb
  have hG := rdGood_V (m := m + 3) (s := (rList rEvent (b, false)).2)
  simp only [eR] at hE hG
  have hb1 : BO (rList rEvent (b, false)).2.1 := hb.suf (rEvents_dec.suf (b, false))
  generalize callV tVT (m + 4) = C at hT hR hE hG
  generalize vTab tVT = V
  have rest : bigP b = false → ∀ env : Env, env 0 = eB b → den C V (.seq
 (.st [.call [] none 22 54 [(.v 0), (.str [])] [], .asg [] [(11408, (.lp (.cn (.ld none (.v 22) 0) (.cn (.ld none (.v 22) 1) .nl))))], .call [] none 24 71 [(.lp (.cn (.ld none (.v 11408) 0) (.cn (.ld none (.v 11408) 1) .nl)))] [11408], .asg [] [(8, (.v 24))]])
 (.seq
 (.seq
 (.st [.call [] none 26 59 [(.lp (.cn (.ld none (.v 11408) 0) (.cn (.ld none (.v 11408) 1) .nl)))] [11408], .asg [(.un .not (.v 26))] []])
 (.cond (.un .not (.v 26))
 (.seq
 (.st [.asg [] [(3, (N 2)), (2, (.lst .nl))]])
 (.ret (.tup (.cn (.v 2) (.cn (.v 3) .nl))) []))
 .skip))
 (.seq
 (.st [.asg [] [(3, (N 0)), (2, (.v 8))]])
 (.ret (.tup (.cn (.v 2) (.cn (.v 3) .nl))) [])))) env = some (.ret (outEv b) []) := by
    intro hbig env h0
    refine nx (by simp only [vw0, vw1, vw2, vw3, vw4, ↓reduceIte, Nat.reduceEqDiff, Nat.reduceAdd, h0, hR, hE]; rfl) ?_
    have ho : outEv b = outE1 (decPath b) := by simp [outEv, hbig]
    rw [ho]
    unfold decPath
    generalize rList rEvent (b, false) = q at *
    obtain ⟨l, t, bad⟩ := q
    simp only at hG ⊢
    cases bad with
    | true =>
      simp only [Bool.not_true, Bool.false_and, Prod.mk.injEq, Bool.true_eq_false, and_false, if_false] at hG ⊢
      refine den_seq_ret ?_
      simp only [vw0, vw1, vw2, vw3, vw4, ↓reduceIte, Nat.reduceEqDiff, Nat.reduceAdd, hG, un, Bool.not_false, eE0, outE1_none]
    | false =>
      by_cases ht : t = []
      · subst ht
        simp only [Bool.not_false, decide_true, Bool.and_self, if_true] at hG ⊢
        refine nx (by simp only [vw0, vw1, vw2, vw3, vw4, ↓reduceIte, Nat.reduceEqDiff, Nat.reduceAdd, hG, un, Bool.not_true]; rfl) ?_
        simp only [vw0, vw1, vw2, ↓reduceIte, Nat.reduceEqDiff, outE1_some]
      · simp only [Bool.not_false, Bool.true_and, Prod.mk.injEq, and_true, ht, decide_false, if_false] at hG ⊢
        refine den_seq_ret ?_
        simp only [vw0, vw1, vw2, vw3, vw4, ↓reduceIte, Nat.reduceEqDiff, Nat.reduceAdd, hG, un, Bool.not_false, eE0, outE1_none]
  refine nx (by simp only [vw0]; rfl) ?_
  cases ht : takeW b 0 0 with
  | none =>
    have hbig : bigP b = false := by simp [bigP, ht]
    rw [ht] at hT
    simp only [outT, noneT] at hT
    refine nx (by simp only [vw0, vw1, vw2, vw3, vw4, ↓reduceIte, Nat.reduceEqDiff, Env.ofArgs_at, Option.getD_some, hT, eqlI, show ((2 : Int) == 0) = false from rfl]; rfl) ?_
    exact rest hbig _ (by simp [Env.ofArgs_at])
  | some p =>
    obtain ⟨u, k⟩ := p
    rw [ht] at hT
    simp only [outT, someT] at hT
    by_cases hg : 1000 < unzz u
    · have hbig : bigP b = true := by simp [bigP, ht, hg]
      refine den_seq_ret ?_
      simp only [vw0, vw1, vw2, vw3, vw4, ↓reduceIte, Nat.reduceEqDiff, beq_self_eq_true, Env.ofArgs_at, Option.getD_some, hT, eqlI, gtrI, hg, decide_true, outEv, hbig, eE0]
    · have hbig : bigP b = false := by simp [bigP, ht, hg]
      refine nx (by simp only [vw0, vw1, vw2, vw3, vw4, ↓reduceIte, Nat.reduceEqDiff, beq_self_eq_true, Env.ofArgs_at, Option.getD_some, hT, eqlI, gtrI, hg, decide_false]; rfl) ?_
      exact rest hbig _ (by simp [Env.ofArgs_at])
end Gv

namespace Gv
open Go
variable {C : CallV} {V : Nat → List PV → List PV → Bool}
theorem revents_loop (hN : CRInt C 61) {s : RS} {n : Nat} (hn : n < 1000000000) (hs : BO s.1) {env : Env} (h4 : env 4 = .int .i64 n) (h5 : env 5 = .int .i64 0) (h3 : env 3 = eEvents []) (h0 : env 4000 = .lptr [eB s.1, .bool (!s.2)]) :
    ∃ e, den C V (.block 0 (.loop v_ref20_reader_events_L1)) env = some (.norm e) ∧ (e 3 = eEvents (rStop rEvent n s).1 ∧ e 4000 = .lptr [eB (rStop rEvent n s).2.1, .bool (!(rStop rEvent n s).2.2)]) := by
  obtain ⟨N, hN1, hN2, hN3⟩ := rStop_ex rEvent s n
  rw [rStop_end hN1 hN3]
  let St : Nat → Env → Prop := fun k e => e 4 = .int .i64 n ∧ e 3 = eEvents (rStop rEvent k s).1 ∧ e 4000 = .lptr [eB (rStop rEvent k s).2.1, .bool (!(rStop rEvent k s).2.2)]
  obtain ⟨e, h1, h2⟩ : ∃ e, den C V (.block 0 (.loop v_ref20_reader_events_L1)) env = some (.norm e) ∧ St N e := by
    refine for_run (St := St) (by omega) (fun k e v h => by simpa [St] using h) (fun k e hk ⟨g4, g3, g0⟩ hv => ?_) (fun k e hk ⟨g4, g3, g0⟩ g5 => ?_) ⟨h4, h3, h0⟩ h5
    · by_cases hkN : k < N
      · simp only [vw0, vw1, vw2, vw3, vw4, ↓reduceIte, g4, hv, lss_cast, show k < n by omega, decide_true, g0, hN2 k hkN, Bool.not_false, hkN]
      · have hk' : k = N := by omega
        subst hk'
        rcases hN3 with rfl | hb
        · simp only [vw0, vw1, vw2, g4, hv, lss_cast, Nat.lt_irrefl, decide_false]
        · by_cases hkn : k < n
          · simp only [vw0, vw1, vw2, vw3, vw4, ↓reduceIte, g4, hv, lss_cast, hkn, decide_true, g0, hb, Bool.not_true, Nat.lt_irrefl, decide_false]
          · simp only [vw0, vw1, vw2, g4, hv, lss_cast, hkn, decide_false, Nat.lt_irrefl]
    · have hbad := hN2 k hk
      have b0 : BO (rStop rEvent k s).2.1 := rStop_BO rEvent_dec.suf hs
      have hlen := rStop_len (f := rEvent) k s
      have hsucc := rStop_succ (f := rEvent) hbad
      generalize rStop rEvent k s = q at *
      obtain ⟨l, t, bd⟩ := q
      simp only at *
      subst hbad
      have b1 := rNum_suf (s := (t, false)) b0
      have b2 := rNum_suf b1
      have b3 := rNum_suf b2
      have b4 := rNum_suf b3
      have c0 := hN t false b0
      have c1 := hN _ (rNum (t, false)).2.2 b1
      have c2 := hN _ (rNum (rNum (t, false)).2).2.2 b2
      have c3 := hN _ (rNum (rNum (rNum (t, false)).2).2).2.2 b3
      have c4 := hN _ (rNum (rNum (rNum (rNum (t, false)).2).2).2).2.2 b4
      have ha := app_ev (l := l) (x := (rEvent (t, false)).1) (by omega)
      simp only [eEvent, cEvent, rEvent] at ha
      simp only [Bool.not_false] at g0 c0
      refine ⟨_, by simp only [vw0, vw1, vw2, vw3, vw4, ↓reduceIte, Nat.reduceEqDiff, Nat.reduceAdd, beq_self_eq_true, g3, g0, c0, c1, c2, c3, c4, ha]; rfl, ⟨by simp [g4], ?_, ?_⟩, by simp [g5]⟩
      · rw [hsucc]; simp [rEvent]
      · rw [hsucc]; simp [rEvent]
  exact ⟨e, h1, h2.2.1, h2.2.2⟩
theorem revents_V {m : Nat} {b : List Nat} (hs : BO b) : callV tVT (m + 5) 72 [.lptr [eB b, .bool true]] = some (eEvents (rListS rEvent (b, false)).1, [.lptr [eB (rListS rEvent (b, false)).2.1, .bool (!(rListS rEvent (b, false)).2.2)]]) := by
  refine callV_of (F := v_ref20_reader_events) rfl rfl rfl ?_ (.inl rfl)
  have hN : CRInt (callV tVT (m + 4)) 61 := fun b bad h => rint_V h
  have hC := rmany_V (m := m) (bad := false) hs
  generalize callV tVT (m + 4) = C at hN hC
  generalize vTab tVT = V
  simp only [Bool.not_false] at hC
  refine nx (by simp only [vw0, vw1, vw2, vw3, vw4, ↓reduceIte, Nat.reduceEqDiff, Nat.reduceAdd, Env.ofArgs_at, Option.getD_some, hC]; rfl) ?_
  rw [ras]
  refine nx (by simp only [vw0, vw2, ↓reduceIte]; rfl) ?_
  refine seq_of (revents_loop hN (s := (rCount (b, false)).2) (rCount_lt (s := (b, false)) hs) (rCount_BO (s := (b, false)) hs) (by simp) (by simp) (by simp; rfl) (by simp)) fun e h => ?_
  simp only [vw0, vw1, vw2, vw3, vw4, ↓reduceIte, Nat.reduceEqDiff, h.1, h.2, rListS]
theorem gtr0 {n : Nat} : binI .gtr .i64 (n : Int) .i64 0 = some (.bool (decide (0 < n))) := by simp [binI]
theorem rEvents_V {m : Nat} {b : List Nat} (hb : BO b) : callV tVT (m + 6) 27 [eB b] = some (outEv b, []) := by
  refine callV_of (F := v_ref20_Events) rfl rfl rfl ?_ (.inl rfl)
  have hT : callV tVT (m + 5) 13 [eB b] = some (outR (takeR b b 0 0), []) := takeR_V (m := m + 3) hb.1 (by have := hb.2; omega)
  have hsame : takeW b 0 0 = takeR b b 0 0 := by simpa [val] using take_same b [] (by simp) hb.1 (by simp) (.inr trivial) (by simp)
  rw [← hsame] at hT
  have hE := revents_V (m := m) hb
  generalize callV tVT (m + 5) = C at hT hE
  generalize vTab tVT = V
  have rest : bigP b = false → ∀ env : Env, env 0 = eB b → den C V (.seq
 (.st [.asg [(.chk none (.v 0))] [(21, (.lp (.cn (.v 0) (.cn (.boo true) .nl))))], .call [] none 23 72 [(.lp (.cn (.ld none (.v 21) 0) (.cn (.ld none (.v 21) 1) .nl)))] [21], .asg [] [(7, (.v 23))]])
 (.seq
 (.seq
 (.st [.asg [(.gd (.un .not (.ld none (.v 21) 1)) false (.len (.ld none (.v 21) 0))), (.gd (.un .not (.ld none (.v 21) 1)) false (.bin .gtr (.len (.ld none (.v 21) 0)) (N 0))), (.ite (.un .not (.ld none (.v 21) 1)) (.boo true) (.bin .gtr (.len (.ld none (.v 21) 0)) (N 0)))] []])
 (.cond (.ite (.un .not (.ld none (.v 21) 1)) (.boo true) (.bin .gtr (.len (.ld none (.v 21) 0)) (N 0)))
 (.seq
 (.st [.asg [] [(3, (N 2)), (2, (.lst .nl))]])
 (.ret (.tup (.cn (.v 2) (.cn (.v 3) .nl))) []))
 .skip))
 (.seq
 (.st [.asg [] [(3, (N 0)), (2, (.v 7))]])
 (.ret (.tup (.cn (.v 2) (.cn (.v 3) .nl))) [])))) env = some (.ret (outEv b) []) := by
    intro hbig env h0
    refine nx (by simp only [vw0, vw1, vw2, vw3, vw4, ↓reduceIte, Nat.reduceEqDiff, Nat.reduceAdd, h0, hE]; rfl) ?_
    have ho : outEv b = outE1 (decPath b) := by simp [outEv, hbig]
    rw [ho, decPath_S]
    generalize rListS rEvent (b, false) = q
    obtain ⟨l, t, bad⟩ := q
    simp only
    cases bad with
    | true =>
      simp only [Prod.mk.injEq, Bool.true_eq_false, and_false, if_false]
      refine den_seq_ret ?_
      simp only [vw0, vw1, vw2, vw3, vw4, ↓reduceIte, Nat.reduceEqDiff, reduceCtorEq, un, Bool.not_true, Bool.not_false, eE0, outE1_none]
    | false =>
      by_cases ht : t = []
      · subst ht
        simp only [if_true]
        refine nx (by simp only [vw0, vw1, vw2, vw3, vw4, ↓reduceIte, Nat.reduceEqDiff, un, Bool.not_true, Bool.not_false, len_eB, gtrI]; rfl) ?_
        simp only [vw0, vw1, vw2, ↓reduceIte, Nat.reduceEqDiff, outE1_some]
      · have hl : 0 < t.length := List.length_pos_iff.2 ht
        simp only [Prod.mk.injEq, and_true, ht, if_false]
        refine den_seq_ret ?_
        simp only [vw0, vw1, vw2, vw3, vw4, ↓reduceIte, Nat.reduceEqDiff, un, Bool.not_true, Bool.not_false, len_eB, gtr0, hl, decide_true, eE0, outE1_none]
  cases ht : takeW b 0 0 with
  | none =>
    have hbig : bigP b = false := by simp [bigP, ht]
    rw [ht] at hT
    simp only [outR, noneR] at hT
    refine nx (by simp only [vw0, vw1, vw2, vw4, ↓reduceIte, Env.ofArgs_at, Option.getD_some, hT]; rfl) ?_
    refine nx (by simp only [vw0, vw1, vw2, vw3, vw4, ↓reduceIte, Nat.reduceEqDiff, gtrI, show decide ((0 : Int) < 0) = false from rfl]; rfl) ?_
    exact rest hbig _ (by simp [Env.ofArgs_at])
  | some p =>
    obtain ⟨u, k⟩ := p
    rw [ht] at hT
    simp only [outR, someR] at hT
    have hk : decide ((0 : Int) < (k : Int)) = true := by have := (takeW_bd _ _ _ _ _ ht).1; simp; omega
    refine nx (by simp only [vw0, vw1, vw2, vw4, ↓reduceIte, Env.ofArgs_at, Option.getD_some, hT]; rfl) ?_
    by_cases hg : 1000 < unzz u
    · have hbig : bigP b = true := by simp [bigP, ht, hg]
      refine den_seq_ret ?_
      simp only [vw0, vw1, vw2, vw3, vw4, ↓reduceIte, Nat.reduceEqDiff, hk, decide_true, gtrI, hg, outEv, hbig, eE0]
    · have hbig : bigP b = false := by simp [bigP, ht, hg]
      refine nx (by simp only [vw0, vw1, vw2, vw3, vw4, ↓reduceIte, Nat.reduceEqDiff, hk, gtrI, hg, decide_false]; rfl) ?_
      exact rest hbig _ (by simp [Env.ofArgs_at])
end Gv

namespace Gv
open Go
variable {C : CallV} {V : Nat → List PV → List PV → Bool}
theorem eqs_ev (x y : SEvent) : eqsV true [false, false, false, false, false] (.agg [.int .i64 x.kind, .int .i64 x.id.frm, .int .i64 x.id.n, .int .i64 x.id.copy, .int .i64 x.who]) (.agg [.int .i64 y.kind, .int .i64 y.id.frm, .int .i64 y.id.n, .int .i64 y.id.copy, .int .i64 y.who]) = some (.bool (!decide (x = y))) := by
  simp only [eqsV, eqCells, ne_eq, not_true_eq_false, if_false, Option.some.injEq, PV.bool.injEq, if_true]
  congr 1
  obtain ⟨a, ⟨b, c, d⟩, e⟩ := x
  obtain ⟨a', ⟨b', c', d'⟩, e'⟩ := y
  rw [Bool.eq_iff_iff]
  simp [and_assoc]
theorem neq_len {a b : Nat} : binI .neq .i64 (a : Int) .i64 (b : Int) = some (.bool (!decide (a = b))) := by
  simp only [binI]
  by_cases h : a = b
  · subst h; simp
  · have : (a : Int) ≠ (b : Int) := by omega
    simp [h, bne]
    exact this
theorem alikeEv_V {m : Nat} (a b : List SEvent) (ha : a.length < 1000000000) : callV tVT (m + 1) 28 [eEvents a, eEvents b] = some (.bool (decide (a = b)), []) := by
  refine callV_of (F := v_alike_Events) rfl rfl rfl ?_ (.inr rfl)
  generalize callV tVT m = C
  generalize vTab tVT = V
  refine nx (by simp only [vw0]; rfl) ?_
  by_cases hl : a.length = b.length
  · refine nx (by simp only [vw0, vw1, vw2, vw3, vw4, ↓reduceIte, Env.ofArgs_at, Option.getD_some, len_eE, neq_len, hl, decide_true, Bool.not_true]; rfl) ?_
    rw [ras]
    refine nx (by simp only [vw0, vw2, ↓reduceIte]; rfl) ?_
    let St : Nat → Env → Prop := fun k e => e 0 = eEvents a ∧ e 1 = eEvents b
    refine all_seq (n := a.length) (by omega) (fun k => decide (a[k]? = b[k]?)) (.bool false) St (a = b) (fun k e v h => by simpa [St] using h)
      (fun k e hk h hv => by by_cases hkn : k < a.length <;> simp only [vw0, vw1, vw2, vw3, vw4, ↓reduceIte, h.1, hv, len_eE, lss_idx, hkn, decide_true, decide_false])
      (fun k e hk h hv => by
        obtain ⟨x, hx, _⟩ := get_lt hk
        obtain ⟨y, hy, _⟩ := get_lt (l := b) (k := k) (by omega)
        by_cases hxy : x = y
        · refine ⟨_, by simp only [vw0, vw1, vw2, vw3, vw4, ↓reduceIte, Nat.reduceAdd, beq_self_eq_true, h.1, h.2, hv, ia_eE hx, ia_eE hy, eqs_ev, hxy, decide_true, Bool.not_true]; rfl, ?_⟩
          simp [hx, hy, hxy, h.1, h.2, hv, St]
        · refine ⟨_, by simp only [vw0, vw1, vw2, vw3, vw4, ↓reduceIte, Nat.reduceAdd, beq_self_eq_true, h.1, h.2, hv, ia_eE hx, ia_eE hy, eqs_ev, hxy, decide_false, Bool.not_false]; rfl, ?_⟩
          simp [hx, hy, hxy])
      (by simp only [decide_eq_true_eq]; exact get_eq hl) (fun hab e _ => by simp only [vw0, vw2, ↓reduceIte, hab, decide_true]) (fun hab => by simp [hab]) ⟨by simp [Env.ofArgs_at], by simp [Env.ofArgs_at]⟩ (by simp)
  · have hab : a ≠ b := fun h => hl (by rw [h])
    refine den_seq_ret ?_
    simp only [vw0, vw1, vw2, vw3, vw4, ↓reduceIte, Env.ofArgs_at, Option.getD_some, len_eE, neq_len, hl, hab, decide_false, Bool.not_false]
theorem outEv_form (b : List Nat) : ∃ (u : List SEvent) (g : Int), outEv b = .tup [eEvents u, .int .i64 g] ∧ (u = [] ∨ decPath b = some u) := by
  unfold outEv
  split
  · exact ⟨[], 3, rfl, .inl rfl⟩
  · cases h : decPath b with
    | none => exact ⟨[], 2, rfl, .inl rfl⟩
    | some l => exact ⟨l, 0, rfl, .inr rfl⟩
theorem number_small (n : Int) : ∀ x ∈ number n, x < 256 := nb_small _ _
theorem enN_small (l : List Int) : ∀ x ∈ enN l, x < 256 := fun x hx => by
  obtain ⟨n, _, h⟩ := List.mem_flatMap.1 hx
  exact number_small n x h
theorem enPath_BO {l : List SEvent} (h : l.length < 1000000) : BO (enPath l) := by
  have hfl := flatMap_len (f := enEvent) (l := l) (B := 50) fun x _ => enEvent_len x
  refine ⟨fun x hx => ?_, ?_⟩
  · rw [enPath_eq] at hx
    rcases List.mem_append.1 hx with hx | hx
    · exact enN_small _ x hx
    · obtain ⟨e, _, h⟩ := List.mem_flatMap.1 hx
      exact enN_small _ x h
  · rw [enPath_eq, List.length_append]
    have := enN_len [(l.length : Int)]
    simp only [List.length_cons, List.length_nil] at this
    omega
theorem decPath_len {b : List Nat} (hb : BO b) {u : List SEvent} (h : decPath b = some u) : u.length ≤ b.length := by
  have h1 := (decPath_iff hb.bok).1 h
  have h2 := flat_ge enEvent_pos u
  rw [← h1.1, enPath_eq, List.length_append]; omega
theorem outEv_path {l : List SEvent} (hl : ∀ e ∈ l, e.ok) (hn : ¬ 1000 < l.length) : outEv (enPath l) = .tup [eEvents l, .int .i64 0] := by
  have hb := enPath_BO (l := l) (by omega)
  have hd : decPath (enPath l) = some l := (decPath_iff hb.bok).2 ⟨rfl, hl, by omega⟩
  have ht := take_complete (n := (l.length : Int)) ⟨by omega, by omega⟩ (l.flatMap enEvent)
  have hbig : bigP (enPath l) = false := by
    show (match takeW (number l.length ++ l.flatMap enEvent) 0 0 with | some p => decide (1000 < unzz p.1) | none => false) = false
    rw [ht]
    simp only [unzz_zz', decide_eq_false_iff_not]
    omega
  simp [outEv, hbig, hd, outE1_some]
theorem outEv_nil : outEv [] = .tup [eEvents [], .int .i64 2] := by
  have hbig : bigP [] = false := rfl
  have hd : decPath [] = none := by
    unfold decPath
    rw [if_neg]
    decide
  simp [outEv, hbig, hd, outE1_none]
theorem len_gtr {n : Nat} {k : Int} : binI .gtr .i64 (n : Int) .i64 k = some (.bool (decide (k < n))) := gtrI
theorem wirePaths_V {m : Nat} {l : List SEvent} {b : List Nat} (hl : ∀ e ∈ l, e.ok) (hb : ∀ x ∈ b, x < 256) : callV tVT (m + 7) 3 [eEvents l, eB b] = some (.bool true, []) := by
  refine callV_of (F := v_law22_WirePaths) rfl rfl rfl ?_ (.inr rfl)
  have y10 : callV tVT (m + 6) 10 [] = some (.bool true, []) := rfl
  have f24 : l.length < 1000000 → callV tVT (m + 6) 24 [eEvents l] = some (outPath l, []) := fun h => wPath_V (m := m + 3) hl h
  have f25 : l.length < 1000000 → callV tVT (m + 6) 25 [eEvents l] = some (outPath l, []) := fun h => rPath_V (m := m + 2) hl h
  have f26 : ∀ b, BO b → callV tVT (m + 6) 26 [eB b] = some (outEv b, []) := fun b h => wEvents_V (m := m + 1) h
  have f27 : ∀ b, BO b → callV tVT (m + 6) 27 [eB b] = some (outEv b, []) := fun b h => rEvents_V (m := m) h
  have f28 : ∀ a b : List SEvent, a.length < 1000000000 → callV tVT (m + 6) 28 [eEvents a, eEvents b] = some (.bool (decide (a = b)), []) := fun a b h => alikeEv_V (m := m + 5) a b h
  generalize callV tVT (m + 6) = C at *
  generalize vTab tVT = V
  refine nx (by simp only [vw0]; rfl) ?_
  by_cases h1 : (1100 : Int) < (l.length : Int)
  · refine den_seq_ret ?_
    simp only [vw0, vw1, vw2, vw3, vw4, ↓reduceIte, reduceCtorEq, Env.ofArgs_at, Option.getD_some, len_eE, len_gtr, h1, decide_true, y10]
  · by_cases h2 : (2000 : Int) < (b.length : Int)
    · refine den_seq_ret ?_
      simp only [vw0, vw1, vw2, vw3, vw4, ↓reduceIte, Env.ofArgs_at, Option.getD_some, len_eE, len_eB, len_gtr, h1, h2, decide_true, decide_false, y10]
    · refine nx (by simp only [vw0, vw1, vw2, vw3, vw4, ↓reduceIte, Env.ofArgs_at, Option.getD_some, len_eE, len_eB, len_gtr, h1, h2, decide_false]; rfl) ?_
      have hB : BO b := ⟨hb, by omega⟩
      have g24 := f24 (by omega)
      have g25 := f25 (by omega)
      obtain ⟨u, g, hu, hud⟩ := outEv_form b
      have g26 := f26 b hB
      have g27 := f27 b hB
      rw [hu] at g26 g27
      have hul : u.length < 1000000000 := by
        rcases hud with rfl | h
        · decide
        · have := decPath_len hB h; have := hB.2; omega
      have g28 := f28 u u hul
      simp only [decide_true] at g28
      by_cases hc : 1000 < l.length
      · have ho : outPath l = .tup [eB [], .int .i64 3] := by simp [outPath, hc]
        rw [ho] at g24 g25
        have gn := f26 [] ⟨by simp, by decide⟩
        rw [outEv_nil] at gn
        refine nx (by simp only [vw0, vw1, vw2, vw4, ↓reduceIte, Nat.reduceEqDiff, reduceCtorEq, Env.ofArgs_at, Option.getD_some, g24, g25, g26, g27]; rfl) ?_
        refine nx (by simp only [vw0, vw1, vw2, vw3, vw4, ↓reduceIte, Nat.reduceEqDiff, beq_self_eq_true, b2sB, beq_self_eq_true, Bool.not_true, neqI, bne_self_eq_false, g28, un]; rfl) ?_
        simp only [vw0, vw1, vw2, vw3, vw4, ↓reduceIte, Nat.reduceEqDiff, reduceCtorEq, beq_self_eq_true, gn, neqI, show ((3 : Int) != 0) = true from rfl, y10]
      · have ho : outPath l = .tup [eB (enPath l), .int .i64 0] := by simp [outPath, hc]
        rw [ho] at g24 g25
        have gn := f26 (enPath l) (enPath_BO (by omega))
        rw [outEv_path hl hc] at gn
        have gl := f28 l l (by omega)
        simp only [decide_true] at gl
        refine nx (by simp only [vw0, vw1, vw2, vw4, ↓reduceIte, Nat.reduceEqDiff, reduceCtorEq, Env.ofArgs_at, Option.getD_some, g24, g25, g26, g27]; rfl) ?_
        refine nx (by simp only [vw0, vw1, vw2, vw3, vw4, ↓reduceIte, Nat.reduceEqDiff, beq_self_eq_true, b2sB, beq_self_eq_true, Bool.not_true, neqI, bne_self_eq_false, g28, un]; rfl) ?_
        simp only [vw0, vw1, vw2, vw3, vw4, ↓reduceIte, Nat.reduceEqDiff, reduceCtorEq, beq_self_eq_true, Env.ofArgs_at, Option.getD_some, gn, neqI, show ((0 : Int) != 0) = false from rfl, eqlI, beq_self_eq_true, gl, y10]
end Gv

namespace Gv
open Go
variable {C : CallV} {V : Nat → List PV → List PV → Bool}
theorem round_V {m : Nat} (k : Int) {n : Nat} (h0 : 0 < n) (h1 : n < 1000000000) : ∃ r : Nat, r < n ∧ callV tVT (m + 1) 23 [.int .i64 k, .int .i64 n] = some (.int .i64 r, []) := by
  have hn : ¬ (n : Int) = 0 := by omega
  have e1 : ∀ k : Int, binI .rem .i64 k .i64 n = some (.int .i64 (k.tmod n)) := fun k => by simp only [binI]; rw [if_neg (by decide), if_neg hn]
  have b1 : (k.tmod n) < n := Int.tmod_lt_of_pos k (by omega)
  have b2 : -(n : Int) < k.tmod n := Int.lt_tmod_of_pos k (by omega)
  have e2 : binI .add .i64 (k.tmod n) .i64 n = some (.int .i64 (k.tmod n + n)) := by
    simp only [binI]; rw [if_neg (by decide), i64_of (by omega) (by omega)]
  have b3 : 0 ≤ (k.tmod n + n).tmod n := Int.tmod_nonneg _ (by omega)
  have b4 : (k.tmod n + n).tmod n < n := Int.tmod_lt_of_pos _ (by omega)
  refine ⟨((k.tmod n + n).tmod n).toNat, by omega, ?_⟩
  rw [show (((k.tmod n + n).tmod n).toNat : Int) = (k.tmod n + n).tmod n by omega]
  refine callV_of (F := v_alike_Round) rfl rfl rfl ?_ (.inr rfl)
  simp only [vw0, vw1, vw2, vw4, ↓reduceIte, v_alike_Round, Env.ofArgs_at, Option.getD_some, e1, e2]
/-! ### What is cut off, or longer -/
theorem number_inj {a b : Int} {x y : List Nat} (ha : I64 a) (hb : I64 b) (h : number a ++ x = number b ++ y) : a = b := by
  have h1 := take_complete ha x
  rw [h, take_complete hb y] at h1
  simp only [Option.some.injEq, Prod.mk.injEq] at h1
  have := congrArg unzz h1.1
  rw [unzz_zz', unzz_zz'] at this
  exact this.symm
theorem enPath_num (l : List SEvent) : enPath l = number (l.length : Int) ++ l.flatMap enEvent := rfl
theorem big_pre {l : List SEvent} (hl : l.length ≤ 50) {b x : List Nat} (hb : BO b) (h : enPath l = b ++ x) : bigP b = false := by
  unfold bigP
  cases ht : takeW b 0 0 with
  | none => rfl
  | some p =>
    obtain ⟨u, k⟩ := p
    have hs := take_sound hb.bok ht
    rw [hs.1, enPath_num, List.append_assoc] at h
    have := number_inj ⟨by omega, by omega⟩ hs.2.1 h
    simp only [decide_eq_false_iff_not]
    omega
theorem dec_pre {l : List SEvent} (hl : ∀ e ∈ l, e.ok) (hn : l.length ≤ 50) {b x : List Nat} (hb : BO b) (h : enPath l = b ++ x) (hx : x ≠ []) : decPath b = none := by
  cases hd : decPath b with
  | none => rfl
  | some v =>
    obtain ⟨h1, h2⟩ := (decPath_iff hb.bok).1 hd
    have e1 := rEvents_dec.cpl v x h2
    have e2 := rEvents_dec.cpl l [] ⟨hl, by omega⟩
    rw [show enList enEvent v = b from h1, ← h] at e1
    rw [List.append_nil, show enList enEvent l = enPath l from rfl, e1] at e2
    simp only [Prod.mk.injEq, and_true] at e2
    exact absurd e2.2 hx
theorem out_pre {l : List SEvent} (hl : ∀ e ∈ l, e.ok) (hn : l.length ≤ 50) {b x : List Nat} (hb : BO b) (h : enPath l = b ++ x) (hx : x ≠ []) : outEv b = .tup [eEvents [], .int .i64 2] := by
  simp [outEv, big_pre hn hb h, dec_pre hl hn hb h hx, outE1_none]
theorem out_more {l : List SEvent} (hl : ∀ e ∈ l, e.ok) (hn : l.length ≤ 50) {x : List Nat} (hb : BO (enPath l ++ x)) (hx : x ≠ []) : outEv (enPath l ++ x) = .tup [eEvents [], .int .i64 2] := by
  have h1 : bigP (enPath l ++ x) = false := by
    have ht := take_complete (n := (l.length : Int)) ⟨by omega, by omega⟩ (l.flatMap enEvent ++ x)
    unfold bigP
    rw [enPath_num, List.append_assoc, ht]
    simp only [unzz_zz', decide_eq_false_iff_not]
    omega
  have h2 : decPath (enPath l ++ x) = none := by
    cases hd : decPath (enPath l ++ x) with
    | none => rfl
    | some v =>
      obtain ⟨h3, h4⟩ := (decPath_iff hb.bok).1 hd
      have e1 := rEvents_dec.cpl v [] h4
      have e2 := rEvents_dec.cpl l x ⟨hl, by omega⟩
      rw [List.append_nil, show enList enEvent v = enPath l ++ x from h3] at e1
      rw [show enList enEvent l = enPath l from rfl, e1] at e2
      simp only [Prod.mk.injEq, and_true] at e2
      exact absurd e2.2.symm hx
  simp [outEv, h1, h2, outE1_none]
theorem appB0 {l : List Nat} (h : l.length < 1000000000) : appV 1 (eB []) (eB l) = some (eB l) := appB (l := []) (m := l) (by simp; omega)
theorem pieces1 (hN : CNumW C) {l : List Int} (hl : ∀ n ∈ l, I64 n) (h5 : l.length = 5) {b : List Nat} (hb : b.length < 1000000000) {env : Env} (h9 : env 9 = eI l) (h10 : env 10 = .int .i64 0) (h7 : env 7 = eB b) (R : Env → Prop) (hR : R env) (hRs : ∀ e v, (R e → R (e.set 73 v)) ∧ (R e → R (e.set 7 v)) ∧ (R e → R (e.set 10 v))) :
    ∃ e, den C V (.block 2 (.loop v_law22_WirePieces_L1)) env = some (.norm e) ∧ (e 7 = eB (b ++ enN l) ∧ R e) := by
  let St : Nat → Env → Prop := fun k e => e 9 = eI l ∧ e 7 = eB (b ++ (l.take k).flatMap number) ∧ R e
  obtain ⟨e, h1, h2⟩ : ∃ e, den C V (.block 2 (.loop v_law22_WirePieces_L1)) env = some (.norm e) ∧ St 5 e := by
    refine for_run (St := St) (n := 5) (by omega) (fun k e v h => ⟨by simpa using h.1, by simpa using h.2.1, (hRs e v).2.2 h.2.2⟩) (fun k e hk h hv => by simp only [vw0, vw1, vw2, hv, show binI .lss .i64 (k : Int) .i64 5 = some (.bool (decide (k < 5))) from lss_idx k 5]) (fun k e hk ⟨g9, g7, gR⟩ g10 => ?_) ⟨h9, by simpa using h7, hR⟩ h10
    obtain ⟨x, hx, hm⟩ := get_lt (l := l) (k := k) (by omega)
    obtain ⟨t1, t2⟩ := take_step number hx
    have hle := enN_len l
    rw [enN_eq] at hle
    have ha := appB (l := b ++ (l.take k).flatMap number) (m := number x) (by simp only [List.length_append]; omega)
    refine ⟨_, by simp only [vw0, vw1, vw2, vw3, vw4, ↓reduceIte, Nat.reduceEqDiff, g9, g10, g7, ia_eI hx, hN x (hl x hm), ha]; rfl, ⟨by simp [g9], by simp [t1], (hRs _ _).2.1 ((hRs _ _).1 gR)⟩, by simp [g10]⟩
  exact ⟨e, h1, by simpa [← h5, enN_eq] using h2.2.1, h2.2.2⟩
theorem pieces2 (hN : CNumW C) {l : List SEvent} (hl : ∀ e ∈ l, e.ok) (hn : l.length ≤ 50) {b : List Nat} (hb : b.length < 1000) {env : Env} (h0 : env 0 = eEvents l) (h8 : env 8 = .int .i64 0) (h7 : env 7 = eB b) {p1 p5 p6 : PV} (h1 : env 1 = p1) (h5 : env 5 = p5) (h6 : env 6 = p6) :
    ∃ e, den C V (.block 0 (.loop v_law22_WirePieces_L2)) env = some (.norm e) ∧ (e 7 = eB (b ++ l.flatMap enEvent) ∧ e 0 = eEvents l ∧ e 1 = p1 ∧ e 5 = p5 ∧ e 6 = p6) := by
  let St : Nat → Env → Prop := fun k e => e 0 = eEvents l ∧ e 1 = p1 ∧ e 5 = p5 ∧ e 6 = p6 ∧ e 7 = eB (b ++ (l.take k).flatMap enEvent)
  obtain ⟨e, h1, h2⟩ : ∃ e, den C V (.block 0 (.loop v_law22_WirePieces_L2)) env = some (.norm e) ∧ St l.length e := by
    refine for_run (St := St) (by omega) (fun k e v h => by simpa [St] using h) (fun k e hk h hv => by simp only [vw0, vw1, vw2, h.1, hv, len_eE, lss_idx]) (fun k e hk ⟨g0, g1, g5, g6, g7⟩ g8 => ?_) ⟨h0, h1, h5, h6, by simpa using h7⟩ h8
    obtain ⟨x, hx, hm⟩ := get_lt hk
    obtain ⟨t1, t2⟩ := take_step enEvent hx
    have hfl := flatMap_len (f := enEvent) (l := l) (B := 50) fun x _ => enEvent_len x
    have hp := pieces1 (C := C) (V := V) hN (ev_ok (hl x hm)) rfl (b := b ++ (l.take k).flatMap enEvent) (by simp only [List.length_append]; omega)
      (env := ((e.set 9 (eI [x.kind, x.id.frm, x.id.n, x.id.copy, x.who])).set 10 (.int .i64 0))) (by simp) (by simp) (by simp [g7]) (fun e => e 0 = eEvents l ∧ e 1 = p1 ∧ e 5 = p5 ∧ e 6 = p6 ∧ e 8 = .int .i64 (k : Nat)) (by simp [g0, g1, g5, g6, g8]) (fun e v => by simp)
    obtain ⟨e', k1, k2, k3, k4, k5, k6, k7⟩ := hp
    refine ⟨e', den_block_norm (nx (by simp only [vw0, vw1, vw2, vw3, vw4, ↓reduceIte, g0, g8, ia_eE hx, eI5]) k1), ⟨k3, k4, k5, k6, by rw [k2, t1, enEvent, List.append_assoc]⟩, k7⟩
  exact ⟨e, h1, by simpa using h2.2.2.2.2, h2.1, h2.2.1, h2.2.2.1, h2.2.2.2.1⟩
theorem wirePieces_V {m : Nat} {l : List SEvent} {cut : Int} (hl : ∀ e ∈ l, e.ok) : callV tVT (m + 7) 6 [eEvents l, .int .i64 cut] = some (.bool true, []) := by
  refine callV_of (F := v_law22_WirePieces) rfl rfl rfl ?_ (.inr rfl)
  have y10 : callV tVT (m + 6) 10 [] = some (.bool true, []) := rfl
  have f24 : l.length < 1000000 → callV tVT (m + 6) 24 [eEvents l] = some (outPath l, []) := fun h => wPath_V (m := m + 3) hl h
  have f26 : ∀ b, BO b → callV tVT (m + 6) 26 [eB b] = some (outEv b, []) := fun b h => wEvents_V (m := m + 1) h
  have hN : CNumW (callV tVT (m + 6)) := fun n h => number_V h.1 h.2
  have fR : ∀ n : Nat, 0 < n → n < 1000000000 → ∃ r : Nat, r < n ∧ callV tVT (m + 6) 23 [.int .i64 cut, .int .i64 n] = some (.int .i64 r, []) := fun n h0 h1 => round_V (m := m + 5) cut h0 h1
  generalize callV tVT (m + 6) = C at *
  generalize vTab tVT = V
  refine nx (by simp only [vw0]; rfl) ?_
  by_cases h1 : (50 : Int) < (l.length : Int)
  · refine den_seq_ret ?_
    simp only [vw0, vw1, vw2, vw3, vw4, ↓reduceIte, Env.ofArgs_at, Option.getD_some, len_eE, len_gtr, h1, decide_true, y10]
  · refine nx (by simp only [vw0, vw1, vw2, vw3, vw4, ↓reduceIte, Env.ofArgs_at, Option.getD_some, len_eE, len_gtr, h1, decide_false]; rfl) ?_
    have ho : outPath l = .tup [eB (enPath l), .int .i64 0] := by simp [outPath]; omega
    have g24 := f24 (by omega)
    rw [ho] at g24
    have hnl := hN (l.length : Int) ⟨by omega, by omega⟩
    have hln := number_len (l.length : Int)
    refine nx (by simp only [vw0, vw1, vw2, vw3, vw4, ↓reduceIte, reduceCtorEq, Env.ofArgs_at, Option.getD_some, g24, len_eE, hnl, eB0, appB0 (l := number l.length) (by omega)]; rfl) ?_
    rw [ras]
    refine nx (by simp only [vw0, vw2, ↓reduceIte]; rfl) ?_
    refine seq_of (pieces2 hN hl (by omega) (b := number l.length) (by omega) (by simp [Env.ofArgs_at]) (by simp) (by simp) (p1 := .int .i64 cut) (p5 := eB (enPath l)) (p6 := .int .i64 0) (by simp [Env.ofArgs_at]) (by simp) (by simp)) fun e ⟨k7, k0, k1, k5, k6⟩ => ?_
    rw [show number (l.length : Int) ++ l.flatMap enEvent = enPath l from rfl] at k7
    have hBO := enPath_BO (l := l) (by omega)
    have hpos : 0 < (enPath l).length := by rw [enPath_num, List.length_append]; have := number_pos (l.length : Int); omega
    obtain ⟨r, hr, gR⟩ := fR (enPath l).length hpos hBO.2
    have hlen0 : ((enPath l).length : Int) ≠ 0 := by omega
    refine nx (by simp only [vw0, vw1, vw2, vw3, vw4, ↓reduceIte, beq_self_eq_true, k6, k5, k7, neqI, bne_self_eq_false, b2sB, beq_self_eq_true, Bool.not_true, len_eB, eqlI, beq_eq_false_iff_ne.2 hlen0]; rfl) ?_
    have gt := takeB (b := enPath l) (k := r) (by omega)
    have hx : enPath l = (enPath l).take r ++ (enPath l).drop r := (List.take_append_drop _ _).symm
    have hne : (enPath l).drop r ≠ [] := by
      intro h
      have := congrArg List.length h
      simp only [List.length_drop, List.length_nil] at this
      omega
    have hBt : BO ((enPath l).take r) := ⟨fun x h => hBO.1 x (List.mem_of_mem_take h), by rw [List.length_take]; have := hBO.2; omega⟩
    have g1 := f26 _ hBt
    rw [out_pre hl (by omega) hBt hx hne] at g1
    have ha : appV 1 (eB (enPath l)) (eB [0]) = some (eB (enPath l ++ [0])) := appB (by simp; have := hBO.2; omega)
    have hfl := flatMap_len (f := enEvent) (l := l) (B := 50) fun x _ => enEvent_len x
    have hBm : BO (enPath l ++ [0]) := ⟨fun x h => by
      rcases List.mem_append.1 h with h | h
      · exact hBO.1 x h
      · rw [List.mem_singleton.1 h]; decide, by rw [List.length_append, enPath_num, List.length_append]; simp only [List.length_cons, List.length_nil]; omega⟩
    have g2 := f26 _ hBm
    rw [out_more hl (by omega) hBm (by simp)] at g2
    have e0 : PV.lst [.int .u8 0] false = eB [0] := rfl
    simp only [vw0, vw1, vw2, vw3, vw4, ↓reduceIte, Nat.reduceEqDiff, beq_self_eq_true, k1, k5, len_eB, gR, gt, g1, eB0, appB0 hBO.2, e0, ha, g2, eqlI, beq_self_eq_true, y10]
end Gv
