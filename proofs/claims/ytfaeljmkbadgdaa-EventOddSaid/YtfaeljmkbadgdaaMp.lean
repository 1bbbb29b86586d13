/- What this file proves: one part of the proof that the law answers true for every input, by an interpreter that is proved sound against the given model. -/
import Derived.Test.YtfaeljmkbadgdaaEc
import Derived.Test.YtfaeljmkbadgdaaVc
import Derived.OpenShut
namespace Gv
open Go
def nb : Nat → Nat → List Nat
 | 0, _ => []
 | k + 1, u => if 128 ≤ u then (u % 128 + 128) :: nb k (u / 128) else [u]

def zz (n : Int) : Nat := if 0 ≤ n then (2 * n).toNat else (-2 * n - 1).toNat
theorem i64_of {x : Int} (h1 : -9223372036854775808 ≤ x) (h2 : x ≤ 9223372036854775807) : IntKind.i64.wrap x = x := by
 rw [IntKind.wrap_i64]; omega
def bytesV (l : List Nat) : List PV := l.map fun (n : Nat) => PV.int .u8 (n : Int)
def number (n : Int) : List Nat := nb 10 (zz n)
end Gv

namespace Gv
open Go
def val : List Nat → Nat
 | [] => 0
 | c :: cs => c % 128 + 128 * val cs
end Gv

namespace Gv
open Go
/-! ### The document's values, plainly -/
structure SInstr where
  op : Int
  a : Int
  deriving DecidableEq
structure SHandler where
  args : Int
  code : List SInstr
  deriving DecidableEq
structure SActor where
  regs : List Int
  cap : Int
  timer : Int
  armed : Bool
  deriving DecidableEq
structure SNote where
  to : Int
  handler : Int
  args : List Int
  deriving DecidableEq
structure SProg where
  handlers : List SHandler
  actors : List SActor
  boot : List SNote
  fuel : Int
  deriving DecidableEq
structure SBudget where
  drop : Int
  dup : Int
  time : Int
  crash : Int
  deriving DecidableEq
structure SLimits where
  depth : Int
  runs : Int
  deriving DecidableEq
structure STask where
  prog : SProg
  watch : List (List SInstr)
  budget : SBudget
  limits : SLimits
  deriving DecidableEq
structure SID where
  frm : Int
  n : Int
  copy : Int
  deriving DecidableEq
structure SEvent where
  kind : Int
  id : SID
  who : Int
  deriving DecidableEq
def I64 (n : Int) : Prop := -9223372036854775808 ≤ n ∧ n ≤ 9223372036854775807
def SInstr.ok (i : SInstr) : Prop := I64 i.op ∧ I64 i.a
def SHandler.ok (h : SHandler) : Prop := I64 h.args ∧ ∀ i ∈ h.code, i.ok
def SActor.ok (a : SActor) : Prop := (∀ n ∈ a.regs, I64 n) ∧ I64 a.cap ∧ I64 a.timer
def SNote.ok (n : SNote) : Prop := I64 n.to ∧ I64 n.handler ∧ ∀ x ∈ n.args, I64 x
def SProg.ok (p : SProg) : Prop := (∀ h ∈ p.handlers, h.ok) ∧ (∀ a ∈ p.actors, a.ok) ∧ (∀ n ∈ p.boot, n.ok) ∧ I64 p.fuel
def SBudget.ok (b : SBudget) : Prop := I64 b.drop ∧ I64 b.dup ∧ I64 b.time ∧ I64 b.crash
def SLimits.ok (c : SLimits) : Prop := I64 c.depth ∧ I64 c.runs
def STask.ok (t : STask) : Prop := t.prog.ok ∧ (∀ w ∈ t.watch, ∀ i ∈ w, i.ok) ∧ t.budget.ok ∧ t.limits.ok
def SID.ok (i : SID) : Prop := I64 i.frm ∧ I64 i.n ∧ I64 i.copy
def SEvent.ok (e : SEvent) : Prop := I64 e.kind ∧ e.id.ok ∧ I64 e.who
/-! ### Their images -/
def eB (l : List Nat) : PV := .lst (bytesV l) false
def eI (l : List Int) : PV := .lst (l.map fun n => .int .i64 n) false
def eInstr (i : SInstr) : PV := .agg [.int .i64 i.op, .int .i64 i.a]
def eCode (l : List SInstr) : PV := .lst (l.map eInstr) false
def eHandler (h : SHandler) : PV := .agg [.int .i64 h.args, eCode h.code]
def eActor (a : SActor) : PV := .agg [eI a.regs, .int .i64 a.cap, .int .i64 a.timer, .bool a.armed]
def eNote (n : SNote) : PV := .agg [.int .i64 n.to, .int .i64 n.handler, eI n.args]
def cProg (p : SProg) : List PV := [.lst (p.handlers.map eHandler) false, .lst (p.actors.map eActor) false, .lst (p.boot.map eNote) false, .int .i64 p.fuel]
def cBudget (b : SBudget) : List PV := [.int .i64 b.drop, .int .i64 b.dup, .int .i64 b.time, .int .i64 b.crash]
def cLimits (c : SLimits) : List PV := [.int .i64 c.depth, .int .i64 c.runs]
def cTask (t : STask) : List PV := cProg t.prog ++ [.lst (t.watch.map eCode) false] ++ cBudget t.budget ++ cLimits t.limits
def cID (i : SID) : List PV := [.int .i64 i.frm, .int .i64 i.n, .int .i64 i.copy]
def cEvent (e : SEvent) : List PV := [.int .i64 e.kind, .int .i64 e.id.frm, .int .i64 e.id.n, .int .i64 e.id.copy, .int .i64 e.who]
def eEvent (e : SEvent) : PV := .agg (cEvent e)
def eEvents (l : List SEvent) : PV := .lst (l.map eEvent) false
/-! ### Their bytes -/
def enN (l : List Int) : List Nat := l.flatMap number
def enNums (l : List Int) : List Nat := number l.length ++ enN l
def enInstr (i : SInstr) : List Nat := number i.op ++ number i.a
def enCode (l : List SInstr) : List Nat := number l.length ++ l.flatMap enInstr
def enHandler (h : SHandler) : List Nat := number h.args ++ enCode h.code
def flagI (b : Bool) : Int := if b then 1 else 0
def enActor (a : SActor) : List Nat := enNums a.regs ++ (number a.cap ++ number a.timer ++ number (flagI a.armed))
def enNote (n : SNote) : List Nat := number n.to ++ number n.handler ++ enNums n.args
def enProg (p : SProg) : List Nat := number p.handlers.length ++ p.handlers.flatMap enHandler ++ (number p.actors.length ++ p.actors.flatMap enActor) ++ (number p.boot.length ++ p.boot.flatMap enNote) ++ number p.fuel
def enSign : List Nat := [71, 65, 86, 49]
def enTask (t : STask) : List Nat := enSign ++ enProg t.prog ++ (number t.watch.length ++ t.watch.flatMap enCode) ++ enN [t.budget.drop, t.budget.dup, t.budget.time, t.budget.crash, t.limits.depth, t.limits.runs]
def enEvent (e : SEvent) : List Nat := enN [e.kind, e.id.frm, e.id.n, e.id.copy, e.who]
def enPath (l : List SEvent) : List Nat := number l.length ++ l.flatMap enEvent
end Gv

namespace Gv
open Go
variable {C : CallV} {V : Nat → List PV → List PV → Bool}
theorem den_assoc (a b c : VC) (env : Env) : den C V (.seq a (.seq b c)) env = den C V (.seq (.seq a b) c) env := by
 simp only [den]
 cases den C V a env with
 | none => rfl
 | some r => cases r <;> rfl
theorem loopN_congr {f g : Env → Option VEx} (h : ∀ env, f env = g env) : ∀ (n : Nat) (env : Env), loopN f n env = loopN g n env
 | 0, _ => rfl
 | n + 1, env => by
  simp only [loopN, h]
  cases g env with
  | none => rfl
  | some r => cases r <;> first | exact loopN_congr h n _ | rfl
theorem loop_assoc (a b c : VC) (env : Env) : den C V (.loop (.seq a (.seq b c))) env = den C V (.loop (.seq (.seq a b) c)) env := by
 simp only [den]
 exact loopN_congr (fun e => den_assoc a b c e) _ _
theorem i64_idx {k : Nat} (h : k < 4611686018427387904) : IntKind.i64.wrap (k : Int) = k := i64_of (x := (k : Int)) (by omega) (by omega)
theorem add_idx {k : Nat} (h : k < 4611686018427387903) : binI .add .i64 (k : Int) .i64 1 = some (.int .i64 ((k + 1 : Nat) : Int)) := by
 simp only [binI]
 rw [if_neg (by decide), show ((k : Int) + 1) = ((k + 1 : Nat) : Int) from rfl, i64_idx (k := k + 1) (by omega)]
theorem lss_idx (k n : Nat) : binI .lss .i64 (k : Int) .i64 (n : Int) = some (.bool (decide (k < n))) := by simp [binI]
theorem bigN_eq : bigN = 1099511627776 := rfl
theorem for_loop {H BODY : VC} {vi b n : Nat} (hn : n < 1099511627775) (St : Nat → Env → Prop) (Stop : VEx → Prop)
  (hset : ∀ k env v, St k env → St k (env.set vi v))
  (hhead : ∀ k env, k ≤ n → St k env → env vi = .int .i64 (k : Nat) → den C V H env = some (if k < n then .norm env else .exit b env))
  (hbody : ∀ k env, k < n → St k env → env vi = .int .i64 (k : Nat) → ∃ r, den C V BODY env = some r ∧ ((∃ env', r = .norm env' ∧ St (k + 1) env' ∧ env' vi = .int .i64 (k : Nat)) ∨ ((∀ e, r ≠ .norm e) ∧ Stop r))) :
  ∀ {env : Env}, St 0 env → env vi = .int .i64 0 → ∃ r, den C V (.loop (.seq H (.seq BODY (.st [.asg [] [(vi, .bin .add (.v vi) (.int .i64 1))]])))) env = some r ∧ ((∃ env', r = .exit b env' ∧ St n env' ∧ env' vi = .int .i64 (n : Nat)) ∨ ((∀ e, r ≠ .norm e) ∧ Stop r)) := by
 have key : ∀ (d k j : Nat) {env : Env}, k + d = n → St k env → env vi = .int .i64 (k : Nat) → ∃ r, loopN (den C V (.seq H (.seq BODY (.st [.asg [] [(vi, .bin .add (.v vi) (.int .i64 1))]])))) (d + 1 + j) env = some r ∧ ((∃ env', r = .exit b env' ∧ St n env' ∧ env' vi = .int .i64 (n : Nat)) ∨ ((∀ e, r ≠ .norm e) ∧ Stop r)) := by
  intro d
  induction d with
  | zero =>
   intro k j env hk hs hv
   have hkn : k = n := by omega
   subst hkn
   refine ⟨.exit b env, ?_, .inl ⟨env, rfl, hs, hv⟩⟩
   rw [show 0 + 1 + j = j + 1 by omega]
   simp only [loopN, den, hhead k env (Nat.le_refl _) hs hv, Nat.lt_irrefl, if_false]
  | succ d ih =>
   intro k j env hk hs hv
   have hkn : k < n := by omega
   rw [show d + 1 + 1 + j = (d + 1 + j) + 1 by omega]
   obtain ⟨r, hr, hcase⟩ := hbody k env hkn hs hv
   rcases hcase with ⟨env', rfl, hs', hv'⟩ | ⟨hnn, hst⟩
   ·obtain ⟨r2, h2, h3⟩ := ih (k + 1) j (env := env'.set vi (.int .i64 ((k + 1 : Nat) : Int))) (by omega) (hset _ _ _ hs') (by simp)
    refine ⟨r2, ?_, h3⟩
    have ha := add_idx (k := k) (by omega)
    simp only [loopN, den, hhead k env (by omega) hs hv, if_pos hkn, hr, runVS, VS.run, allGood, if_true, bindAll, X.ev, hv', obind_some, bin, ha]
    exact h2
   ·refine ⟨r, ?_, .inr ⟨hnn, hst⟩⟩
    simp only [loopN, den, hhead k env (by omega) hs hv, if_pos hkn, hr]
    cases r with
    | norm e => exact absurd rfl (hnn e)
    | exit i e => rfl
    | ret x os => rfl
 intro env h0 hv
 obtain ⟨r, h1, h2⟩ := key n 0 (1099511627775 - n) (by omega) h0 hv
 refine ⟨r, ?_, h2⟩
 simp only [den]
 rw [show n + 1 + (1099511627775 - n) = bigN by rw [bigN_eq]; omega] at h1
 exact h1
theorem ia_map {α : Type} {f : α → PV} {sz k : Nat} {xs : List α} {x : α} (h : xs[k]? = some x) (hs : (f x).cells.length = sz) : indexAddrPV sz (.lst (xs.map f) false) (.int .i64 (k : Nat)) = some (.lptr (f x).cells) := by
 have hk : k < xs.length := (List.getElem?_eq_some_iff.1 h).1
 have h1 : (0 : Int) ≤ (k : Int) ∧ (k : Int) < ((xs.map f).length : Int) := by rw [List.length_map]; omega
 have h2 : (xs.map f)[(Int.toNat (k : Int))]? = some (f x) := by rw [Int.toNat_natCast, List.getElem?_map, h]; rfl
 simp only [indexAddrPV]
 rw [if_pos h1, h2]
 simp only
 rw [if_pos hs]
theorem len_map {α : Type} {f : α → PV} {xs : List α} : lenV (.lst (xs.map f) false) = some (.int .i64 (xs.length : Nat)) := by simp [lenV]
end Gv
namespace Gv
open Go
variable {C : CallV} {V : Nat → List PV → List PV → Bool}
end Gv

namespace Gv
open Go
@[simp] theorem fits_eI (l : List Int) : PV.fits (eI l) none = true := rfl
@[simp] theorem fits_eB (l : List Nat) : PV.fits (eB l) none = true := rfl
@[simp] theorem fits_eCode (l : List SInstr) : PV.fits (eCode l) none = true := rfl
@[simp] theorem cell_eI (l : List Int) : PV.isCell (eI l) = true := rfl
@[simp] theorem cell_eB (l : List Nat) : PV.isCell (eB l) = true := rfl
@[simp] theorem cell_eCode (l : List SInstr) : PV.isCell (eCode l) = true := rfl
@[simp] theorem cells_eI (l : List Int) : PV.cells (eI l) = [eI l] := rfl
@[simp] theorem cells_eB (l : List Nat) : PV.cells (eB l) = [eB l] := rfl
@[simp] theorem cells_eCode (l : List SInstr) : PV.cells (eCode l) = [eCode l] := rfl
theorem fits_int (k : IntKind) (n : Int) : PV.fits (.int k n) none = true := rfl
theorem fits_bool (b : Bool) : PV.fits (.bool b) none = true := rfl
theorem fits_str (b : List UInt8) : PV.fits (.str b) none = true := rfl
theorem fits_lst (l : List PV) (c : Bool) : PV.fits (.lst l c) none = true := rfl
theorem fits_agg (l : List PV) (n : Nat) : PV.fits (.agg l) (some n) = (l.length == n) := rfl
theorem fits_nilp : PV.fits .nilp none = true := rfl
theorem fits_lptr (l : List PV) : PV.fits (.lptr l) none = true := rfl
theorem fits_fn (f : Nat) (l : List PV) : PV.fits (.fn f l) none = true := rfl
theorem cell_int (k : IntKind) (n : Int) : PV.isCell (.int k n) = true := rfl
theorem cell_bool (b : Bool) : PV.isCell (.bool b) = true := rfl
theorem cell_str (b : List UInt8) : PV.isCell (.str b) = true := rfl
theorem cell_lst (l : List PV) (c : Bool) : PV.isCell (.lst l c) = true := rfl
theorem cell_nilp : PV.isCell .nilp = true := rfl
theorem cell_lptr (l : List PV) : PV.isCell (.lptr l) = true := rfl
theorem cell_fn (f : Nat) (l : List PV) : PV.isCell (.fn f l) = true := rfl
theorem cells_int (k : IntKind) (n : Int) : PV.cells (.int k n) = [.int k n] := rfl
theorem cells_bool (b : Bool) : PV.cells (.bool b) = [.bool b] := rfl
theorem cells_lst (l : List PV) (c : Bool) : PV.cells (.lst l c) = [.lst l c] := rfl
theorem cells_agg (l : List PV) : PV.cells (.agg l) = l := rfl
theorem get_lt {α : Type} {l : List α} {k : Nat} (h : k < l.length) : ∃ x, l[k]? = some x ∧ x ∈ l := ⟨l[k], List.getElem?_eq_getElem h, List.getElem_mem h⟩
section
variable {C : CallV} {V : Nat → List PV → List PV → Bool}
theorem nx {a b : VC} {env e : Env} {x : Option VEx} (h : den C V a env = some (.norm e)) (k : den C V b e = x) : den C V (.seq a b) env = x := by rw [den_seq h]; exact k
theorem ras (a b c : VC) (env : Env) : den C V (.seq (.seq a b) c) env = den C V (.seq a (.seq b c)) env := (den_assoc a b c env).symm
end
theorem vw0 : type_of% (And.intro @den.eq_1 (And.intro @den.eq_2 (And.intro @den.eq_3 (And.intro @den.eq_4 (And.intro @den.eq_5 (And.intro @den.eq_6 (And.intro @den.eq_7 (And.intro @den.eq_8 (And.intro @runVS.eq_1 (And.intro @runVS.eq_2 (And.intro @VS.run.eq_1 (And.intro @VS.run.eq_2 (And.intro @VS.run.eq_3 (And.intro @allGood.eq_1 (And.intro @allGood.eq_2 (And.intro @bindAll.eq_1 (And.intro @bindAll.eq_2 (And.intro @evAll.eq_1 (And.intro @evAll.eq_2 (And.intro @X.ev.eq_1 (And.intro @X.ev.eq_2 (And.intro @X.ev.eq_3 (And.intro @X.ev.eq_4 (And.intro @X.ev.eq_5 (And.intro @X.ev.eq_6 (And.intro @X.ev.eq_7 (And.intro @X.ev.eq_8 (And.intro @X.ev.eq_9 (And.intro @X.ev.eq_10 (@X.ev.eq_11)))))))))))))))))))))))))))))) := (And.intro @den.eq_1 (And.intro @den.eq_2 (And.intro @den.eq_3 (And.intro @den.eq_4 (And.intro @den.eq_5 (And.intro @den.eq_6 (And.intro @den.eq_7 (And.intro @den.eq_8 (And.intro @runVS.eq_1 (And.intro @runVS.eq_2 (And.intro @VS.run.eq_1 (And.intro @VS.run.eq_2 (And.intro @VS.run.eq_3 (And.intro @allGood.eq_1 (And.intro @allGood.eq_2 (And.intro @bindAll.eq_1 (And.intro @bindAll.eq_2 (And.intro @evAll.eq_1 (And.intro @evAll.eq_2 (And.intro @X.ev.eq_1 (And.intro @X.ev.eq_2 (And.intro @X.ev.eq_3 (And.intro @X.ev.eq_4 (And.intro @X.ev.eq_5 (And.intro @X.ev.eq_6 (And.intro @X.ev.eq_7 (And.intro @X.ev.eq_8 (And.intro @X.ev.eq_9 (And.intro @X.ev.eq_10 (@X.ev.eq_11))))))))))))))))))))))))))))))
theorem vw1 : type_of% (And.intro @X.ev.eq_12 (And.intro @X.ev.eq_13 (And.intro @X.ev.eq_14 (And.intro @X.ev.eq_15 (And.intro @X.ev.eq_16 (And.intro @X.ev.eq_17 (And.intro @X.ev.eq_18 (And.intro @X.ev.eq_19 (And.intro @X.ev.eq_20 (And.intro @X.ev.eq_21 (And.intro @X.ev.eq_22 (And.intro @X.ev.eq_23 (And.intro @X.ev.eq_24 (And.intro @X.ev.eq_25 (And.intro @X.ev.eq_26 (And.intro @X.ev.eq_27 (And.intro @X.ev.eq_28 (And.intro @X.ev.eq_29 (And.intro @X.ev.eq_30 (And.intro @X.ev.eq_31 (And.intro @X.ev.eq_32 (And.intro @X.ev.eq_33 (And.intro @X.ev.eq_34 (And.intro @X.ev.eq_35 (And.intro @X.ev.eq_36 (And.intro @X.ev.eq_37 (And.intro @X.ev.eq_38 (And.intro @X.ev.eq_39 (And.intro @guardV.eq_1 (@guardV.eq_2)))))))))))))))))))))))))))))) := (And.intro @X.ev.eq_12 (And.intro @X.ev.eq_13 (And.intro @X.ev.eq_14 (And.intro @X.ev.eq_15 (And.intro @X.ev.eq_16 (And.intro @X.ev.eq_17 (And.intro @X.ev.eq_18 (And.intro @X.ev.eq_19 (And.intro @X.ev.eq_20 (And.intro @X.ev.eq_21 (And.intro @X.ev.eq_22 (And.intro @X.ev.eq_23 (And.intro @X.ev.eq_24 (And.intro @X.ev.eq_25 (And.intro @X.ev.eq_26 (And.intro @X.ev.eq_27 (And.intro @X.ev.eq_28 (And.intro @X.ev.eq_29 (And.intro @X.ev.eq_30 (And.intro @X.ev.eq_31 (And.intro @X.ev.eq_32 (And.intro @X.ev.eq_33 (And.intro @X.ev.eq_34 (And.intro @X.ev.eq_35 (And.intro @X.ev.eq_36 (And.intro @X.ev.eq_37 (And.intro @X.ev.eq_38 (And.intro @X.ev.eq_39 (And.intro @guardV.eq_1 (@guardV.eq_2))))))))))))))))))))))))))))))
theorem vw2 : type_of% (And.intro @listOf.eq_1 (And.intro @listOf.eq_2 (And.intro @toIntV.eq_1 (And.intro @toIntV.eq_2 (And.intro @bin.eq_1 (And.intro @bin.eq_2 (And.intro @bin.eq_3 (And.intro @bin.eq_4 (And.intro @bin.eq_5 (And.intro @bin.eq_6 (And.intro @ldV.eq_1 (And.intro @ldV.eq_2 (And.intro @fldV.eq_1 (And.intro @fldV.eq_2 (And.intro @extV.eq_1 (And.intro @extV.eq_2 (And.intro @loadV.eq_1 (And.intro @loadC.eq_1 (And.intro @loadC.eq_2 (And.intro @okCells.eq_1 (And.intro @okCells.eq_2 (And.intro @chkV.eq_1 (And.intro @fieldAddrPV.eq_1 (And.intro @fieldAddrPV.eq_2 (And.intro @fieldAddrPV.eq_3 (And.intro @Env.sets.eq_1 (And.intro @Env.sets.eq_2 (And.intro @obind_some (And.intro @obind_none (@Env.set_at)))))))))))))))))))))))))))))) := (And.intro @listOf.eq_1 (And.intro @listOf.eq_2 (And.intro @toIntV.eq_1 (And.intro @toIntV.eq_2 (And.intro @bin.eq_1 (And.intro @bin.eq_2 (And.intro @bin.eq_3 (And.intro @bin.eq_4 (And.intro @bin.eq_5 (And.intro @bin.eq_6 (And.intro @ldV.eq_1 (And.intro @ldV.eq_2 (And.intro @fldV.eq_1 (And.intro @fldV.eq_2 (And.intro @extV.eq_1 (And.intro @extV.eq_2 (And.intro @loadV.eq_1 (And.intro @loadC.eq_1 (And.intro @loadC.eq_2 (And.intro @okCells.eq_1 (And.intro @okCells.eq_2 (And.intro @chkV.eq_1 (And.intro @fieldAddrPV.eq_1 (And.intro @fieldAddrPV.eq_2 (And.intro @fieldAddrPV.eq_3 (And.intro @Env.sets.eq_1 (And.intro @Env.sets.eq_2 (And.intro @obind_some (And.intro @obind_none (@Env.set_at))))))))))))))))))))))))))))))
theorem vw3 : type_of% (And.intro @fits_int (And.intro @fits_bool (And.intro @fits_str (And.intro @fits_lst (And.intro @fits_agg (And.intro @fits_nilp (And.intro @fits_lptr (And.intro @fits_fn (And.intro @cell_int (And.intro @cell_bool (And.intro @cell_str (And.intro @cell_lst (And.intro @cell_nilp (And.intro @cell_lptr (And.intro @cell_fn (And.intro @cells_int (And.intro @cells_bool (And.intro @cells_lst (And.intro @cells_agg (And.intro @cells_eI (And.intro @cells_eB (And.intro @cells_eCode (And.intro @fits_eI (And.intro @fits_eB (And.intro @fits_eCode (And.intro @cell_eI (And.intro @cell_eB (And.intro @cell_eCode (And.intro @Option.isSome_some.{0} (@Option.isSome_none.{0})))))))))))))))))))))))))))))) := (And.intro @fits_int (And.intro @fits_bool (And.intro @fits_str (And.intro @fits_lst (And.intro @fits_agg (And.intro @fits_nilp (And.intro @fits_lptr (And.intro @fits_fn (And.intro @cell_int (And.intro @cell_bool (And.intro @cell_str (And.intro @cell_lst (And.intro @cell_nilp (And.intro @cell_lptr (And.intro @cell_fn (And.intro @cells_int (And.intro @cells_bool (And.intro @cells_lst (And.intro @cells_agg (And.intro @cells_eI (And.intro @cells_eB (And.intro @cells_eCode (And.intro @fits_eI (And.intro @fits_eB (And.intro @fits_eCode (And.intro @cell_eI (And.intro @cell_eB (And.intro @cell_eCode (And.intro @Option.isSome_some.{0} (@Option.isSome_none.{0}))))))))))))))))))))))))))))))
theorem vw4 : type_of% (And.intro @List.getElem?_cons_zero.{0} (And.intro @List.getElem?_cons_succ.{0} (And.intro @List.drop_succ_cons.{0} (And.intro @List.drop_zero.{0} (And.intro @List.take_succ_cons.{0} (And.intro @List.take_zero.{0} (And.intro @List.length_cons.{0} (And.intro @List.length_nil.{0} (And.intro @Bool.true_and (And.intro @Bool.false_and (And.intro @Bool.and_true (And.intro @Nat.le_refl (And.intro @Bool.false_eq_true (And.intro @and_self (@and_true))))))))))))))) := (And.intro @List.getElem?_cons_zero.{0} (And.intro @List.getElem?_cons_succ.{0} (And.intro @List.drop_succ_cons.{0} (And.intro @List.drop_zero.{0} (And.intro @List.take_succ_cons.{0} (And.intro @List.take_zero.{0} (And.intro @List.length_cons.{0} (And.intro @List.length_nil.{0} (And.intro @Bool.true_and (And.intro @Bool.false_and (And.intro @Bool.and_true (And.intro @Nat.le_refl (And.intro @Bool.false_eq_true (And.intro @and_self (@and_true)))))))))))))))
end Gv
namespace Gv
open Go
variable {C : CallV} {V : Nat → List PV → List PV → Bool}
end Gv

namespace Gv
open Go Go.ChangeShapes Go.WideShapes Go.RowKit
theorem VT.ct {c : CTy} {x : PV} (h : VT false [c] x) : CT c x := h.at_ 0 _ x rfl (by rw [cells_one (h.one rfl)]; rfl)
theorem ct_i64 {x : PV} (h : CT (.int .i64) x) : ∃ n : Int, x = .int .i64 n ∧ I64 n := by
 cases h with
 | int _ k hw =>
  obtain ⟨a, b⟩ := bounds_i64 hw
  exact ⟨k, rfl, a, b⟩
end Gv

namespace Gv
open Go
structure SMsg where
 id : SID
 note : SNote
 deriving DecidableEq
def cMsg (m : SMsg) : List PV := [.int .i64 m.id.frm, .int .i64 m.id.n, .int .i64 m.id.copy, .int .i64 m.note.to, .int .i64 m.note.handler, eI m.note.args]
def eMsg (m : SMsg) : PV := .agg (cMsg m)
def eMsgs (l : List SMsg) : PV := .lst (l.map eMsg) false
def eID (i : SID) : PV := .agg (cID i)
theorem ia_ms {k : Nat} {l : List SMsg} {x : SMsg} (h : l[k]? = some x) : indexAddrPV 6 (eMsgs l) (.int .i64 (k : Nat)) = some (.lptr (cMsg x)) := ia_map (f := eMsg) h rfl
theorem len_ms {l : List SMsg} : lenV (eMsgs l) = some (.int .i64 l.length) := len_map
end Gv

namespace Gv
open Go
variable {C : CallV} {V : Nat → List PV → List PV → Bool}
abbrev hdC (c : X) (b : Nat) : VC := .seq (.st [.asg [c] []]) (.cond c .skip (.exit b))
abbrev incC (vi : Nat) : VC := .st [.asg [] [(vi, .bin .add (.v vi) (.int .i64 1))]]
theorem hd_ok {c : X} {b n k : Nat} {env : Env} (h : c.ev env = some (.bool (decide (k < n)))) : den C V (hdC c b) env = some (if k < n then .norm env else .exit b env) := by
 by_cases hk : k < n
 ·simp only [den, runVS, VS.run, allGood, h, hk, decide_true, Option.isSome_some, Bool.true_and, if_true, bindAll, obind_some]
 ·simp only [den, runVS, VS.run, allGood, h, hk, decide_false, Option.isSome_some, Bool.true_and, if_true, bindAll, if_false, obind_some]
theorem rngA {c : X} {b vi : Nat} {BODY : VC} {env : Env} : den C V (.block b (.loop (.seq (.st [.asg [c] []]) (.seq (.cond c .skip (.exit b)) (.seq BODY (incC vi)))))) env = den C V (.block b (.loop (.seq (hdC c b) (.seq BODY (incC vi))))) env := by
 have := loop_assoc (C := C) (V := V) (.st [.asg [c] []]) (.cond c .skip (.exit b)) (.seq BODY (incC vi)) env
 rw [den.eq_def, den.eq_def C V (.block b _)]
 simp only
 rw [this]
theorem find_loop {c : X} {BODY : VC} {vi b n : Nat} (hn : n < 1099511627775) (p : Nat → Bool) (R : Nat → PV) (St : Nat → Env → Prop)
  (hset : ∀ k env v, St k env → St k (env.set vi v))
  (hc : ∀ k env, k ≤ n → St k env → env vi = .int .i64 (k : Nat) → c.ev env = some (.bool (decide (k < n))))
  (hbody : ∀ k env, k < n → St k env → env vi = .int .i64 (k : Nat) → ∃ r, den C V BODY env = some r ∧ (if p k then r = .ret (R k) [] else ∃ env', r = .norm env' ∧ St (k + 1) env' ∧ env' vi = .int .i64 (k : Nat)))
  {env : Env} (h0 : St 0 env) (hv : env vi = .int .i64 0) :
  ∃ r, den C V (.block b (.loop (.seq (hdC c b) (.seq BODY (incC vi))))) env = some r ∧ ((∃ k, k < n ∧ p k = true ∧ (∀ j, j < k → p j = false) ∧ r = .ret (R k) []) ∨ ((∀ k, k < n → p k = false) ∧ ∃ env', r = .norm env' ∧ St n env')) := by
 obtain ⟨r, h1, h2⟩ := for_loop (C := C) (V := V) (b := b) (H := hdC c b) (BODY := BODY) hn (fun k e => St k e ∧ ∀ j, j < k → p j = false) (fun r => ∃ k, k < n ∧ p k = true ∧ (∀ j, j < k → p j = false) ∧ r = .ret (R k) []) (fun k env v h => ⟨hset k env v h.1, h.2⟩)
  (fun k env hk hs hv => hd_ok (hc k env hk hs.1 hv))
  (fun k env hk hs hv => by
   obtain ⟨r, h3, h4⟩ := hbody k env hk hs.1 hv
   cases hp : p k with
   | true =>
    rw [hp, if_pos rfl] at h4
    subst h4
    exact ⟨_, h3, .inr ⟨fun e h => (by cases h), k, hk, hp, hs.2, rfl⟩⟩
   | false =>
    rw [hp, if_neg (by simp)] at h4
    obtain ⟨e, rfl, h5, h6⟩ := h4
    refine ⟨_, h3, .inl ⟨e, rfl, ⟨h5, fun j hj => ?_⟩, h6⟩⟩
    rcases Nat.lt_succ_iff_lt_or_eq.1 hj with h | rfl
    ·exact hs.2 j h
    ·exact hp) ⟨h0, fun j hj => absurd hj (Nat.not_lt_zero _)⟩ hv
 rcases h2 with ⟨e, rfl, h3, _⟩ | ⟨_, k, h3, h4, h5, rfl⟩
 ·exact ⟨_, den_block h1, .inr ⟨h3.2, e, rfl, h3.1⟩⟩
 ·exact ⟨_, den_block_ret h1, .inl ⟨k, h3, h4, h5, rfl⟩⟩
theorem find_seq {c : X} {BODY K : VC} {vi b n : Nat} {X0 : Option VEx} (hn : n < 1099511627775) (p : Nat → Bool) (R : Nat → PV) (St : Nat → Env → Prop)
  (hset : ∀ k env v, St k env → St k (env.set vi v))
  (hc : ∀ k env, k ≤ n → St k env → env vi = .int .i64 (k : Nat) → c.ev env = some (.bool (decide (k < n))))
  (hbody : ∀ k env, k < n → St k env → env vi = .int .i64 (k : Nat) → ∃ r, den C V BODY env = some r ∧ (if p k then r = .ret (R k) [] else ∃ env', r = .norm env' ∧ St (k + 1) env' ∧ env' vi = .int .i64 (k : Nat)))
  (hr : ∀ k, k < n → p k = true → (∀ j, j < k → p j = false) → X0 = some (.ret (R k) [])) (hk : (∀ k, k < n → p k = false) → ∀ e, St n e → den C V K e = X0)
  {env : Env} (h0 : St 0 env) (hv : env vi = .int .i64 0) :
  den C V (.seq (.block b (.loop (.seq (hdC c b) (.seq BODY (incC vi))))) K) env = X0 := by
 obtain ⟨r, h1, h2⟩ := find_loop (C := C) (V := V) hn p R St hset hc hbody h0 hv
 rcases h2 with ⟨k, a1, a2, a3, rfl⟩ | ⟨a1, e, rfl, a2⟩
 ·rw [den_seq_ret h1, hr k a1 a2 a3]
 ·exact nx h1 (hk a1 e a2)
theorem find_seqA {c : X} {BODY K : VC} {vi b n : Nat} {X0 : Option VEx} (hn : n < 1099511627775) (p : Nat → Bool) (R : Nat → PV) (St : Nat → Env → Prop)
  (hset : ∀ k env v, St k env → St k (env.set vi v))
  (hc : ∀ k env, k ≤ n → St k env → env vi = .int .i64 (k : Nat) → c.ev env = some (.bool (decide (k < n))))
  (hbody : ∀ k env, k < n → St k env → env vi = .int .i64 (k : Nat) → ∃ r, den C V BODY env = some r ∧ (if p k then r = .ret (R k) [] else ∃ env', r = .norm env' ∧ St (k + 1) env' ∧ env' vi = .int .i64 (k : Nat)))
  (hr : ∀ k, k < n → p k = true → (∀ j, j < k → p j = false) → X0 = some (.ret (R k) [])) (hk : (∀ k, k < n → p k = false) → ∀ e, St n e → den C V K e = X0)
  {env : Env} (h0 : St 0 env) (hv : env vi = .int .i64 0) :
  den C V (.seq (.block b (.loop (.seq (.st [.asg [c] []]) (.seq (.cond c .skip (.exit b)) (.seq BODY (incC vi)))))) K) env = X0 := by
 have := find_seq (C := C) (V := V) (K := K) (X0 := X0) (b := b) hn p R St hset hc hbody hr hk h0 hv
 rw [← this, den.eq_def, den.eq_def C V (.seq _ K)]
 simp only
 rw [rngA]
end Gv
