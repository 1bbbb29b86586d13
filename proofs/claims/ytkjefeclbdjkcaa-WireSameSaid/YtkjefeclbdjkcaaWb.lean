/- What this file proves: one part of the proof that the law answers true for every input, by an interpreter that is proved sound against the given model. -/
import Derived.Test.YtkjefeclbdjkcaaWa
import Derived.Test.YtkjefeclbdjkcaaWp
/- What this file proves: one part of the proof that the law answers true for every input, by an interpreter that is proved sound against the given model. -/
namespace Gv
open Go
variable {C : CallV} {V : Nat → List PV → List PV → Bool}
end Gv

namespace Gv
open Go
variable {C : CallV} {V : Nat → List PV → List PV → Bool}
def eHs (l : List SHandler) : PV := .lst (l.map eHandler) false
def eAs (l : List SActor) : PV := .lst (l.map eActor) false
def eNs (l : List SNote) : PV := .lst (l.map eNote) false
def eWs (l : List (List SInstr)) : PV := .lst (l.map eCode) false
@[simp] theorem fits_eHs (l : List SHandler) : PV.fits (eHs l) none = true := rfl
@[simp] theorem fits_eAs (l : List SActor) : PV.fits (eAs l) none = true := rfl
@[simp] theorem fits_eNs (l : List SNote) : PV.fits (eNs l) none = true := rfl
@[simp] theorem fits_eWs (l : List (List SInstr)) : PV.fits (eWs l) none = true := rfl
@[simp] theorem cell_eHs (l : List SHandler) : PV.isCell (eHs l) = true := rfl
@[simp] theorem cell_eAs (l : List SActor) : PV.isCell (eAs l) = true := rfl
@[simp] theorem cell_eNs (l : List SNote) : PV.isCell (eNs l) = true := rfl
@[simp] theorem cell_eWs (l : List (List SInstr)) : PV.isCell (eWs l) = true := rfl
@[simp] theorem cells_eHs (l : List SHandler) : PV.cells (eHs l) = [eHs l] := rfl
@[simp] theorem cells_eAs (l : List SActor) : PV.cells (eAs l) = [eAs l] := rfl
@[simp] theorem cells_eNs (l : List SNote) : PV.cells (eNs l) = [eNs l] := rfl
@[simp] theorem cells_eWs (l : List (List SInstr)) : PV.cells (eWs l) = [eWs l] := rfl
theorem vw5 : type_of% (And.intro @fits_eHs (And.intro @cell_eHs (And.intro @cells_eHs (And.intro @fits_eAs (And.intro @cell_eAs (And.intro @cells_eAs (And.intro @fits_eNs (And.intro @cell_eNs (And.intro @cells_eNs (And.intro @fits_eWs (And.intro @cell_eWs (@cells_eWs)))))))))))) := (And.intro @fits_eHs (And.intro @cell_eHs (And.intro @cells_eHs (And.intro @fits_eAs (And.intro @cell_eAs (And.intro @cells_eAs (And.intro @fits_eNs (And.intro @cell_eNs (And.intro @cells_eNs (And.intro @fits_eWs (And.intro @cell_eWs (@cells_eWs))))))))))))
theorem eProg_eq (p : SProg) : eProg p = .agg [eHs p.handlers, eAs p.actors, eNs p.boot, .int .i64 p.fuel] := rfl
theorem eTask_eq (t : STask) : eTask t = .agg [eHs t.prog.handlers, eAs t.prog.actors, eNs t.prog.boot, .int .i64 t.prog.fuel, eWs t.watch, .int .i64 t.budget.drop, .int .i64 t.budget.dup, .int .i64 t.budget.time, .int .i64 t.budget.crash, .int .i64 t.limits.depth, .int .i64 t.limits.runs] := rfl
end Gv

namespace Gv
open Go
variable {C : CallV} {V : Nat → List PV → List PV → Bool}
end Gv

namespace Gv
open Go
variable {C : CallV} {V : Nat → List PV → List PV → Bool}
end Gv

namespace Gv
open Go
variable {C : CallV} {V : Nat → List PV → List PV → Bool}
end Gv

namespace Gv
open Go
variable {C : CallV} {V : Nat → List PV → List PV → Bool}
end Gv

namespace Gv
open Go
variable {C : CallV} {V : Nat → List PV → List PV → Bool}
theorem bl_app {a b : List Nat} (ha : ∀ x ∈ a, x < 256) (hb : ∀ x ∈ b, x < 256) : ∀ x ∈ a ++ b, x < 256 := fun x h => (List.mem_append.1 h).elim (ha x) (hb x)
theorem bl_flat {α : Type} {f : α → List Nat} {l : List α} (h : ∀ y, ∀ x ∈ f y, x < 256) : ∀ x ∈ l.flatMap f, x < 256 := fun x hx => by
 obtain ⟨y, _, hy⟩ := List.mem_flatMap.1 hx
 exact h y x hy
theorem bl_num (n : Int) : ∀ x ∈ number n, x < 256 := nb_small _ _
theorem bl_N (l : List Int) : ∀ x ∈ enN l, x < 256 := bl_flat bl_num
theorem bl_code (l : List SInstr) : ∀ x ∈ enCode l, x < 256 := bl_app (bl_num _) (bl_flat fun _ => bl_app (bl_num _) (bl_num _))
theorem bl_nums (l : List Int) : ∀ x ∈ enNums l, x < 256 := bl_app (bl_num _) (bl_flat bl_num)
theorem bl_prog (p : SProg) : ∀ x ∈ enProg p, x < 256 := by
 rw [enProg_eq]
 refine bl_app (bl_app (bl_app (bl_app (bl_app (bl_app (bl_N _) (bl_flat fun h => ?_)) (bl_N _)) (bl_flat fun h => ?_)) (bl_N _)) (bl_flat fun h => ?_)) (bl_N _)
 ·rw [enHandler_eq]; exact bl_app (bl_N _) (bl_code _)
 ·rw [enActor_eq]; exact bl_app (bl_nums _) (bl_N _)
 ·rw [enNote_eq]; exact bl_app (bl_N _) (bl_nums _)
theorem enTask_lt (t : STask) : ∀ x ∈ enTask t, x < 256 := bl_app (bl_app (bl_app (by decide) (bl_prog _)) (bl_app (bl_num _) (bl_flat bl_code))) (bl_N _)
end Gv
