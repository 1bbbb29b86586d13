/- What this file proves: one part of the proof that the law answers true for every input, by an interpreter that is proved sound against the given model. -/
import Derived.Test.YtkjefeclbdjkcaaIns
import Derived.Test.YtkjefeclbdjkcaaVw
import Derived.Test.YtkjefeclbdjkcaaIrm
import Derived.KernelRfl
namespace Gv
open Go
theorem tabW0 : TabOk Go.Proofs.Try.prog fid (tabOf FTL) := TabOk.of_list (by kernel_rfl) (by kernel_rfl)
theorem ovl (w : World) (a b : Addr) (la ca lb cb : Nat) (hne : a.block ≠ b.block) (hA : ∃ tA kA, w.shape? a.block = some (tA, kA) ∧ w.frozen? { block := a.block, off := kA } = false) (hB : ∃ tB kB, w.shape? b.block = some (tB, kB) ∧ kB ≠ 0) (hf : w.frozen? a = false) :
    (callFunc 100 #[.slice (some a) la ca, .slice (some b) lb cb]).run Go.Proofs.Try.prog w = .ok (.value (.bool false)) w := by
  obtain ⟨tA, kA, hsa, hfe⟩ := hA
  obtain ⟨tB, kB, hsb, hkB⟩ := hB
  rw [Go.run_callFunc_extern Go.Proofs.Try.func100 (by kernel_rfl) (by kernel_rfl) (by kernel_rfl) (e := Extern.SlicesOverlaps.overlaps #[88, 88] #[4]) (by kernel_rfl),
    Go.Lib.run_overlaps_apart w 88 4 92 (by kernel_rfl) 6 (fun w => run_sizeN (P := Go.Proofs.Try.prog) (t := 92) (sz := some 6) (by kernel_rfl)) a b la ca lb cb hne tA tB kA kB hsa hsb hkB hf hfe]
  rfl
def elChk (o : Option TypeInfo) : Bool := match o with
  | some i => i.size == 6 && (match i.zero with | some z => z.cells.size == 6 | none => false) && i.bytes != 0 && decide (i.bytes ≤ 32768)
  | none => false
theorem elChk_ok {o : Option TypeInfo} (h : elChk o = true) : ∃ i z, o = some i ∧ i.size = 6 ∧ i.zero = some z ∧ z.cells.size = 6 ∧ i.bytes ≠ 0 ∧ i.bytes ≤ 32768 := by
  cases o with
  | none => cases h
  | some i =>
    simp only [elChk, Bool.and_eq_true, beq_iff_eq, bne_iff_ne, ne_eq, decide_eq_true_eq] at h
    obtain ⟨⟨⟨h1, h2⟩, h3⟩, h4⟩ := h
    cases hz : i.zero with
    | none => rw [hz] at h2; cases h2
    | some z => rw [hz] at h2; exact ⟨i, z, rfl, h1, hz, by simpa using h2, h3, h4⟩
theorem insW_ok : CallOk Go.Proofs.Try.prog fid (fun k args G => if k = 76 then insMid args G else none) := by
  obtain ⟨i, z, h1, h2, h3, h4, h5, h6⟩ := elChk_ok (o := Go.Proofs.Try.prog.info? 92) (by kernel_rfl)
  exact insMid_ok (g := 79) (ov := 100) (T := 88) (I := 3) (e := 92) (kI := .i64) (by kernel_rfl) (by kernel_rfl) (by kernel_rfl) h1 h2 h3 h4 h5 h6 Go.Proofs.ins_room Go.Proofs.ins_grow (fun w a b la ca lb cb h1 h2 h3 h4 => ovl w a b la ca lb cb h1 h2 h3 h4)
theorem fIns_chk : chkFun Go.Proofs.Try.prog fid 76 fIns = true := by kernel_rfl
theorem tabW : TabOk Go.Proofs.Try.prog fid FTM :=
  TabOk.set tabW0 (g := orW 76 fIns insMid) rfl (orW_ok rfl fIns_chk tabW0.mixed insW_ok) (chkFun_enters fIns_chk)
end Gv
