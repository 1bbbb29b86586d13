/- What this file proves: one part of the proof that the law answers true for every input, by an interpreter that is proved sound against the given model. -/
import Derived.Test.YtfaeljmkbadgdaaVc
import Derived.KernelRfl
namespace Gv
open Go

end Gv

namespace Gv
open Go
section
variable {fid : Nat → FuncId} {P : Program} {M : Mp} {w : World} {h : Heap}
theorem HR.world {w' : World} (H : HR fid M h w) (h1 : ∀ r v loc, M.io r v = some loc → w'.heap[loc.b]? = w.heap[loc.b]?) (h2 : ∀ b, M.rd b ≠ none → w'.heap[b]? = w.heap[b]?) : HR fid M h w' :=
 ⟨H.cv, H.dom, H.has, H.out, fun r e b loc a1 a2 a3 => by
  obtain ⟨c, t, lo, hi, B⟩ := H.blk r e b loc a1 a2 a3
  exact ⟨c, t, lo, hi, ⟨by rw [h1 _ _ _ a3]; exact B.heap, B.sz, B.size, B.free, B.lohi, B.fits, B.ro, B.rw_, B.cells⟩⟩, H.inj, fun b vs hb => by
  obtain ⟨t, fz, hh⟩ := H.rd b vs hb
  exact ⟨t, fz, by rw [h2 b (by rw [hb]; simp)]; exact hh⟩⟩
end
end Gv

namespace Gv
open Go
end Gv

namespace Gv
open Go
abbrev io (d : Nat) (x : IOp) : IOper := ⟨some d, x, none, []⟩

open Classical in
def setT (FT : Nat → Option IFun) (f : Nat) (F : IFun) : Nat → Option IFun := fun k => if k = f then some F else FT k
theorem TabOk.set {P : Program} {fid : Nat → FuncId} {FT : Nat → Option IFun} (h : TabOk P fid FT) {f : Nat} {F : IFun} {g : List PV → List Blk → Option (PV × List (Option Blk))} (hi : F.intr = some g) (hg : CallOk P fid (fun k args G => if k = f then g args G else none)) (he : Enters P (fid f)) : TabOk P fid (setT FT f F) :=
 ⟨fun k F' hk hn => (by
  unfold setT at hk
  split at hk
  ·cases hk; rw [hi] at hn; cases hn
  ·exact h.walk k F' hk hn), fun k F' g' hk hn => (by
  unfold setT at hk
  split at hk
  ·rename_i e; subst e; cases hk; rw [hi] at hn; cases hn; exact ⟨hg, he⟩
  ·exact h.intr k F' g' hk hn), h.mixed⟩
end Gv

namespace Gv
open Go
section
variable {FT : Nat → Option IFun} {h : Heap} {fr : List PV} {n : Nat}
end
theorem ex_seq1 {FT : Nat → Option IFun} {n : Nat} {a b : ICode} {σ σ' : St} {r : Option (Ex × St)} (h1 : exec FT n a σ = some (.norm, σ')) (h2 : exec FT n b σ' = r) : exec FT (n + 1) (.seq a b) σ = r := by
 rw [exec.eq_def]; simp only; rw [h1]; exact h2
theorem ex_cond2 {FT : Nat → Option IFun} {n : Nat} {x y : ICode} {σ : St} {t : Nat} {r : Option (Ex × St)} (h : nth σ.fr t = .bool false) (hx : exec FT n y σ = r) : exec FT (n + 1) (.cond (.t t) x y) σ = r := by
 rw [exec.eq_def]; simp only [PO.ev, h]; exact hx
theorem ex_ret0 {FT : Nat → Option IFun} {n : Nat} {σ : St} : exec FT (n + 1) .ret σ = some (.ret, σ) := by rw [exec.eq_def]
theorem ex_skip0 {FT : Nat → Option IFun} {n : Nat} {σ : St} : exec FT (n + 1) .skip σ = some (.norm, σ) := by rw [exec.eq_def]
section
variable {FT : Nat → Option IFun} {f p off len room i j : Nat} {b : Blk} {G : List Blk}
end
end Gv

namespace Gv
open Go
end Gv

namespace Gv
open Go
def OkFrom (FT : Nat → Option IFun) (sgs : Nat → Option Sig) : Nat → List (Option VFun) → Prop
 | _, [] => True
 | n, none :: l => OkFrom FT sgs (n + 1) l
 | n, some F :: l => (F.binds = [] ∧ EntOk FT sgs n F) ∧ OkFrom FT sgs (n + 1) l
theorem OkFrom.get {FT : Nat → Option IFun} {sgs : Nat → Option Sig} : ∀ {l : List (Option VFun)} {n : Nat}, OkFrom FT sgs n l → ∀ {k : Nat} {F : VFun}, l[k]? = some (some F) → F.binds = [] ∧ EntOk FT sgs (n + k) F
 | none :: l, n, h, 0, F, hk => by simp at hk
 | none :: l, n, h, k + 1, F, hk => by
  have := OkFrom.get (l := l) (n := n + 1) h (k := k) (F := F) (by simpa using hk)
  rw [show n + (k + 1) = n + 1 + k by omega]; exact this
 | some G :: l, n, h, 0, F, hk => by
  simp only [List.getElem?_cons_zero, Option.some.injEq] at hk
  subst hk; exact h.1
 | some G :: l, n, h, k + 1, F, hk => by
  have := OkFrom.get (l := l) (n := n + 1) h.2 (k := k) (F := F) (by simpa using hk)
  rw [show n + (k + 1) = n + 1 + k by omega]; exact this
theorem vtok_of {FT : Nat → Option IFun} {l : List (Option VFun)} (h : OkFrom FT (fun g => (tabV l g).map VFun.sig) 0 l) : VTOk' FT (tabV l) := fun f F hf => by
 have hk : l[f]? = some (some F) := by
  unfold tabV at hf
  rw [List.getD_eq_getElem?_getD] at hf
  cases hq : l[f]? with
  | none => rw [hq] at hf; simp at hf
  | some x => rw [hq] at hf; simp only [Option.getD_some] at hf; rw [hf]
 have := h.get hk
 rwa [Nat.zero_add] at this
end Gv

namespace Gv
open Go
def cOps : List IOper := [io 5 (.buildSlice none [] 0), io 6 (.mov (.t 0)), io 7 (.append 1 (.t 5) (.t 6) 1), io 2 (.mov (.t 7))]
def fCl : IFun := ⟨8, 2, false, [true], [.tmp 2],
 (.seq
 (.reg [io 2 (.mov (.c .nils))] false)
 (.seq
  (.seq
  (.reg [io 3 (.mov (.t 0)), io 4 (.eqn 0 false (.t 3) (.c .nils))] false)
  (.cond (.t 4)
   (.seq
   (.reg [io 2 (.mov (.c .nils))] false)
   .ret)
   .skip))
  (.seq
  (.reg cOps false)
  .ret))), none⟩
theorem cl_nil {FT : Nat → Option IFun} {f : Nat} (hF : FT f = some fCl) : callE FT 20 f [.nils] [] = some (.nils, []) := by
 rw [callE.eq_def]
 simp only [hF]
 rfl
theorem cl_app {es : List PV} {c : Bool} (hp : plL es = true) (hs : sized 1 es = true) (hm : es.length < maxNew) (hne : es ≠ []) {h : Heap} (h0 : h.get (.l 0) = some ⟨1, some ⟨1, [], false⟩⟩) (h1 : h.get (.l 1) = some ⟨0, none⟩) :
  (appendHM 1 (.tok (.l 0) 1 1 0 0 0 false) (.lst es c) 1).run h = some (.tok (.l 1) 1 1 0 es.length es.length false, (h.put (.l 0) ⟨1, none⟩).put (.l 1) ⟨1, some ⟨1, es, false⟩⟩) := by
 have hmp := mapM_pl2 hp 7
 have he : es.isEmpty = false := by cases es with | nil => exact absurd rfl hne | cons => rfl
 have hpos : 0 < es.length := List.length_pos_iff.2 hne
 have h1' : (h.put (.l 0) ⟨1, none⟩).get (.l 1) = some ⟨0, none⟩ := by rw [Heap.get_put_other (by intro h; cases h)]; exact h1
 simp only [appendHM, elems, HM.bind]
 rw [if_pos hs, hmp]
 simp only [HM.bind, he, Bool.false_eq_true, if_false, appendTok, liveBlk, HM.run, h0, if_true, HM.ofO]
 rw [if_pos ⟨trivial, trivial, by simp, by omega⟩, if_neg (by omega), if_neg (by simp)]
 simp [HM.run, h0, newBlk, h1', HM.bind]
theorem cl_run {FT : Nat → Option IFun} {f : Nat} (hF : FT f = some fCl) {es : List PV} {c : Bool} (hp : plL es = true) (hs : sized 1 es = true) (hm : es.length < maxNew) :
  callE FT 20 f [.lst es c] [] = some (.tok (.l 0) 0 1 0 es.length es.length false, [some ⟨1, es, false⟩]) := by
 cases hes : es with
 | nil =>
  subst hes
  rw [callE.eq_def]
  simp only [hF]
  rfl
 | cons y ys =>
  rw [← hes]
  have hne : es ≠ [] := by rw [hes]; simp
  have happ := cl_app (c := c) hp hs hm hne (h := ⟨[], [⟨1, some ⟨1, [], false⟩⟩, ⟨0, none⟩]⟩) rfl rfl
  clear hes
  have hreg : runOps (fun f => match FT f with | some F => F.ro | none => []) (callE FT 14) cOps ⟨[.lst es c, .junk, .nils, .lst es c, .bool false, .junk, .junk, .junk], ⟨[], [⟨0, none⟩, ⟨0, none⟩]⟩⟩ =
    some ⟨[.lst es c, .junk, .tok (.l 1) 1 1 0 es.length es.length false, .lst es c, .bool false, .tok (.l 0) 1 1 0 0 0 false, .lst es c, .tok (.l 1) 1 1 0 es.length es.length false], ⟨[], [⟨1, none⟩, ⟨1, some ⟨1, es, false⟩⟩]⟩⟩ := by
   have e1 : stepOp (fun f => match FT f with | some F => F.ro | none => []) (callE FT 14) (io 5 (.buildSlice none [] 0)) ⟨[.lst es c, .junk, .nils, .lst es c, .bool false, .junk, .junk, .junk], ⟨[], [⟨0, none⟩, ⟨0, none⟩]⟩⟩ = some ⟨[.lst es c, .junk, .nils, .lst es c, .bool false, .tok (.l 0) 1 1 0 0 0 false, .junk, .junk], ⟨[], [⟨1, some ⟨1, [], false⟩⟩, ⟨0, none⟩]⟩⟩ := rfl
   have e2 : stepOp (fun f => match FT f with | some F => F.ro | none => []) (callE FT 14) (io 6 (.mov (.t 0))) ⟨[.lst es c, .junk, .nils, .lst es c, .bool false, .tok (.l 0) 1 1 0 0 0 false, .junk, .junk], ⟨[], [⟨1, some ⟨1, [], false⟩⟩, ⟨0, none⟩]⟩⟩ = some ⟨[.lst es c, .junk, .nils, .lst es c, .bool false, .tok (.l 0) 1 1 0 0 0 false, .lst es c, .junk], ⟨[], [⟨1, some ⟨1, [], false⟩⟩, ⟨0, none⟩]⟩⟩ := rfl
   have e3 : stepOp (fun f => match FT f with | some F => F.ro | none => []) (callE FT 14) (io 7 (.append 1 (.t 5) (.t 6) 1)) ⟨[.lst es c, .junk, .nils, .lst es c, .bool false, .tok (.l 0) 1 1 0 0 0 false, .lst es c, .junk], ⟨[], [⟨1, some ⟨1, [], false⟩⟩, ⟨0, none⟩]⟩⟩ = some ⟨[.lst es c, .junk, .nils, .lst es c, .bool false, .tok (.l 0) 1 1 0 0 0 false, .lst es c, .tok (.l 1) 1 1 0 es.length es.length false], ⟨[], [⟨1, none⟩, ⟨1, some ⟨1, es, false⟩⟩]⟩⟩ := by
    show (match (appendHM 1 (.tok (.l 0) 1 1 0 0 0 false) (.lst es c) 1).run ⟨[], [⟨1, some ⟨1, [], false⟩⟩, ⟨0, none⟩]⟩ with | some (v, h) => some (⟨upd _ 7 v, h⟩ : St) | none => none) = _
    rw [happ]; rfl
   simp only [cOps, runOps, e1, e2, e3]
   rfl
  have hex : exec FT 19 fCl.body ⟨[.lst es c, .junk, .junk, .junk, .junk, .junk, .junk, .junk], ⟨[], [⟨0, none⟩, ⟨0, none⟩]⟩⟩ = some (.ret, ⟨[.lst es c, .junk, .tok (.l 1) 1 1 0 es.length es.length false, .lst es c, .bool false, .tok (.l 0) 1 1 0 0 0 false, .lst es c, .tok (.l 1) 1 1 0 es.length es.length false], ⟨[], [⟨1, none⟩, ⟨1, some ⟨1, es, false⟩⟩]⟩⟩) := by
   have g1 : exec FT 18 (.reg [io 2 (.mov (.c .nils))] false) ⟨[.lst es c, .junk, .junk, .junk, .junk, .junk, .junk, .junk], ⟨[], [⟨0, none⟩, ⟨0, none⟩]⟩⟩ = some (.norm, ⟨[.lst es c, .junk, .nils, .junk, .junk, .junk, .junk, .junk], ⟨[], [⟨0, none⟩, ⟨0, none⟩]⟩⟩) := rfl
   have g2 : exec FT 16 (.reg [io 3 (.mov (.t 0)), io 4 (.eqn 0 false (.t 3) (.c .nils))] false) ⟨[.lst es c, .junk, .nils, .junk, .junk, .junk, .junk, .junk], ⟨[], [⟨0, none⟩, ⟨0, none⟩]⟩⟩ = some (.norm, ⟨[.lst es c, .junk, .nils, .lst es c, .bool false, .junk, .junk, .junk], ⟨[], [⟨0, none⟩, ⟨0, none⟩]⟩⟩) := rfl
   refine ex_seq1 g1 (ex_seq1 (ex_seq1 g2 (ex_cond2 rfl ex_skip0)) (ex_seq1 (n := 16) ?_ ex_ret0))
   rw [exec.eq_def]; simp only
   have h2 := runOps_le (callE_mono (FT := FT) (n := 14) (m := 15) (by omega)) hreg
   change (match runOps (fun f => match FT f with | some F => F.ro | none => []) (callE FT 15) cOps _ with | some σ' => some (Ex.norm, σ') | none => none) = _
   rw [h2]
  rw [callE.eq_def]
  simp only [hF]
  have hi : fCl.intr = none := rfl
  rw [hi]
  simp only
  have hs0 : (⟨[PV.lst es c] ++ List.replicate (fCl.ntmps - [PV.lst es c].length) PV.junk, ⟨List.map some ([] : List Blk), List.replicate fCl.nslots ⟨0, none⟩⟩⟩ : St) = ⟨[.lst es c, .junk, .junk, .junk, .junk, .junk, .junk, .junk], ⟨[], [⟨0, none⟩, ⟨0, none⟩]⟩⟩ := rfl
  rw [hs0, hex]
  simp only
  have ht : toksL es = [] := plL_toks hp
  have hren : ∀ g, renL g es = es := fun g => (plL_ren hp g).1
  have hfin : (finish fCl ([] : List Blk).length [.lst es c, .junk, .tok (.l 1) 1 1 0 es.length es.length false, .lst es c, .bool false, .tok (.l 0) 1 1 0 0 0 false, .lst es c, .tok (.l 1) 1 1 0 es.length es.length false]).run ⟨[], [⟨1, none⟩, ⟨1, some ⟨1, es, false⟩⟩]⟩ = some ((.tok (.l 0) 0 1 0 es.length es.length false, [some ⟨1, es, false⟩]), ⟨[], [⟨1, none⟩, ⟨1, some ⟨1, es, false⟩⟩]⟩) := by
   unfold finish
   simp [fCl, resOf, HM.bind, HM.run, one, argBlks, toks, blkToks, collectL, Heap.get, nth, idxOf, ren, Blk.ren, hren, ht]
  rw [hfin]
end Gv

namespace Gv
open Go
def vCl' : VFun := ⟨⟨[.F], .O 1 true, true⟩, [], .seq (.st [.asg [.len (.v 0)] []]) (.ret (.app 1 (.lst .nl) (.v 0)) [])⟩
theorem vCl_inv {C : CallV} {V : Nat → List PV → List PV → Bool} {x0 x : PV} {os : List PV} (hd : den C V vCl'.body (Env.ofArgs [x0]) = some (.ret x os)) :
  ∃ es c, x0 = .lst es c ∧ sized 1 es = true ∧ es.length < maxNew ∧ x = .lst es false ∧ os = [] := by
 have e0 : Env.ofArgs [x0] 0 = x0 := rfl
 generalize Env.ofArgs [x0] = env at *
 have hgood : allGood env [.len (.v 0)] = true := by
  cases hb : allGood env [.len (.v 0)] with
  | true => rfl
  | false => simp only [vCl', den, runVS, VS.run, hb, Bool.false_eq_true, if_false, obind_none] at hd; cases hd
 simp only [vCl', den, runVS, VS.run, hgood, if_true, bindAll, evAll, obind_some] at hd
 simp only [allGood, Bool.and_true, X.ev, e0, obind_some] at hgood
 simp only [X.ev, e0, obind_some, listOf] at hd
 cases x0 <;> simp [lenV] at hgood
 rename_i es c
 simp only [obind_eq] at hd
 obtain ⟨y, hy, hd⟩ := hd
 cases hd
 simp only [appV] at hy
 split at hy
 case isFalse => cases hy
 rename_i q
 cases hy
 simp only [List.length_nil, Nat.zero_add] at q
 exact ⟨es, c, rfl, q.1, q.2, by simp, rfl⟩
theorem noRefL_sc : ∀ {es : List PV}, (nrmL es).all (fun | .int .. | .bool _ | .str _ | .nilp | .nilfn => true | _ => false) = true → plL es = true → noRefL es = true
 | [], _, _ => rfl
 | e :: es, h, hp => by
  simp only [nrmL, List.all_cons, Bool.and_eq_true] at h
  simp only [plL, Bool.and_eq_true] at hp
  have ih := noRefL_sc (es := es) h.2 hp.2
  simp only [noRefL, ih, Bool.and_true]
  cases e <;> simp_all [nrm, noRef]
theorem cl_ent {FT : Nat → Option IFun} {sgs : Nat → Option Sig} {f : Nat} (hF : FT f = some fCl) : EntOk FT sgs f vCl' := by
 refine .inr ⟨by kernel_rfl, fun C V xs x os hd hl hsc => ?_⟩
 match xs, hl with
 | [x0], _ =>
 obtain ⟨ys, c, rfl, hs, hm, rfl, rfl⟩ := vCl_inv hd
 have hsc := hsc rfl
 have hso : scalO (.lst ys false) = true := by
  rcases hsc with h | h
  ·simp [scalV] at h
  ·exact h
 intro args G P kr uP loc hG
 match args, kr with
 | [v0], kr =>
 obtain ⟨⟨p0, e0⟩, _⟩ := kr
 have hG0 : G = [] := by
  cases G with
  | nil => rfl
  | cons b bs => have := hG 0 b rfl; simp [vCl', KBs, KB] at this
 subst hG0
 have hfl : ∀ {n : Nat} {rE : PV} {G' : List (Option Blk)}, callE FT n f [v0] [] = some (rE, G') → ExitOk vCl'.sig P [v0] [] G' rE (.lst ys false) [] → (noRef rE = true ∧ noRefB (G'.drop 0) = true) →
   ∃ n rE G', callE FT n f [v0] [] = some (rE, G') ∧ ExitOk vCl'.sig P [v0] [] G' rE (.lst ys false) [] ∧ (K.nL vCl'.sig.ps = 0 → vCl'.sig.scal = true → noRef rE = true ∧ noRefB (G'.drop ([] : List Blk).length) = true) :=
  fun h1 h2 h3 => ⟨_, _, _, h1, h2, fun _ _ => h3⟩
 cases v0 with
 | nils =>
  simp only [nrm] at e0
  cases e0
  refine hfl (cl_nil hF) ⟨Nat.le_refl _, by simp, ⟨fun _ _ => False, ⟨⟨.inl ⟨.inl rfl, rfl⟩, fun _ => .inl (.inl rfl)⟩, trivial, fun _ _ _ h => h.elim, fun _ _ _ h => h.elim, fun k hk => by simp at hk, fun _ _ h => h.elim, fun _ _ h => h.elim, fun _ _ h => h.elim⟩⟩, fun p hp => by simp [vCl', qParts] at hp, fun p _ k b _ h => by simp at h⟩ ⟨rfl, rfl⟩
 | lst es c0 =>
  simp only [nrm, PV.lst.injEq] at e0
  obtain ⟨rfl, rfl⟩ := e0
  simp only [pl] at p0
  have hs' : sized 1 es = true := by
   have key : ∀ {l : List PV}, sized 1 (nrmL l) = true → sized 1 l = true := by
    intro l
    induction l with
    | nil => intro _; rfl
    | cons a l ih =>
     intro h
     simp only [nrmL, sized, Bool.and_eq_true] at h ⊢
     refine ⟨?_, ih h.2⟩
     have h1 := h.1
     cases a <;> simp_all [nrm, PV.cells, nrmL_length]
   exact key hs
  have hm' : es.length < maxNew := by rwa [nrmL_length] at hm
  have hnr : noRefL es = true := noRefL_sc hso p0
  have hcl : ∀ e ∈ es, e.cells.length = 1 := sized_mem hs'
  have hget : (HX 0 [some (⟨1, es, false⟩ : Blk)]).get (.l 0) = some ⟨0, some ⟨1, es, false⟩⟩ := rfl
  refine hfl (cl_run hF p0 hs' hm') ⟨Nat.zero_le _, by simp, ⟨fun i q => i = 0 ∧ q = .l 0, ⟨?_, trivial, ?_, ?_, ?_, ?_, ?_, ?_⟩⟩, fun p hp => by simp [vCl', qParts] at hp, fun p' hp' k' b' hPk hG' => ?_⟩ ⟨rfl, by simp [noRefB, hnr]⟩
  ·refine ⟨.inr ⟨.l 0, 0, 0, es.length, es.length, false, _, rfl, ⟨rfl, rfl⟩, hget, rfl, by simp, Nat.le_refl _, p0, hcl, by simp⟩, fun _ => .inr ⟨.l 0, 0, 1, 0, es.length, es.length, _, rfl, hget, rfl, by simp⟩⟩
  ·rintro i j q ⟨rfl, _⟩ ⟨rfl, _⟩; rfl
  ·rintro i q q' ⟨_, rfl⟩ ⟨_, rfl⟩; rfl
  ·intro k' hk'
   have : k' = 0 := by simp at hk'; exact hk'
   subst this; exact ⟨0, rfl, rfl⟩
  ·rintro i q ⟨rfl, _⟩; show 0 < Sig.nown _; decide
  ·rintro i k' ⟨_, e⟩; cases e; simp
  ·rintro i k' ⟨_, e⟩; cases e
  ·obtain ⟨k2, e, h⟩ := loc p' _ hPk
   simp at h
 | _ => simp [nrm] at e0
end Gv

namespace Gv
open Go
def vRepC : VC := .seq (.st [.asg [] [(2, .app 1 (.v 0) (.v 0))], .asg [] [(3, .app 1 (.v 2) (.v 2))], .asg [] [(4, .app 1 (.v 3) (.v 3))], .asg [] [(5, .app 1 (.v 4) (.v 4))], .asg [] [(6, .app 1 (.v 5) (.v 5))], .asg [] [(7, .app 1 (.v 6) (.v 6))], .asg [] [(8, .app 1 (.v 7) (.v 7))]]) (.ret (.slice 1 (.v 8) .nl (.v 1) .nl) [])
def vRep : VFun := ⟨⟨[.F, .F], .O 1 true, true⟩, [],
 .cond (.bin .eql (.len (.v 0)) (.int .i64 1)) (.cond (.bin .eql (.ld none (.ia 1 (.v 0) (.int .i64 0)) 0) (.int .i64 (-1)))
  (.cond (.bin .leq (.v 1) (.int .i64 8)) (.cond (.bin .geq (.v 1) (.int .i64 1)) vRepC deadV) deadV) deadV) deadV⟩
theorem den_condT {C : CallV} {V : Nat → List PV → List PV → Bool} {c : X} {a : VC} {env : Env} {r : VEx} (h : den C V (.cond c a deadV) env = some r) : c.ev env = some (.bool true) ∧ den C V a env = some r := by
 simp only [den] at h
 split at h
 ·rename_i hc; exact ⟨hc, h⟩
 ·rw [deadV_den] at h; cases h
 ·cases h
theorem ev_bin {op : BinOp} {a b : X} {env : Env} {v : PV} (h : (X.bin op a b).ev env = some v) : ∃ x y, a.ev env = some x ∧ b.ev env = some y ∧ bin op x y = some v := by
 simp only [X.ev, obind_eq] at h
 obtain ⟨x, h1, y, h2, h3⟩ := h
 exact ⟨x, y, h1, h2, h3⟩
theorem nrmL_rep (e : PV) : ∀ n, nrmL (List.replicate n e) = List.replicate n (nrm e)
 | 0 => rfl
 | n + 1 => by rw [List.replicate_succ, nrmL, nrmL_rep e n, List.replicate_succ]
theorem app_rep {e : PV} {c c' : Bool} {a b : Nat} (he : e.cells.length = 1) (h : a + b < 1000000) : appV 1 (.lst (List.replicate a e) c) (.lst (List.replicate b e) c') = some (.lst (List.replicate (a + b) e) false) := by
 have hs : ∀ b, sized 1 (List.replicate b e) = true := by
  intro b
  induction b with
  | zero => rfl
  | succ b ih => rw [List.replicate_succ, sized, ih, he]; rfl
 simp only [appV]
 rw [if_pos ⟨hs b, by simp [maxNew]; omega⟩, List.replicate_append_replicate]
theorem slice_gen {es : List PV} {n : Nat} (hl : lstSz es 1 = true) (hn : n ≤ es.length) : sliceV 1 (.lst es false) (.tup []) (.int .i64 (n : Nat)) (.tup []) = some (nrm (.lst (es.take n) false)) := by
 simp [sliceV, optV, sliceLst, optNat, asNat, hl, hn]
theorem slice_rep {e : PV} {n : Nat} (he : e.cells.length = 1) (hn : n ≤ 8) : sliceV 1 (.lst (List.replicate 128 e) false) (.tup []) (.int .i64 (n : Nat)) (.tup []) = some (.lst (List.replicate n (nrm e)) false) := by
 have hl : ∀ k, lstSz (List.replicate (k + 1) e) 1 = true := fun k => by simp [List.replicate_succ, lstSz, he]
 rw [slice_gen (hl 127) (by rw [List.length_replicate]; omega), List.take_replicate, Nat.min_eq_left (by omega)]
 simp only [nrm, nrmL_rep]
theorem bin_eq {y : PV} {z : Int} (h : bin .eql y (.int .i64 z) = some (.bool true)) : y = .int .i64 z := by
 cases y <;> simp [bin] at h
 rename_i k a
 simp only [binI] at h
 split at h
 ·cases h
 ·rename_i hk
  simp at h hk
  rw [h, hk]
theorem repC_run {C : CallV} {V : Nat → List PV → List PV → Bool} {env : Env} {e : PV} {c : Bool} {n : Nat} (h0 : env 0 = .lst [e] c) (h1 : env 1 = .int .i64 (n : Nat)) (he : e.cells.length = 1) (hn : n ≤ 8) :
  den C V vRepC env = some (.ret (.lst (List.replicate n (nrm e)) false) []) := by
 have a1 : appV 1 (.lst [e] c) (.lst [e] c) = some (.lst (List.replicate 2 e) false) := app_rep (a := 1) (b := 1) he (by omega)
 have a2 := app_rep (e := e) (c := false) (c' := false) (a := 2) (b := 2) he (by omega)
 have a3 := app_rep (e := e) (c := false) (c' := false) (a := 4) (b := 4) he (by omega)
 have a4 := app_rep (e := e) (c := false) (c' := false) (a := 8) (b := 8) he (by omega)
 have a5 := app_rep (e := e) (c := false) (c' := false) (a := 16) (b := 16) he (by omega)
 have a6 := app_rep (e := e) (c := false) (c' := false) (a := 32) (b := 32) he (by omega)
 have a7 := app_rep (e := e) (c := false) (c' := false) (a := 64) (b := 64) he (by omega)
 have s := slice_rep (n := n) he hn
 simp only [Nat.reduceAdd] at a2 a3 a4 a5 a6 a7
 simp only [vRepC, den, runVS, VS.run, allGood, bindAll, evAll, X.ev, h0, h1, a1, a2, a3, a4, a5, a6, a7, s, obind_some, if_true, Env.set_at, Nat.reduceEqDiff, if_false]
theorem vRep_inv {C : CallV} {V : Nat → List PV → List PV → Bool} {x0 x1 x : PV} {os : List PV} (hd : den C V vRep.body (Env.ofArgs [x0, x1]) = some (.ret x os)) (hsc : scalV x = true ∨ scalO x = true) :
  ∃ (c : Bool) (n : Nat), x0 = .lst [.int .i64 (-1)] c ∧ x1 = .int .i64 (n : Nat) ∧ 1 ≤ n ∧ n ≤ 8 ∧ x = .lst (List.replicate n (.int .i64 (-1))) false ∧ os = [] := by
 have e0 : Env.ofArgs [x0, x1] 0 = x0 := rfl
 have e1 : Env.ofArgs [x0, x1] 1 = x1 := rfl
 generalize Env.ofArgs [x0, x1] = env at *
 obtain ⟨c1, hd⟩ := den_condT hd
 obtain ⟨c2, hd⟩ := den_condT hd
 obtain ⟨c3, hd⟩ := den_condT hd
 obtain ⟨c4, hd⟩ := den_condT hd
 obtain ⟨y1, y2, a1, a2, a3⟩ := ev_bin c1
 simp only [X.ev, e0, obind_some, Option.some.injEq] at a1 a2
 subst a2
 cases x0 <;> simp [lenV] at a1
 rename_i es c
 subst a1
 simp only [bin, binI, ne_eq, not_true_eq_false, if_false, Option.some.injEq, PV.bool.injEq, beq_iff_eq] at a3
 match es, a3 with
 | [e], _ =>
 obtain ⟨y1, y2, a1, a2, a3⟩ := ev_bin c2
 simp only [X.ev, e0, obind_some, Option.some.injEq] at a1 a2
 subst a2
 obtain ⟨y3, y4, b1, b2, b3⟩ := ev_bin c3
 simp only [X.ev, e1, Option.some.injEq] at b1 b2
 subst b1 b2
 obtain ⟨y5, y6, d1, d2, d3⟩ := ev_bin c4
 simp only [X.ev, e1, Option.some.injEq] at d1 d2
 subst d1 d2
 cases x1 <;> simp [bin] at b3 d3
 rename_i k n
 have hk : k = .i64 := by
  by_cases h : k = .i64
  ·exact h
  ·simp [binI, h] at b3
 subst hk
 simp [binI] at b3 d3
 obtain ⟨n, rfl⟩ := Int.eq_ofNat_of_zero_le (show 0 ≤ n by omega)
 have hie : indexAddrPV 1 (.lst [e] c) (.int .i64 0) = if e.cells.length = 1 then some (.lptr e.cells) else none := by simp [indexAddrPV]
 rw [hie] at a1
 split at a1
 rotate_left
 ·simp at a1
 rename_i he
 simp only [obind_some] at a1
 have hr := repC_run (C := C) (V := V) e0 e1 he (by omega)
 rw [hr] at hd
 simp only [Option.some.injEq, VEx.ret.injEq] at hd
 obtain ⟨rfl, rfl⟩ := hd
 have he2 : e.cells = [.int .i64 (-1)] := by
  match hc : e.cells, he with
  | [d], _ =>
  rw [hc] at a1
  simp only [ldV, loadV, loadC, List.getElem?_cons_zero] at a1
  have := bin_eq a3
  subst this
  split at a1
  ·cases a1; rfl
  ·cases a1
 refine ⟨c, n, ?_, rfl, by omega, by omega, ?_, rfl⟩
 ·cases e with
  | agg cs =>
   obtain ⟨m, rfl⟩ : ∃ m, n = m + 1 := ⟨n - 1, by omega⟩
   simp [scalV, scalO, List.replicate_succ, nrm] at hsc
  | _ => simp_all [PV.cells]
 ·cases e with
  | agg cs =>
   obtain ⟨m, rfl⟩ : ∃ m, n = m + 1 := ⟨n - 1, by omega⟩
   simp [scalV, scalO, List.replicate_succ, nrm] at hsc
  | _ => simp_all [PV.cells, nrm]
end Gv

namespace Gv
open Go
def RepRuns (FT : Nat → Option IFun) (f : Nat) : Prop := ∀ (b : Bool) (n : Nat), n < 8 → callE FT 120 f [.lst [.int .i64 (-1)] b, .int .i64 ((n + 1 : Nat) : Int)] [] = some (.tok (.l 0) 0 1 0 (n + 1) (n + 1) false, [some ⟨1, List.replicate (n + 1) (.int .i64 (-1)), false⟩])
def RepCh (FT : Nat → Option IFun) (f : Nat) (b : Bool) (j : Nat) : Prop := (List.range 8).map (fun i => callE FT 120 f [.lst [.int .i64 (-1)] b, .int .i64 ((8 * j + i + 1 : Nat) : Int)] []) = (List.range 8).map (fun i => some (.tok (.l 0) 0 1 0 (8 * j + i + 1) (8 * j + i + 1) false, [some ⟨1, List.replicate (8 * j + i + 1) (.int .i64 (-1)), false⟩]))
theorem repRuns_of {FT : Nat → Option IFun} {f : Nat} (h : ∀ b j, j < 1 → RepCh FT f b j) : RepRuns FT f := fun b n hn => by
 have := congrArg (fun l => l[n % 8]?) (h b (n / 8) (by omega))
 have h8 : n % 8 < 8 := Nat.mod_lt _ (by omega)
 simp only [List.getElem?_map, List.getElem?_range h8, Option.map_some, Option.some.injEq, Nat.div_add_mod] at this
 exact this
theorem nrm_int' {e : PV} {k : IntKind} {z : Int} (h : nrm e = .int k z) : e = .int k z := by
 cases e <;> simp only [nrm, reduceCtorEq] at h
 exact h
theorem rep_ent {FT : Nat → Option IFun} {sgs : Nat → Option Sig} {f : Nat} (hF : RepRuns FT f) : EntOk FT sgs f vRep := by
 refine .inr ⟨by kernel_rfl, fun C V xs x os hd hl hsc => ?_⟩
 match xs, hl with
 | [x0, x1], _ =>
 have hsc := hsc rfl
 obtain ⟨c, n, rfl, rfl, hn1, hn2, rfl, rfl⟩ := vRep_inv hd hsc
 intro args G P kr uP loc hG
 match args, kr with
 | [v0, v1], kr =>
 obtain ⟨⟨p0, e0⟩, ⟨p1, e1⟩, _⟩ := kr
 have hG0 : G = [] := by
  cases G with
  | nil => rfl
  | cons b bs => have := hG 0 b rfl; simp [vRep, KBs, KB] at this
 subst hG0
 have ev1 : v1 = .int .i64 (n : Nat) := by cases v1 <;> simp_all [nrm]
 subst ev1
 obtain ⟨c0, rfl⟩ : ∃ c0, v0 = .lst [.int .i64 (-1)] c0 := by
  cases v0 with
  | lst es c0 =>
   have e0' : nrmL es = [.int .i64 (-1)] := by
    simp only [nrm, PV.lst.injEq] at e0
    exact e0.1.symm
   match es, e0' with
   | [e], h =>
    simp only [nrmL, List.cons.injEq, and_true] at h
    exact ⟨c0, by rw [nrm_int' h]⟩
   | [], h => cases h
   | _ :: _ :: _, h => simp only [nrmL, List.cons.injEq, reduceCtorEq, and_false] at h
  | nils => simp [nrm] at e0
  | _ => simp only [nrm, reduceCtorEq] at e0
 obtain ⟨k, rfl⟩ : ∃ k, n = k + 1 := ⟨n - 1, by omega⟩
 have run := hF c0 k (by omega)
 have hpl : plL (List.replicate (k + 1) (.int .i64 (-1))) = true := by
  have : ∀ k, plL (List.replicate k (.int .i64 (-1))) = true := fun k => by
   induction k with
   | zero => rfl
   | succ k ih => rw [List.replicate_succ, plL, ih]; rfl
  exact this _
 have hnr : noRefL (List.replicate (k + 1) (.int .i64 (-1))) = true := by
  have : ∀ k, noRefL (List.replicate k (.int .i64 (-1))) = true := fun k => by
   induction k with
   | zero => rfl
   | succ k ih => rw [List.replicate_succ, noRefL, ih]; rfl
  exact this _
 have hnrm : nrmL (List.replicate (k + 1) (.int .i64 (-1))) = List.replicate (k + 1) (.int .i64 (-1)) := nrmL_rep _ _
 have hcl : ∀ e ∈ List.replicate (k + 1) (PV.int .i64 (-1)), e.cells.length = 1 := fun e he => by rw [List.eq_of_mem_replicate he]; rfl
 generalize hes : List.replicate (k + 1) (PV.int .i64 (-1)) = es at *
 have hlen : es.length = k + 1 := by rw [← hes]; simp
 have hget : (HX 0 [some (⟨1, es, false⟩ : Blk)]).get (.l 0) = some ⟨0, some ⟨1, es, false⟩⟩ := rfl
 rw [← hlen] at run
 have hfl : ∀ {n : Nat} {rE : PV} {G' : List (Option Blk)}, callE FT n f [.lst [.int .i64 (-1)] c0, .int .i64 (es.length : Nat)] [] = some (rE, G') → ExitOk vRep.sig P [.lst [.int .i64 (-1)] c0, .int .i64 (es.length : Nat)] [] G' rE (.lst es false) [] → (noRef rE = true ∧ noRefB (G'.drop 0) = true) →
   ∃ n rE G', callE FT n f [.lst [.int .i64 (-1)] c0, .int .i64 (es.length : Nat)] [] = some (rE, G') ∧ ExitOk vRep.sig P [.lst [.int .i64 (-1)] c0, .int .i64 (es.length : Nat)] [] G' rE (.lst es false) [] ∧ (K.nL vRep.sig.ps = 0 → vRep.sig.scal = true → noRef rE = true ∧ noRefB (G'.drop ([] : List Blk).length) = true) :=
  fun h1 h2 h3 => ⟨_, _, _, h1, h2, fun _ _ => h3⟩
 rw [← hlen]
 refine hfl run ⟨Nat.zero_le _, by simp, ⟨fun i q => i = 0 ∧ q = .l 0, ⟨?_, trivial, ?_, ?_, ?_, ?_, ?_, ?_⟩⟩, fun p hp => by simp [vRep, qParts] at hp, fun p' hp' k' b' hPk hG' => ?_⟩ ⟨rfl, by simp [noRefB, hnr]⟩
 ·refine ⟨.inr ⟨.l 0, 0, 0, es.length, es.length, false, _, rfl, ⟨rfl, rfl⟩, hget, rfl, by simp, Nat.le_refl _, hpl, hcl, by simp [hnrm]⟩, fun _ => .inr ⟨.l 0, 0, 1, 0, es.length, es.length, _, rfl, hget, rfl, by simp⟩⟩
 ·rintro i j q ⟨rfl, _⟩ ⟨rfl, _⟩; rfl
 ·rintro i q q' ⟨_, rfl⟩ ⟨_, rfl⟩; rfl
 ·intro k' hk'
  have : k' = 0 := by simp at hk'; exact hk'
  subst this; exact ⟨0, rfl, rfl⟩
 ·rintro i q ⟨rfl, _⟩; show 0 < Sig.nown _; decide
 ·rintro i k' ⟨_, e⟩; cases e; simp
 ·rintro i k' ⟨_, e⟩; cases e
 ·obtain ⟨k2, e, h⟩ := loc p' _ hPk
  simp at h
end Gv
