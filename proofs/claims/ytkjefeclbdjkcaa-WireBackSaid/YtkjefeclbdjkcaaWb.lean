/- What this file proves: one part of the proof that the law answers true for every input, by an interpreter that is proved sound against the given model. -/
import Derived.Test.YtkjefeclbdjkcaaWa
import Derived.Test.YtkjefeclbdjkcaaWp
namespace Gv
open Go
variable {C : CallV} {V : Nat → List PV → List PV → Bool}
def CRdr (C : CallV) (g : Nat) {α : Type} (enc : α → PV) (f : RS → α × RS) : Prop := ∀ s : RS, BO s.1 → C g [.lptr [eB s.1, .bool s.2]] = some (enc (f s).1, [.lptr [eB (f s).2.1, .bool (f s).2.2]])
theorem rd_loop {α : Type} {f : RS → α × RS} (hf : ∀ s, ∃ p, s.1 = p ++ (f s).2.1) {BODY : VC} {vi vn b n : Nat} (hn : n < 1000000000) {s : RS} (hs : BO s.1) (Q : List α → RS → Env → Prop)
  (hset : ∀ l t env v, Q l t env → Q l t (env.set vi v)) (hvn : ∀ l t env, Q l t env → env vn = .int .i64 (n : Nat))
  (hbody : ∀ l t env (k : Nat), l.length < 1000000000 → BO t.1 → Q l t env → env vi = .int .i64 (k : Nat) → ∃ env', den C V BODY env = some (.norm env') ∧ Q (l ++ [(f t).1]) (f t).2 env' ∧ env' vi = .int .i64 (k : Nat))
  {env : Env} (h0 : Q [] s env) (hv : env vi = .int .i64 0) :
  ∃ e, den C V (.block b (.loop (.seq (.st [.asg [(.bin .lss (.v vi) (.v vn))] []]) (.seq (.cond (.bin .lss (.v vi) (.v vn)) .skip (.exit b)) (.seq BODY (.st [.asg [] [(vi, .bin .add (.v vi) (.int .i64 1))]])))))) env = some (.norm e) ∧ Q (rAcc f n s).1 (rAcc f n s).2 e := by
 refine range_run (St := fun k e => Q (rAcc f k s).1 (rAcc f k s).2 e) (by omega) (fun k e v h => hset _ _ _ _ h) (fun k e h => hvn _ _ _ h) (fun k e hk h hv => ?_) h0 hv
 exact hbody _ _ e k (by rw [rAcc_len]; omega) (rAcc_BO hf hs) h hv
theorem numbers_V {m : Nat} : CRdr (callV tVT (m + 4)) 87 eI rNums := by
 intro s hs
 refine callV_of (F := v_wire_Reader_numbers) rfl rfl rfl ?_ (.inl rfl)
 have hN : CRNum (callV tVT (m + 3)) 58 := fun t ht => rdNum_V ht
 have hC := rdCount_V (m := m) hs
 generalize callV tVT (m + 3) = C at hN hC
 generalize vTab tVT = V
 simp only [eR] at hC ⊢
 refine nx (by simp only [vw0, vw1, vw2, vw3, vw4, ↓reduceIte, Env.ofArgs_at, Option.getD_some]; rfl) ?_
 rw [ras]
 refine nx (by simp only [vw0, vw1, vw2, vw3, vw4, ↓reduceIte, Nat.reduceAdd, hC]; rfl) ?_
 refine seq_of (rd_loop (f := rNum) rNum_dec.suf (rCount_lt hs) (rCount_BO hs) (fun l t e => e 4 = .int .i64 (rCount s).1 ∧ e 2 = eI l ∧ e 4000 = .lptr [eB t.1, .bool t.2]) (fun l t e v h => by simpa using h) (fun l t e h => h.1) (fun l t e k hl ht ⟨g4, g2, g0⟩ g5 => ?_) ⟨by simp, by simp; rfl, by simp⟩ (by simp)) fun e h => ?_
 ·have ha := app_eI (l := l) (m := [(rNum t).1]) (by simp; omega)
  exact ⟨_, by simp only [vw0, vw1, vw2, vw3, vw4, ↓reduceIte, Nat.reduceEqDiff, Nat.reduceAdd, g2, g0, hN _ ht, eI1, ha]; rfl, ⟨by simp [g4], by simp, by simp⟩, by simp [g5]⟩
 simp only [vw0, vw1, vw2, vw3, vw4, ↓reduceIte, h.2.1, h.2.2, rNums, rList]
theorem code_V {m : Nat} : CRdr (callV tVT (m + 4)) 57 eCode rCode := by
 intro s hs
 refine callV_of (F := v_wire_Reader_code) rfl rfl rfl ?_ (.inl rfl)
 have hN : CRNum (callV tVT (m + 3)) 58 := fun t ht => rdNum_V ht
 have hC := rdCount_V (m := m) hs
 generalize callV tVT (m + 3) = C at hN hC
 generalize vTab tVT = V
 simp only [eR] at hC ⊢
 refine nx (by simp only [vw0, vw1, vw2, vw3, vw4, ↓reduceIte, Env.ofArgs_at, Option.getD_some]; rfl) ?_
 rw [ras]
 refine nx (by simp only [vw0, vw1, vw2, vw3, vw4, ↓reduceIte, Nat.reduceAdd, hC]; rfl) ?_
 refine seq_of (rd_loop (f := rInstr) rInstr_dec.suf (rCount_lt hs) (rCount_BO hs) (fun l t e => e 4 = .int .i64 (rCount s).1 ∧ e 2 = eCode l ∧ e 4000 = .lptr [eB t.1, .bool t.2]) (fun l t e v h => by simpa using h) (fun l t e h => h.1) (fun l t e k hl ht ⟨g4, g2, g0⟩ g5 => ?_) ⟨by simp, by simp; rfl, by simp⟩ (by simp)) fun e h => ?_
 ·have ha := app_ins (l := l) (x := (rInstr t).1) (by omega)
  have b1 := rNum_suf ht
  simp only [eInstr, rInstr] at ha
  exact ⟨_, by simp only [vw0, vw1, vw2, vw3, vw4, ↓reduceIte, Nat.reduceEqDiff, Nat.reduceAdd, beq_self_eq_true, g2, g0, hN _ ht, hN _ b1, ha]; rfl, ⟨by simp [g4], by simp [rInstr], by simp [rInstr]⟩, by simp [g5]⟩
 simp only [vw0, vw1, vw2, vw3, vw4, ↓reduceIte, h.2.1, h.2.2, rCode, rList]
theorem flagR_V {m : Nat} : CRdr (callV tVT (m + 3)) 88 PV.bool rFlag := by
 intro s hs
 refine callV_of (F := v_wire_Reader_flag) rfl rfl rfl ?_ (.inr rfl)
 have hN := rdNum_V (m := m) hs
 generalize callV tVT (m + 2) = C at hN
 generalize vTab tVT = V
 unfold rFlag
 generalize rNum s = r at *
 obtain ⟨n, b, bad⟩ := r
 simp only [eR] at hN ⊢
 cases bad <;> cases hz : (n != 0) <;> cases ho : (n != 1) <;>
  exact nx (by simp only [vw0, vw1, vw2, vw3, vw4, ↓reduceIte, Nat.reduceEqDiff, reduceCtorEq, Nat.reduceAdd, Env.ofArgs_at, Option.getD_some, hN, neqI, eqlI, hz, ho]; rfl) (by simp only [vw0, vw1, vw2, vw3, vw4, ↓reduceIte, Nat.reduceEqDiff, Bool.or_true, Bool.or_false, Bool.and_false, Bool.and_self, Bool.or_self])
end Gv

namespace Gv
open Go
variable {C : CallV} {V : Nat → List PV → List PV → Bool}
def eHs (l : List SHandler) : PV := .lst (l.map eHandler) false
def eAs (l : List SActor) : PV := .lst (l.map eActor) false
def eNs (l : List SNote) : PV := .lst (l.map eNote) false
def eWs (l : List (List SInstr)) : PV := .lst (l.map eCode) false
@[simp] theorem fits_eHs (l : List SHandler) : PV.fits (eHs l) none = true := rfl
@[simp] theorem fits_eAs (l : List SActor) : PV.fits (eAs l) none = true := rfl
@[simp] theorem fits_eNs (l : List SNote) : PV.fits (eNs l) none = true := rfl
@[simp] theorem fits_eWs (l : List (List SInstr)) : PV.fits (eWs l) none = true := rfl
@[simp] theorem cell_eHs (l : List SHandler) : PV.isCell (eHs l) = true := rfl
@[simp] theorem cell_eAs (l : List SActor) : PV.isCell (eAs l) = true := rfl
@[simp] theorem cell_eNs (l : List SNote) : PV.isCell (eNs l) = true := rfl
@[simp] theorem cell_eWs (l : List (List SInstr)) : PV.isCell (eWs l) = true := rfl
@[simp] theorem cells_eHs (l : List SHandler) : PV.cells (eHs l) = [eHs l] := rfl
@[simp] theorem cells_eAs (l : List SActor) : PV.cells (eAs l) = [eAs l] := rfl
@[simp] theorem cells_eNs (l : List SNote) : PV.cells (eNs l) = [eNs l] := rfl
@[simp] theorem cells_eWs (l : List (List SInstr)) : PV.cells (eWs l) = [eWs l] := rfl
theorem vw5 : type_of% (And.intro @fits_eHs (And.intro @cell_eHs (And.intro @cells_eHs (And.intro @fits_eAs (And.intro @cell_eAs (And.intro @cells_eAs (And.intro @fits_eNs (And.intro @cell_eNs (And.intro @cells_eNs (And.intro @fits_eWs (And.intro @cell_eWs (@cells_eWs)))))))))))) := (And.intro @fits_eHs (And.intro @cell_eHs (And.intro @cells_eHs (And.intro @fits_eAs (And.intro @cell_eAs (And.intro @cells_eAs (And.intro @fits_eNs (And.intro @cell_eNs (And.intro @cells_eNs (And.intro @fits_eWs (And.intro @cell_eWs (@cells_eWs))))))))))))
theorem app_hs {l : List SHandler} {x : SHandler} (h : l.length < 1000000000) : appV 2 (eHs l) (.lst [eHandler x] false) = some (eHs (l ++ [x])) := app_map (f := eHandler) (m := [x]) (fun _ => rfl) (by simp; omega)
theorem app_as {l : List SActor} {x : SActor} (h : l.length < 1000000000) : appV 4 (eAs l) (.lst [eActor x] false) = some (eAs (l ++ [x])) := app_map (f := eActor) (m := [x]) (fun _ => rfl) (by simp; omega)
theorem app_ns {l : List SNote} {x : SNote} (h : l.length < 1000000000) : appV 3 (eNs l) (.lst [eNote x] false) = some (eNs (l ++ [x])) := app_map (f := eNote) (m := [x]) (fun _ => rfl) (by simp; omega)
theorem app_ws {l : List (List SInstr)} {x : List SInstr} (h : l.length < 1000000000) : appV 1 (eWs l) (.lst [eCode x] false) = some (eWs (l ++ [x])) := app_map (f := eCode) (m := [x]) (fun _ => rfl) (by simp; omega)
theorem eProg_eq (p : SProg) : eProg p = .agg [eHs p.handlers, eAs p.actors, eNs p.boot, .int .i64 p.fuel] := rfl
theorem eTask_eq (t : STask) : eTask t = .agg [eHs t.prog.handlers, eAs t.prog.actors, eNs t.prog.boot, .int .i64 t.prog.fuel, eWs t.watch, .int .i64 t.budget.drop, .int .i64 t.budget.dup, .int .i64 t.budget.time, .int .i64 t.budget.crash, .int .i64 t.limits.depth, .int .i64 t.limits.runs] := rfl
theorem dec_BO {α : Type} {f : RS → α × RS} {en : α → List Nat} {ok : α → Prop} (D : Dec f en ok) {s : RS} (h : BO s.1) : BO (f s).2.1 := h.suf (D.suf s)
theorem program_V {m : Nat} : CRdr (callV tVT (m + 5)) 55 eProg rProg := by
 intro s hs
 refine callV_of (F := v_wire_Reader_program) rfl rfl rfl ?_ (.inl rfl)
 have hN : CRNum (callV tVT (m + 4)) 58 := fun t ht => rdNum_V ht
 have hC : CRdr (callV tVT (m + 4)) 56 (fun n : Nat => PV.int .i64 n) rCount := fun t ht => rdCount_V (m := m + 1) ht
 have hK := code_V (m := m)
 have hL := numbers_V (m := m)
 have hF := flagR_V (m := m + 1)
 generalize callV tVT (m + 4) = C at hN hC hK hL hF
 generalize vTab tVT = V
 have b1 := dec_BO (rList_dec rHandler_dec handler_pos) hs
 have b2 := dec_BO (rList_dec rActor_dec actor_pos) b1
 have b3 := dec_BO (rList_dec rNote_dec note_pos) b2
 refine nx (by simp only [vw0, vw1, vw2, vw3, vw4, ↓reduceIte, Env.ofArgs_at, Option.getD_some]; rfl) ?_
 rw [ras]
 refine nx (by simp only [vw0, vw1, vw2, vw3, vw4, ↓reduceIte, Nat.reduceAdd, hC _ hs]; rfl) ?_
 refine seq_of (rd_loop (f := rHandler) rHandler_dec.suf (rCount_lt hs) (rCount_BO hs) (fun l t e => e 4 = .int .i64 (rCount s).1 ∧ e 2 = .lptr [eHs l, eAs [], eNs [], .int .i64 0] ∧ e 4000 = .lptr [eB t.1, .bool t.2]) (fun l t e v h => by simpa using h) (fun l t e h => h.1) (fun l t e k hl ht ⟨g4, g2, g0⟩ g5 => ?_) ⟨by simp, by simp; exact ⟨rfl, rfl, rfl⟩, by simp⟩ (by simp)) fun e1 h1 => ?_
 ·have ha := app_hs (l := l) (x := (rHandler t).1) (by omega)
  have c1 := rNum_suf ht
  simp only [eHandler, rHandler] at ha
  exact ⟨_, by simp only [vw0, vw1, vw2, vw3, vw4, ↓reduceIte, Nat.reduceEqDiff, Nat.reduceAdd, beq_self_eq_true, vw5, g2, g0, hN _ ht, hK _ c1, ha]; rfl, ⟨by simp [g4], by simp [rHandler], by simp [rHandler]⟩, by simp [g5]⟩
 obtain ⟨k4, k2, k0⟩ := h1
 have k2 : e1 2 = .lptr [eHs (rList rHandler s).1, eAs [], eNs [], .int .i64 0] := k2
 have k0 : e1 4000 = .lptr [eB (rList rHandler s).2.1, .bool (rList rHandler s).2.2] := k0
 rw [ras]
 refine nx (by simp only [vw0, vw1, vw2, vw3, vw4, ↓reduceIte, Nat.reduceAdd, k0, hC _ b1]; rfl) ?_
 refine seq_of (rd_loop (f := rActor) rActor_dec.suf (rCount_lt b1) (rCount_BO b1) (fun l t e => e 19 = .int .i64 (rCount (rList rHandler s).2).1 ∧ e 2 = .lptr [eHs (rList rHandler s).1, eAs l, eNs [], .int .i64 0] ∧ e 4000 = .lptr [eB t.1, .bool t.2]) (fun l t e v h => by simpa using h) (fun l t e h => h.1) (fun l t e k hl ht ⟨g4, g2, g0⟩ g5 => ?_) ⟨by simp, by simp [k2], by simp⟩ (by simp)) fun e2 h2 => ?_
 ·have ha := app_as (l := l) (x := (rActor t).1) (by omega)
  have c1 := dec_BO rNums_dec ht
  have c2 := rNum_suf c1
  have c3 := rNum_suf c2
  simp only [eActor, rActor] at ha
  exact ⟨_, by simp only [vw0, vw1, vw2, vw3, vw4, ↓reduceIte, Nat.reduceEqDiff, Nat.reduceAdd, beq_self_eq_true, vw5, g2, g0, hL _ ht, hN _ c1, hN _ c2, hF _ c3, ha]; rfl, ⟨by simp [g4], by simp [rActor], by simp [rActor]⟩, by simp [g5]⟩
 obtain ⟨k4, k2, k0⟩ := h2
 have k2 : e2 2 = .lptr [eHs (rList rHandler s).1, eAs (rList rActor (rList rHandler s).2).1, eNs [], .int .i64 0] := k2
 have k0 : e2 4000 = .lptr [eB (rList rActor (rList rHandler s).2).2.1, .bool (rList rActor (rList rHandler s).2).2.2] := k0
 rw [ras]
 refine nx (by simp only [vw0, vw1, vw2, vw3, vw4, ↓reduceIte, Nat.reduceAdd, k0, hC _ b2]; rfl) ?_
 refine seq_of (rd_loop (f := rNote) rNote_dec.suf (rCount_lt b2) (rCount_BO b2) (fun l t e => e 38 = .int .i64 (rCount (rList rActor (rList rHandler s).2).2).1 ∧ e 2 = .lptr [eHs (rList rHandler s).1, eAs (rList rActor (rList rHandler s).2).1, eNs l, .int .i64 0] ∧ e 4000 = .lptr [eB t.1, .bool t.2]) (fun l t e v h => by simpa using h) (fun l t e h => h.1) (fun l t e k hl ht ⟨g4, g2, g0⟩ g5 => ?_) ⟨by simp, by simp [k2], by simp⟩ (by simp)) fun e3 h3 => ?_
 ·have ha := app_ns (l := l) (x := (rNote t).1) (by omega)
  have c1 := rNum_suf ht
  have c2 := rNum_suf c1
  simp only [eNote, rNote] at ha
  exact ⟨_, by simp only [vw0, vw1, vw2, vw3, vw4, ↓reduceIte, Nat.reduceEqDiff, Nat.reduceAdd, beq_self_eq_true, vw5, g2, g0, hN _ ht, hN _ c1, hL _ c2, ha]; rfl, ⟨by simp [g4], by simp [rNote], by simp [rNote]⟩, by simp [g5]⟩
 obtain ⟨k4, k2, k0⟩ := h3
 have k2 : e3 2 = .lptr [eHs (rList rHandler s).1, eAs (rList rActor (rList rHandler s).2).1, eNs (rList rNote (rList rActor (rList rHandler s).2).2).1, .int .i64 0] := k2
 have k0 : e3 4000 = .lptr [eB (rList rNote (rList rActor (rList rHandler s).2).2).2.1, .bool (rList rNote (rList rActor (rList rHandler s).2).2).2.2] := k0
 refine nx (by simp only [vw0, vw1, vw2, vw3, vw4, ↓reduceIte, Nat.reduceEqDiff, Nat.reduceAdd, vw5, k0, k2, hN _ b3]; rfl) ?_
 simp only [vw0, vw1, vw2, vw3, vw4, ↓reduceIte, Nat.reduceEqDiff, vw5, eProg_eq, rProg]
def outDec (x : Option STask) (e : Int) : PV := match x with
 | some t => .tup [eTask t, .int .i64 0]
 | none => .tup [eTask ⟨⟨[], [], [], 0⟩, [], ⟨0, 0, 0, 0⟩, ⟨0, 0⟩⟩, .int .i64 e]
def outD (b : List Nat) : PV := if 65536 < b.length then outDec none 3 else outDec (decTask b) 2
end Gv

namespace Gv
open Go
variable {C : CallV} {V : Nat → List PV → List PV → Bool}
theorem sign_u8 : ([71, 65, 86, 49] : List UInt8) = enSign.map UInt8.ofNat := rfl
set_option maxHeartbeats 4000000 in
theorem wDec_V {m : Nat} {b : List Nat} (hb : BO b) : callV tVT (m + 6) 19 [eB b] = some (outD b, []) := by
 refine callV_of (F := v_wire_Decode) rfl rfl rfl ?_ (.inl rfl)
 have hN : CRNum (callV tVT (m + 5)) 58 := fun t ht => rdNum_V ht
 have hC : CRdr (callV tVT (m + 5)) 56 (fun n : Nat => PV.int .i64 n) rCount := fun t ht => rdCount_V (m := m + 2) ht
 have hK := code_V (m := m + 1)
 have hP := program_V (m := m)
 have hG : ∀ s : RS, callV tVT (m + 5) 59 [.lptr [eB s.1, .bool s.2]] = some (.bool (!s.2 && decide (s.1 = [])), [.lptr [eB s.1, .bool s.2]]) := fun s => rdGood_V
 have hR := rdRead_V (m := m + 4) (sg := enSign) hb (by decide)
 rw [← sign_u8] at hR
 generalize callV tVT (m + 5) = C at hN hC hK hP hG hR
 generalize vTab tVT = V
 refine nx (by simp only [vw0, vw2, vw3, vw4, ↓reduceIte]; rfl) ?_
 by_cases h1 : 65536 < b.length
 ·have h1' : (65536 : Int) < b.length := by omega
  refine den_seq_ret ?_
  simp only [outD, if_pos h1, outDec, eTask_eq, eHs, eAs, eNs, eWs, List.map_nil]
  simp only [vw0, vw1, vw2, vw3, vw4, ↓reduceIte, Nat.reduceEqDiff, reduceCtorEq, Env.ofArgs_at, Option.getD_some, len_eB, gtrI, h1', decide_true]
 have h1' : ¬ (65536 : Int) < b.length := by omega
 refine nx (by simp only [vw0, vw1, vw2, vw3, vw4, ↓reduceIte, reduceCtorEq, Env.ofArgs_at, Option.getD_some, len_eB, gtrI, h1', decide_false]; rfl) ?_
 simp only [outD, if_neg h1]
 have hl : enSign.length = 4 := rfl
 rw [hl] at hR
 have hdec : decTask b = if (rTask (if b.take 4 = enSign then (b.drop 4, false) else ([], true))).2 = ([], false) then some (rTask (if b.take 4 = enSign then (b.drop 4, false) else ([], true))).1 else none := by
  unfold decTask
  by_cases h : b.take 4 = enSign
  ·simp only [if_pos h]
  ·simp only [if_neg h]
   rw [if_neg]
   intro h'
   have := (rTask_dec.mono ([], true) rfl)
   rw [h'] at this
   cases this
 rw [hdec]
 have hs : BO (if b.take 4 = enSign then (b.drop 4, false) else (([], true) : RS)).1 := by
  split
  ·exact hb.suf ⟨b.take 4, by simp⟩
  ·exact ⟨by simp, by simp⟩
 generalize (if b.take 4 = enSign then (b.drop 4, false) else (([], true) : RS)) = s at hs hR ⊢
 clear hdec
 have b1 := dec_BO rProg_dec hs
 have b2 := dec_BO (rList_dec rCode_dec code_pos) b1
 have b3 := rNum_suf b2
 have b4 := rNum_suf b3
 have b5 := rNum_suf b4
 have b6 := rNum_suf b5
 have b7 := rNum_suf b6
 simp only [eR] at hR
 have p0 := hP s hs
 simp only [eProg_eq] at p0
 refine nx (by simp only [vw0, vw1, vw2, vw3, vw4, ↓reduceIte, Nat.reduceEqDiff, reduceCtorEq, Nat.reduceAdd, beq_self_eq_true, vw5, Env.ofArgs_at, Option.getD_some, hR, p0]; rfl) ?_
 rw [ras]
 refine nx (by simp only [vw0, vw1, vw2, vw3, vw4, ↓reduceIte, Nat.reduceEqDiff, Nat.reduceAdd, hC _ b1]; rfl) ?_
 refine seq_of (rd_loop (f := rCode) rCode_dec.suf (rCount_lt b1) (rCount_BO b1) (fun l t e => e 16 = .int .i64 (rCount (rProg s).2).1 ∧ e 5 = .lptr [eHs (rProg s).1.handlers, eAs (rProg s).1.actors, eNs (rProg s).1.boot, .int .i64 (rProg s).1.fuel, eWs l, .int .i64 0, .int .i64 0, .int .i64 0, .int .i64 0, .int .i64 0, .int .i64 0] ∧ e 10704 = .lptr [eB t.1, .bool t.2]) (fun l t e v h => by simpa using h) (fun l t e h => h.1) (fun l t e k hl ht ⟨g4, g2, g0⟩ g5 => ?_) ⟨by simp, by simp; rfl, by simp⟩ (by simp)) fun e1 h1 => ?_
 ·have ha := app_ws (l := l) (x := (rCode t).1) (by omega)
  exact ⟨_, by simp only [vw0, vw1, vw2, vw3, vw4, ↓reduceIte, Nat.reduceEqDiff, Nat.reduceAdd, vw5, g2, g0, hK _ ht, ha]; rfl, ⟨by simp [g4], by simp, by simp⟩, by simp [g5]⟩
 obtain ⟨k4, k2, k0⟩ := h1
 have k2 : e1 5 = .lptr [eHs (rProg s).1.handlers, eAs (rProg s).1.actors, eNs (rProg s).1.boot, .int .i64 (rProg s).1.fuel, eWs (rList rCode (rProg s).2).1, .int .i64 0, .int .i64 0, .int .i64 0, .int .i64 0, .int .i64 0, .int .i64 0] := k2
 have k0 : e1 10704 = .lptr [eB (rList rCode (rProg s).2).2.1, .bool (rList rCode (rProg s).2).2.2] := k0
 refine nx (by simp only [vw0, vw1, vw2, vw3, vw4, ↓reduceIte, Nat.reduceEqDiff, Nat.reduceAdd, vw5, k0, k2, hN _ b2, hN _ b3, hN _ b4, hN _ b5, hN _ b6, hN _ b7]; rfl) ?_
 have hg := hG (rTask s).2
 cases hq : (!(rTask s).2.2 && decide ((rTask s).2.1 = [])) with
 | true =>
  rw [hq] at hg
  rw [if_pos (by simp at hq; exact Prod.ext hq.2 hq.1)]
  simp only [rTask, rTaskP, pairD, rBudget, rLimits, toTask, outDec, eTask_eq] at hg ⊢
  refine nx (by simp only [vw0, vw1, vw2, vw3, vw4, ↓reduceIte, Nat.reduceEqDiff, Nat.reduceAdd, hg, un, Bool.not_true]; rfl) ?_
  simp only [vw0, vw1, vw2, vw3, vw4, ↓reduceIte, Nat.reduceEqDiff, vw5]
 | false =>
  rw [hq] at hg
  rw [if_neg (by intro h; simp [h] at hq)]
  refine den_seq_ret ?_
  simp only [outDec, eTask_eq, eHs, eAs, eNs, eWs, List.map_nil]
  simp only [rTask, rTaskP, pairD, rBudget, rLimits] at hg
  simp only [vw0, vw1, vw2, vw3, vw4, ↓reduceIte, Nat.reduceEqDiff, Nat.reduceAdd, hg, un, Bool.not_false]
end Gv

namespace Gv
open Go
variable {C : CallV} {V : Nat → List PV → List PV → Bool}
end Gv

namespace Gv
open Go
variable {C : CallV} {V : Nat → List PV → List PV → Bool}
end Gv

namespace Gv
open Go
variable {C : CallV} {V : Nat → List PV → List PV → Bool}
def VC.tl : VC → VC
 | .seq _ b => b
 | c => c
end Gv

namespace Gv
open Go
variable {C : CallV} {V : Nat → List PV → List PV → Bool}
theorem bl_app {a b : List Nat} (ha : ∀ x ∈ a, x < 256) (hb : ∀ x ∈ b, x < 256) : ∀ x ∈ a ++ b, x < 256 := fun x h => (List.mem_append.1 h).elim (ha x) (hb x)
theorem bl_flat {α : Type} {f : α → List Nat} {l : List α} (h : ∀ y, ∀ x ∈ f y, x < 256) : ∀ x ∈ l.flatMap f, x < 256 := fun x hx => by
 obtain ⟨y, _, hy⟩ := List.mem_flatMap.1 hx
 exact h y x hy
theorem bl_num (n : Int) : ∀ x ∈ number n, x < 256 := nb_small _ _
theorem bl_N (l : List Int) : ∀ x ∈ enN l, x < 256 := bl_flat bl_num
theorem bl_code (l : List SInstr) : ∀ x ∈ enCode l, x < 256 := bl_app (bl_num _) (bl_flat fun _ => bl_app (bl_num _) (bl_num _))
theorem bl_nums (l : List Int) : ∀ x ∈ enNums l, x < 256 := bl_app (bl_num _) (bl_flat bl_num)
theorem bl_prog (p : SProg) : ∀ x ∈ enProg p, x < 256 := by
 rw [enProg_eq]
 refine bl_app (bl_app (bl_app (bl_app (bl_app (bl_app (bl_N _) (bl_flat fun h => ?_)) (bl_N _)) (bl_flat fun h => ?_)) (bl_N _)) (bl_flat fun h => ?_)) (bl_N _)
 ·rw [enHandler_eq]; exact bl_app (bl_N _) (bl_code _)
 ·rw [enActor_eq]; exact bl_app (bl_nums _) (bl_N _)
 ·rw [enNote_eq]; exact bl_app (bl_N _) (bl_nums _)
theorem enTask_lt (t : STask) : ∀ x ∈ enTask t, x < 256 := bl_app (bl_app (bl_app (by decide) (bl_prog _)) (bl_app (bl_num _) (bl_flat bl_code))) (bl_N _)
theorem lssI {a b : Int} : binI .lss .i64 a .i64 b = some (.bool (decide (a < b))) := by simp [binI]
end Gv
