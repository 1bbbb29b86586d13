/- What this file proves: one part of the proof that the law answers true for every input, by an interpreter that is proved sound against the given model. -/
import Derived.Test.YtfaeljmkbadgdaaEa
import Derived.Laws.MakeOwn
import Derived.Laws.BytesString
namespace Gv
open Go

section
variable {fid : Nat → FuncId} {P : Program} {M : Mp} {w : World} {h : Heap}

theorem run_append_room {t t2 ty e : TypeId} {i : TypeInfo} {d2 : TypeDesc} (ht : P.underlying t = some (.slice e)) (h2 : P.underlying t2 = some d2) (hni : ∀ k, d2 ≠ .int k)
  (hi : P.info? e = some i) {base : Option Addr} {sLen sCap n : Nat} {x : Value} (hlen : ∀ w, (Builtin.lenOf x).run P w = .ok n w) {new : Array Value} {w' : World}
  (hn : (Builtin.firstCells i.size n x).run P w = .ok new w) (hroom : sLen + n ≤ sCap)
  (hst : (match base with | some a => storeCells (a.add (sLen * i.size)) new.toList | none => pure () : Sem Unit).run P w = .ok () w') :
  (Builtin.append_ #[t, t2] ty #[.slice base sLen sCap, x]).run P w = .ok (.slice base (sLen + n) sCap) w' := by
 unfold Builtin.append_
 have hz : ∀ w, Sem.run P (Go.underlying t2 >>= fun d => pure (match d with | .int _ => true | _ => false)) w = .ok false w := by
  intro w
  simp only [Sem.run_bind, run_und h2, Result.andThen_ok]
  cases d2 <;> first | rfl | exact absurd rfl (hni _)
 have e1 : (#[t, t2] : Array TypeId)[0]? = some t := rfl
 have e2 : (#[t, t2] : Array TypeId)[1]? = some t2 := rfl
 have e3 : (#[Value.slice base sLen sCap, x] : Array Value)[0]? = some (.slice base sLen sCap) := rfl
 have e4 : (#[Value.slice base sLen sCap, x] : Array Value)[1]? = some x := rfl
 simp only [e1, e2, e3, e4]
 rw [Sem.run_bind, run_und ht]
 simp only [Result.andThen_ok]
 rw [Sem.run_bind, run_size hi]
 simp only [Result.andThen_ok]
 rw [Sem.run_bind, run_und h2]
 simp only [Result.andThen_ok]
 cases d2 with
 | int k => exact absurd rfl (hni k)
 | _ =>
  rw [Sem.run_bind]
  simp only [Sem.run_pure, Result.andThen_ok, Bool.false_eq_true, if_false, Bool.not_false, if_true]
  rw [Sem.run_bind, hlen]
  simp only [Result.andThen_ok, if_pos hroom]
  rw [Sem.run_bind, hn]
  simp only [Result.andThen_ok]
  cases base with
  | none =>
   have : w = w' := by simpa using hst
   subst this
   rfl
  | some a =>
   simp only at hst ⊢
   rw [Sem.run_bind, hst]
   rfl
theorem run_append_grow {t t2 ty e : TypeId} {i : TypeInfo} {d2 : TypeDesc} {z : Value} (ht : P.underlying t = some (.slice e)) (h2 : P.underlying t2 = some d2) (hni : ∀ k, d2 ≠ .int k)
  (hi : P.info? e = some i) (hz : i.zero = some z) {base : Option Addr} {sLen sCap n : Nat} {x : Value} (hlen : ∀ w, (Builtin.lenOf x).run P w = .ok n w) {old new : Array Value}
  (ho : (Builtin.firstCells i.size sLen (.slice base sLen sCap)).run P w.drew = .ok old w.drew) (hn : (Builtin.firstCells i.size n x).run P w.drew = .ok new w.drew)
  (hb0 : i.bytes ≠ 0) (hroom : sCap < sLen + n) (hb : (sLen + n) * i.bytes ≤ 140737488355328) :
  ∃ cap, (sLen + n ≤ cap ∧ cap ≤ 9223372036854775807) ∧ (Builtin.append_ #[t, t2] ty #[.slice base sLen sCap, x]).run P w =
   .ok (.slice (some ⟨w.heap.size, 0, none⟩) (sLen + n) cap) (w.drew.alloc (.cells (old ++ new ++ Builtin.zeroCells z.cells (cap - (sLen + n))) e)) := by
 have hfit := growslice_fits hroom hb
 refine ⟨grownCap w (sLen + n) sCap e, ⟨grownCap_ge _ _ _ _, ?_⟩, ?_⟩
 ·have h1 := Nat.le_mul_of_pos_right (sLen + n) (Nat.pos_of_ne_zero hb0)
  have := grownCap_le_maxLen w (sLen + n) sCap e (by unfold maxLen; omega)
  unfold maxLen at this; omega
 unfold Builtin.append_
 have hnr : ¬ (sLen + n ≤ sCap) := by omega
 have h48 : ¬ (281474976710656 < Builtin.nextslicecap (sLen + n) sCap * i.bytes) := by omega
 simp only [List.getElem?_toArray, List.getElem?_cons_zero, List.getElem?_cons_succ, Sem.run_bind, run_und ht, Result.andThen_ok, run_size hi]
 have hzr : ∀ w, (Go.zeroValue e).run P w = .ok z w := by intro w; simp [Go.zeroValue, run_info hi, hz]
 cases d2 <;> first | exact absurd rfl (hni _) | (simp [h2, run_und, hlen, hnr, hn, ho, run_info hi, h48, hb0, Question.forced, hzr, newRow, grownCap]; done)
end
end Gv

namespace Gv
open Go

section
variable {fid : Nat → FuncId} {P : Program} {M : Mp} {w : World} {h : Heap}

structure NewsR (fid : Nat → FuncId) (M : Mp) (sz : Nat) (vs : List PV) (news : List Value) : Prop where
 len : news.length = vs.length * sz
 cells : ∀ (i : Nat) (e : PV), vs[i]? = some e → e.cells.length = sz ∧ ∀ (j : Nat) (x : PV), e.cells[j]? = some x → x.isCell = true ∧ ∃ u, news[i * sz + j]? = some u ∧ VR fid M x u
 one : ∀ u ∈ news, u.oneCell' = true
theorem NewsR.mono {M M' : Mp} (le : M.le M') {sz : Nat} {vs : List PV} {news : List Value} (h : NewsR fid M sz vs news) : NewsR fid M' sz vs news :=
 ⟨h.len, fun i e hi => ⟨(h.cells i e hi).1, fun j x hj => ⟨((h.cells i e hi).2 j x hj).1, by obtain ⟨u, a, b⟩ := ((h.cells i e hi).2 j x hj).2; exact ⟨u, a, b.mono le⟩⟩⟩, h.one⟩

theorem firstCells_run {es : List PV} {c : Value} (S : SliceR fid M w es c) {sz : Nat} (hs : ∀ (i : Nat) (e : PV), es[i]? = some e → e.cells.length = sz) (n : Nat) (hn : n ≤ es.length) :
  (∀ w', (Builtin.lenOf c).run P w' = .ok es.length w') ∧ ∃ news : List Value, (∀ w' : World, w'.heap = w.heap → (Builtin.firstCells sz n c).run P w' = .ok news.toArray w') ∧ news.length = n * sz ∧
   (∀ u ∈ news, u.oneCell' = true) ∧ ∀ (i : Nat) (e : PV) (j : Nat) (x : PV), i < n → es[i]? = some e → e.cells[j]? = some x → x.isCell = true ∧ ∃ u, news[i * sz + j]? = some u ∧ VR fid M x u := by
 cases S with
 | none k cap hk =>
  subst hk
  have h0 : n = 0 := by simpa using hn
  subst h0
  exact ⟨fun w' => rfl, [], fun w' _ => by simp [Builtin.firstCells], by simp, by simp, fun i e j x hi => by omega⟩
 | empty a cap =>
  have h0 : n = 0 := by simpa using hn
  subst h0
  refine ⟨fun w' => rfl, [], fun w' _ => ?_, by simp, by simp, fun i e j x hi => by omega⟩
  cases a with
  | none => simp [Builtin.firstCells]
  | some a => simp [Builtin.firstCells, loadCells, loadCellsFrom]
 | some ad cap sz' _ us S hne =>
  have hsz : sz' = sz := by
   cases es with
   | nil => exact absurd rfl hne
   | cons e es => rw [← S.len 0 e rfl, hs 0 e rfl]
  subst hsz
  refine ⟨fun w' => rfl, rowOf n sz' us, fun w' hw => ?_, rowOf_length _ _ _, ?_, ?_⟩
  ·have hc : ∀ j v, (rowOf n sz' us)[j]? = some v → w'.cell? (ad.add j) = some v := by
    intro j v hj
    have : w'.cell? (ad.add j) = w.cell? (ad.add j) := by simp only [World.cell?, hw]
    rw [this]
    refine (S.row j v ?_).1
    unfold rowOf at hj ⊢
    rw [List.getElem?_map] at hj ⊢
    have hlt : j < n * sz' := by
     rcases Nat.lt_or_ge j (n * sz') with z | z
     ·exact z
     ·rw [List.getElem?_eq_none (by simpa using z)] at hj; cases hj
    have : n * sz' ≤ es.length * sz' := Nat.mul_le_mul_right _ hn
    rw [List.getElem?_range hlt] at hj
    rw [List.getElem?_range (by omega)]
    exact hj
   have := run_loadCells_list (P := P) w' ad (rowOf n sz' us) hc
   rw [rowOf_length] at this
   simpa [Builtin.firstCells] using this
  ·intro u hu
   obtain ⟨k, hk, rfl⟩ := List.mem_iff_getElem.1 hu
   have hlt : k < n * sz' := by rw [rowOf_length] at hk; exact hk
   have hk2 : (rowOf es.length sz' us)[k]? = some (rowOf n sz' us)[k] := by
    have : n * sz' ≤ es.length * sz' := Nat.mul_le_mul_right _ hn
    rw [← List.getElem?_eq_getElem hk]
    unfold rowOf
    rw [List.getElem?_map, List.getElem?_map, List.getElem?_range hlt, List.getElem?_range (by omega)]
   obtain ⟨_, i, j, e, x, h1, h2, _, h4⟩ := S.row k _ hk2
   rw [h4]
   obtain ⟨g1, _, g3⟩ := S.cell i e j x h1 h2
   exact g3.isCell_one g1
  ·intro i e j x hi he hj
   obtain ⟨g1, _, g3⟩ := S.cell i e j x he hj
   have hjs : j < sz' := by
    rw [← S.len i e he]
    rcases Nat.lt_or_ge j e.cells.length with z | z
    ·exact z
    ·rw [List.getElem?_eq_none z] at hj; cases hj
   exact ⟨g1, _, rowOf_get us hi hjs, g3⟩
 | str s =>
  have hl : (s.map fun b => PV.int .u8 b.toNat).length = s.length := by simp
  have hsz : (⟨s.toArray⟩ : ByteArray).size = s.length := by simp [ByteArray.size]
  refine ⟨fun w' => by simp [Builtin.lenOf, hsz], (s.take n).map (fun b => Value.int .u8 b.toNat), fun w' _ => ?_, ?_, ?_, ?_⟩
  ·have : (⟨s.toArray⟩ : ByteArray).extract 0 n = ⟨(s.take n).toArray⟩ := by
    apply ByteArray.ext
    simp [ByteArray.data_extract, List.extract_eq_take_drop]
   simp only [Builtin.firstCells, this, Sem.run_pure]
   congr 1
   apply Array.ext'
   simp
  ·rw [hl] at hn
   cases s with
   | nil => simp at hn; subst hn; simp
   | cons b s =>
    have := hs 0 _ rfl
    simp [PV.cells] at this
    subst this
    simp at hn ⊢; omega
  ·intro u hu
   simp only [List.mem_map] at hu
   obtain ⟨b, _, rfl⟩ := hu
   rfl
  ·intro i e j x hi he hj
   rw [List.getElem?_map] at he
   cases hb : s[i]? with
   | none => simp [hb] at he
   | some b =>
    simp only [hb, Option.map_some, Option.some.injEq] at he
    subst he
    have := hs i _ (by rw [List.getElem?_map, hb]; rfl)
    simp [PV.cells] at this
    subst this
    cases j with
    | succ j => simp [PV.cells] at hj
    | zero =>
     simp only [PV.cells, List.getElem?_cons_zero, Option.some.injEq] at hj
     subst hj
     refine ⟨rfl, .int .u8 b.toNat, ?_, .fr (.int _ _)⟩
     rw [List.getElem?_map, Nat.mul_one, Nat.add_zero, List.getElem?_take, if_pos hi, hb]
     rfl
theorem freeze_news {es vs : List PV} {h' : Heap} {n : Nat} {news : List Value} {sz : Nat} (hv : (HM.mapM (freezeC n) es).run h = some (vs, h')) (H : HR fid M h w)
  (hes : ∀ (i : Nat) (e : PV), es[i]? = some e → e.cells.length = sz) (hl : news.length = es.length * sz) (h1 : ∀ u ∈ news, u.oneCell' = true)
  (hc : ∀ (i : Nat) (e : PV) (j : Nat) (x : PV), es[i]? = some e → e.cells[j]? = some x → x.isCell = true ∧ ∃ u, news[i * sz + j]? = some u ∧ VR fid M x u) :
  ∃ M', Stp M w M' w ∧ HR fid M' h' w ∧ vs.length = es.length ∧ NewsR fid M' sz vs news := by
 obtain ⟨M1, S1, H1, L1, F1⟩ := mapM_freezeC (freezeC_ok n) (cs := fun i => eltV (es.getD i .junk) (fun j => news.getD (i * sz + j) undef)) hv H (fun i e hi => by
  have hd : es.getD i .junk = e := by simp [List.getD, hi]
  rw [hd]
  refine eltV_ok (fun j x hj => ?_)
  obtain ⟨_, u, g1, g2⟩ := hc i e j x hi hj
  simpa [List.getD, g1] using g2)
 refine ⟨M1, S1, H1, L1, by rw [L1]; exact hl, fun i e' hi => ?_, h1⟩
 have hilt : i < es.length := by
  rw [← L1]
  rcases Nat.lt_or_ge i vs.length with z | z
  ·exact z
  ·rw [List.getElem?_eq_none z] at hi; cases hi
 have he : es[i]? = some es[i] := List.getElem?_eq_getElem hilt
 have hF := F1 i e' hi
 have hd : es.getD i .junk = es[i] := by simp [List.getD, he]
 rw [hd] at hF
 have hone : (∀ cs, es[i] ≠ .agg cs) → (news.getD (i * sz + 0) undef).oneCell' = true := by
  intro hna
  have hcl : es[i].cells = [es[i]] := by cases hh : es[i] <;> first | rfl | exact absurd hh (hna _)
  obtain ⟨g0, u, g1, g2⟩ := hc i _ 0 es[i] he (by rw [hcl]; rfl)
  have : news.getD (i * sz + 0) undef = u := by simp only [List.getD, g1, Option.getD_some]
  rw [this]; exact g2.isCell_one g0
 have hsize := eltV_size (e := es[i]) (u := fun j => news.getD (i * sz + j) undef) hone
 have hlen : e'.cells.length = sz := by rw [hF.cells_size, hsize]; exact hes i _ he
 refine ⟨hlen, fun j x hj => ?_⟩
 have hjlt : j < es[i].cells.length := by
  rw [hes i _ he, ← hlen]
  rcases Nat.lt_or_ge j e'.cells.length with z | z
  ·exact z
  ·rw [List.getElem?_eq_none z] at hj; cases hj
 obtain ⟨u, h5, h6⟩ := hF.cells_at j x hj
 rw [eltV_cells j hjlt hone] at h5
 simp only [Option.some.injEq] at h5
 obtain ⟨g0, u', g1, g2⟩ := hc i _ j _ he (List.getElem?_eq_getElem hjlt)
 have hu : news.getD (i * sz + j) undef = u' := by simp [List.getD, g1]
 rw [hu] at h5
 subst h5
 exact ⟨h6.isCell (g2.isCell_one g0), u', g1, .fr h6⟩
end
end Gv

namespace Gv
open Go

section
variable {fid : Nat → FuncId} {P : Program} {M : Mp} {w : World} {h : Heap}

theorem HR.drew (H : HR fid M h w) : HR fid M h w.drew :=
 ⟨H.cv, H.dom, H.has, H.out, fun r e b loc h1 h2 h3 => by obtain ⟨c, t, lo, hi, B⟩ := H.blk r e b loc h1 h2 h3; exact ⟨c, t, lo, hi, ⟨B.heap, B.sz, B.size, B.free, B.lohi, B.fits, B.ro, B.rw_, B.cells⟩⟩, H.inj, H.rd⟩
theorem Stp.drew : Stp M w M w.drew := ⟨⟨.refl _, rfl, rfl, rfl, Nat.le_refl _, fun _ _ _ => rfl, fun _ h => .inl h, fun _ h => .inl h⟩, .refl _⟩
theorem Heap.put_put {r : Ref} {e e' : Ent} : (h.put r e).put r e' = h.put r e' := by cases r <;> simp [Heap.put]

theorem HR.drop {r : Ref} {e : Ent} (H : HR fid M h w) (hg : h.get r = some e) :
  let M' := M.at r e.ver none M.rd
  HR fid M' (h.put r ⟨e.ver, none⟩) w ∧ Stp M w M' w ∧ (∀ r', r' ≠ r → M'.io r' = M.io r') ∧ (∀ v, M'.io r v = none) := by
 intro M'
 have hcv : M.cv r = e.ver := H.cv _ _ hg
 have hio : ∀ r', r' ≠ r → M'.io r' = M.io r' := fun r' hr => by funext v; show (if r' = r then _ else _) = _; rw [if_neg hr]
 have hself : ∀ v, M'.io r v = none := fun v => by show (if r = r then (if v = e.ver then none else none) else _) = _; rw [if_pos rfl]; split <;> rfl
 have le : M.le M' := ⟨.refl _, fun r' => by
   show _ ≤ (if r' = r then e.ver else _); split
   ·rename_i hr; rw [hr, hcv]; exact Nat.le_refl _
   ·exact Nat.le_refl _, fun r' v _ => by
   by_cases hr : r' = r
   ·subst hr; exact .inr (hself v)
   ·left; rw [hio r' hr]⟩
 refine ⟨H.upd hg (by intro i hi; subst hi; have := Heap.ver_a hg; exact this) le (fun r' hr => by show (if r' = r then _ else _) = _; rw [if_neg hr]) hio (by show (if r = r then _ else _) = _; rw [if_pos rfl])
  (fun v hv => absurd (hself v) hv) (fun hb => absurd rfl hb) (fun b loc hb => by cases hb) (fun v loc r' v' loc' hr h1 => by rw [hself] at h1; cases h1) (fun _ _ _ _ _ => ⟨rfl, rfl⟩) H.rd, ?_, hio, hself⟩
 refine ⟨⟨.refl _, rfl, rfl, rfl, Nat.le_refl _, fun _ _ _ => rfl, fun k hk => ?_, fun k hk => .inl hk⟩, le⟩
 obtain ⟨r', v, loc', hl', rfl⟩ := hk
 by_cases hr : r' = r
 ·subst hr; rw [hself] at hl'; cases hl'
 ·rw [hio _ hr] at hl'; exact .inl (own_of hl')

theorem HR.take {s : Nat} {e : Ent} (H : HR fid M h w) (hg : h.get (.l s) = some e) {loc : Loc} {b : Blk} (hnew : ∀ r v loc', r ≠ .l s → M.io r v = some loc' → loc'.b ≠ loc.b)
  (hb : ∀ M', M.le M' → M'.rd = M.rd → ∃ c t lo hi, BlkAt fid M' w loc b c t lo hi) :
  let M' := M.at (.l s) (e.ver + 1) (some loc) M.rd
  HR fid M' (h.put (.l s) ⟨e.ver + 1, some b⟩) w ∧ M.le M' ∧ M'.io (.l s) (e.ver + 1) = some loc ∧ e.ver + 1 ≤ M'.cv (.l s) ∧ (∀ r, r ≠ .l s → M'.io r = M.io r) ∧
   (∀ v loc', M'.io (.l s) v = some loc' → loc' = loc) := by
 intro M'
 have hcv : M.cv (.l s) = e.ver := H.cv _ _ hg
 have hio : ∀ r', r' ≠ .l s → M'.io r' = M.io r' := fun r' hr => by funext v; show (if r' = .l s then _ else _) = _; rw [if_neg hr]
 have hself : ∀ v, M'.io (.l s) v = if v = e.ver + 1 then some loc else none := fun v => by show (if (Ref.l s) = .l s then _ else _) = _; rw [if_pos rfl]
 have le : M.le M' := ⟨.refl _, fun r' => by
   show _ ≤ (if r' = .l s then e.ver + 1 else _); split
   ·rename_i hr; rw [hr, hcv]; omega
   ·exact Nat.le_refl _, fun r' v hv => by
   by_cases hr : r' = .l s
   ·subst hr; rw [hcv] at hv; right; rw [hself, if_neg (by omega)]
   ·left; rw [hio r' hr]⟩
 refine ⟨H.upd hg (by intro i hi; cases hi) le (fun r' hr => by show (if r' = .l s then _ else _) = _; rw [if_neg hr]) hio (by show (if (Ref.l s) = .l s then _ else _) = _; rw [if_pos rfl])
  ?_ ?_ ?_ ?_ (fun _ _ _ _ _ => ⟨rfl, rfl⟩) H.rd, le, by rw [hself, if_pos rfl], by show _ ≤ (if (Ref.l s) = .l s then _ else _); rw [if_pos rfl]; exact Nat.le_refl _, hio, ?_⟩
 ·intro v hv; rw [hself] at hv; split at hv
  ·rename_i hv'; exact ⟨hv', by simp⟩
  ·exact absurd rfl hv
 ·intro _; rw [hself]; simp
 ·intro b1 loc1 h1 h2
  simp only [Option.some.injEq] at h1; subst h1
  rw [hself, if_pos rfl] at h2
  simp only [Option.some.injEq] at h2; subst h2
  exact hb M' le rfl
 ·intro v loc1 r' v' loc' hr h1 h2 e1
  rw [hself] at h1; split at h1
  ·simp only [Option.some.injEq] at h1; subst h1; exact hnew _ _ _ hr h2 e1.symm
  ·cases h1
 ·intro v loc' h1
  rw [hself] at h1; split at h1
  ·simp only [Option.some.injEq] at h1; exact h1.symm
  ·cases h1

theorem cells_append {c : Array Value} {base sz : Nat} {old vs : List PV} {news : List Value} (N : NewsR fid M sz vs news)
  (ho : CellsAt fid M c base sz old) (hn : ∀ (k : Nat) (u : Value), news[k]? = some u → c[base + old.length * sz + k]? = some u) : CellsAt fid M c base sz (old ++ vs) := by
 intro i e hi
 rcases Nat.lt_or_ge i old.length with z | z
 ·rw [List.getElem?_append_left z] at hi; exact ho i e hi
 ·rw [List.getElem?_append_right z] at hi
  obtain ⟨h1, h2⟩ := N.cells _ _ hi
  refine ⟨h1, fun j x hj => ⟨(h2 j x hj).1, ?_⟩⟩
  obtain ⟨u, h3, h4⟩ := (h2 j x hj).2
  refine ⟨u, ?_, h4⟩
  rw [← hn _ _ h3]
  congr 1
  have : i * sz = old.length * sz + (i - old.length) * sz := by rw [← Nat.add_mul]; congr 1; omega
  omega
theorem CellsAt.sub {c : Array Value} {base sz : Nat} {es : List PV} (h : CellsAt fid M c base sz es) (off n : Nat) : CellsAt fid M c (base + off * sz) sz ((es.drop off).take n) := by
 intro i e hi
 rw [List.getElem?_take] at hi
 split at hi
 ·rw [List.getElem?_drop] at hi
  obtain ⟨h1, h2⟩ := h _ _ hi
  refine ⟨h1, fun j x hj => ⟨(h2 j x hj).1, ?_⟩⟩
  obtain ⟨u, h3, h4⟩ := (h2 j x hj).2
  refine ⟨u, ?_, h4⟩
  rw [← h3]; congr 1; rw [Nat.add_mul]; omega
 ·cases hi

structure AppTy (P : Program) (t t2 : TypeId) (sz : Nat) (e : TypeId) (i : TypeInfo) (z : Value) (d2 : TypeDesc) : Prop where
 ht : P.underlying t = some (.slice e)
 h2 : P.underlying t2 = some d2
 hni : ∀ k, d2 ≠ .int k
 hi : P.info? e = some i
 hz : i.zero = some z
 hsz : i.size = sz
 hzs : z.cells.size = sz
 hb0 : i.bytes ≠ 0
 hb : i.bytes ≤ 32768
 hs0 : 0 < sz

theorem appendNew_ok {t t2 ty e : TypeId} {sz : Nat} {i : TypeInfo} {z : Value} {d2 : TypeDesc} (T : AppTy P t t2 sz e i z d2) {base : Option Addr} {cap : Nat} {cy : Value} {vs : List PV} {news : List Value} {s : Nat} {v : PV} {h' : Heap}
  (H : HR fid M h w) (hv : (appendNew sz [] vs s).run h = some (v, h')) (hm : vs ≠ []) (hcap : cap = 0) (N : NewsR fid M sz vs news)
  (hlen : ∀ w', (Builtin.lenOf cy).run P w' = .ok vs.length w') (hfc : ∀ w' : World, w'.heap = w.heap → (Builtin.firstCells sz vs.length cy).run P w' = .ok news.toArray w') :
  OkR fid P M w (Builtin.append_ #[t, t2] ty #[.slice base 0 cap, cy]) v h' := by
 subst hcap
 have T2 := T.hsz
 unfold appendNew at hv
 simp only [List.length_nil, Nat.zero_add, List.nil_append] at hv
 by_cases hc : vs.length < maxNew
 case neg => rw [if_neg hc] at hv; simp [HM.run] at hv
 rw [if_pos hc] at hv
 obtain ⟨n, h1, hb, hv⟩ := HM.run_bind_some hv
 obtain ⟨rfl, rfl⟩ := HM.run_ret_some hv
 have hpos : 0 < vs.length := List.length_pos_iff.2 hm
 have hold : (Builtin.firstCells i.size 0 (.slice base 0 0)).run P w.drew = .ok #[] w.drew := by
  cases base with
  | none => simp [Builtin.firstCells]
  | some a => simp [Builtin.firstCells, loadCells, loadCellsFrom]
 obtain ⟨cap, ⟨hcap, hcapM⟩, hrun⟩ := run_append_grow (P := P) (w := w) (ty := ty) (base := base) (sLen := 0) (sCap := 0) T.ht T.h2 T.hni T.hi T.hz hlen hold (by rw [T2]; exact hfc _ rfl) T.hb0 (by omega) (by
  have h3 := T.hb
  have : (0 + vs.length) * i.bytes ≤ 2147483648 * 32768 := Nat.mul_le_mul (by unfold maxNew at hc; omega) h3
  omega)
 simp only [Nat.zero_add] at hrun hcap
 have hsz : (#[] ++ news.toArray ++ Builtin.zeroCells z.cells (cap - vs.length)).size = cap * sz := by
  simp only [Array.size_append, List.size_toArray, N.len, size_zeroCells, T.hzs, List.length_nil, Nat.zero_add]
  rw [← Nat.add_mul]; congr 1; omega
 obtain ⟨M', S', H', q1, q2⟩ := newRow_ok (t := e) (H.drew) hb rfl (b := ⟨sz, vs, false⟩) (cs := #[] ++ news.toArray ++ Builtin.zeroCells z.cells (cap - vs.length))
  (by rw [hsz]; exact Nat.mul_le_mul_right _ hcap) (by rw [hsz]; exact Nat.mul_le_mul_right _ hcapM) (by
   have := cells_append (c := #[] ++ news.toArray ++ Builtin.zeroCells z.cells (cap - vs.length)) (base := 0) (old := []) N (fun i e hi => by simp at hi) (fun k u hk => by
    have hlt : k < news.length := by
     rcases Nat.lt_or_ge k news.length with z | z
     ·exact z
     ·rw [List.getElem?_eq_none z] at hk; cases hk
    simp only [List.length_nil, Nat.zero_mul, Nat.zero_add]
    rw [Array.getElem?_append_left (by simp; exact hlt)]
    simpa using hk)
   exact this)
 exact ⟨_, _, M', hrun, Stp.drew.trans S', H', tok_of_new q1 q2 (Nat.le_refl _) hcap (by rw [hsz]; exact Nat.le_refl _)⟩

theorem appendTok_ok {t t2 ty e : TypeId} {sz : Nat} {i : TypeInfo} {z : Value} {d2 : TypeDesc} (T : AppTy P t t2 sz e i z d2) {cx cy : Value} {vs : List PV} {news : List Value} {s : Nat} {v : PV} {h' : Heap}
  {r : Ref} {ver off len room : Nat} (H : HR fid M h w) (hv : (appendTok sz r ver off len room vs s).run h = some (v, h')) (hm : vs ≠ []) (hx : VR fid M (.tok r ver sz off len room false) cx) (N : NewsR fid M sz vs news)
  (hlen : ∀ w', (Builtin.lenOf cy).run P w' = .ok vs.length w') (hfc : ∀ w' : World, w'.heap = w.heap → (Builtin.firstCells sz vs.length cy).run P w' = .ok news.toArray w') :
  OkR fid P M w (Builtin.append_ #[t, t2] ty #[cx, cy]) v h' := by
 have T2 := T.hsz
 have hs0 := T.hs0
 unfold appendTok at hv
 obtain ⟨b, h1, hb, hv⟩ := HM.run_bind_some hv
 obtain ⟨rfl, hg⟩ := liveBlk_some hb
 by_cases hc : b.sz = sz ∧ b.ro = false ∧ off + len ≤ b.es.length ∧ len + vs.length < maxNew
 case neg => rw [if_neg hc] at hv; simp [HM.run] at hv
 rw [if_pos hc] at hv
 obtain ⟨c1, c2, c3, c4⟩ := hc
 obtain ⟨loc, ca, tb, lo, hi, hl, B⟩ := H.live hg
 obtain ⟨a, cap, rfl, hver, k2, k3, k4, k5⟩ := hx.tok_inv
 obtain ⟨e1, e2⟩ := k5 loc hl
 have hpos : 0 < vs.length := List.length_pos_iff.2 hm
 have hBsz := B.sz
 have hBsize := B.size
 have hfit := B.fits
 rw [c1] at hfit
 have hold : CellsAt fid M ca (loc.base + off * sz) sz ((b.es.drop off).take len) := by
  have := B.cells; rw [c1] at this; exact this.sub off len
 have hlold : ((b.es.drop off).take len).length = len := by simp; omega
 -- in place
 have inplace : ∀ {es' : List PV}, len + vs.length ≤ cap → 0 < cap →
   loc.base + es'.length * sz ≤ ca.size →
   CellsAt fid M (splA ca (loc.base + (off + len) * sz) news) loc.base sz es' →
   ∃ w', (Builtin.append_ #[t, t2] ty #[.slice (some a) len cap, cy]).run P w = .ok (.slice (some a) (len + vs.length) cap) w' ∧ Stp M w M w' ∧
    HR fid M (h.put r ⟨ver, some ⟨sz, es', false⟩⟩) w' ∧ w' = setB w loc.b (.cells (splA ca (loc.base + (off + len) * sz) news) tb (lo, hi)) ∧ a = ⟨loc.b, loc.base + off * sz, none⟩ ∧ loc.base + off * sz + cap * sz ≤ loc.size := by
  intro es' q1 q2 q3 q5
  rcases e2 with e2 | ⟨rfl, e2⟩
  ·omega
  have hmul : (len + vs.length) * sz ≤ cap * sz := Nat.mul_le_mul_right _ q1
  rw [Nat.add_mul] at hmul
  have hbound : loc.base + (off + len) * sz + news.length ≤ ca.size := by rw [N.len, Nat.add_mul]; omega
  have hst := run_stores (P := P) loc.b (loc.base + off * sz + len * sz) tb lo hi news 0 ca w B.heap (by rw [Nat.add_zero]; rw [Nat.add_mul] at hbound; omega) B.free N.one
  have hadd : loc.base + off * sz + len * sz + 0 = loc.base + (off + len) * sz := by rw [Nat.add_mul]; omega
  rw [hadd] at hst
  have hrun := run_append_room (P := P) (w := w) (ty := ty) (base := some ⟨loc.b, loc.base + off * sz, none⟩) (sLen := len) (sCap := cap) T.ht T.h2 T.hni T.hi hlen (by rw [T2]; exact hfc w rfl) q1
   (w' := setB w loc.b (.cells (splA ca (loc.base + (off + len) * sz) news) tb (lo, hi))) (by simp only [T2, add_at]; exact hst)
  obtain ⟨H', S'⟩ := H.write hg c2 (b' := ⟨sz, es', false⟩) rfl hl B c1.symm (c' := splA ca (loc.base + (off + len) * sz) news) (splA_size hbound) q3 q5
  exact ⟨_, hrun, S', H', rfl, rfl, e2⟩
 -- cells of the row that was stored into
 have spl : ∀ (cap : Nat), loc.base + (off + len) * sz + news.length ≤ ca.size → CellsAt fid M (splA ca (loc.base + (off + len) * sz) news) loc.base sz (b.es.take (off + len) ++ vs) := by
  intro cap hbound
  refine cells_append N ?_ ?_
  ·intro k e' hk
   rw [List.getElem?_take] at hk
   split at hk
   ·rename_i hkl
    have hBc := B.cells; rw [c1] at hBc
    obtain ⟨g1, g2⟩ := hBc k e' hk
    refine ⟨g1, fun j x hj => ⟨(g2 j x hj).1, ?_⟩⟩
    obtain ⟨u, g3, g4⟩ := (g2 j x hj).2
    refine ⟨u, ?_, g4⟩
    have hjl : j < sz := by
     rw [← g1]
     rcases Nat.lt_or_ge j e'.cells.length with z | z
     ·exact z
     ·rw [List.getElem?_eq_none z] at hj; cases hj
    have : (k + 1) * sz ≤ (off + len) * sz := Nat.mul_le_mul_right _ hkl
    rw [Nat.add_mul, Nat.one_mul] at this
    rw [splA_get hbound, if_neg (by omega), g3]
   ·cases hk
  ·intro k u hk
   have hlt : k < news.length := by
    rcases Nat.lt_or_ge k news.length with z | z
    ·exact z
    ·rw [List.getElem?_eq_none z] at hk; cases hk
   have : (b.es.take (off + len)).length = off + len := by simp; omega
   rw [this, splA_get hbound, if_pos (by omega), ← hk]
   congr 1; omega
 by_cases hroom : len + vs.length ≤ room
 ·rw [if_pos hroom] at hv
  by_cases hfl : off + len + vs.length ≤ b.es.length
  case neg => rw [if_neg hfl] at hv; simp [HM.run] at hv
  rw [if_pos hfl] at hv
  obtain ⟨e0, he0, hv⟩ := run_set_some hv
  obtain ⟨rfl, rfl⟩ := HM.run_ret_some hv
  have hcap : len + vs.length ≤ cap := by omega
  have hbound : loc.base + (off + len) * sz + news.length ≤ ca.size := by
   rw [N.len, Nat.add_assoc, ← Nat.add_mul]
   have : (off + len + vs.length) * sz ≤ b.es.length * sz := Nat.mul_le_mul_right _ hfl
   omega
  have hl' : (b.es.take (off + len) ++ vs ++ b.es.drop (off + len + vs.length)).length = b.es.length := by simp; omega
  obtain ⟨w', hrun, S', H', hw', ha, hb'⟩ := inplace (es' := b.es.take (off + len) ++ vs ++ b.es.drop (off + len + vs.length)) hcap (by omega) (by rw [hl']; omega) (by
   intro k e' hk
   rcases Nat.lt_or_ge k (off + len + vs.length) with z | z
   ·rw [List.getElem?_append_left (by simp; omega)] at hk
    exact spl cap hbound k e' hk
   ·rw [List.getElem?_append_right (by simp; omega), List.getElem?_drop] at hk
    have hk' : b.es[k]? = some e' := by rw [← hk]; congr 1; simp; omega
    have hBc := B.cells; rw [c1] at hBc
    obtain ⟨g1, g2⟩ := hBc k e' hk'
    refine ⟨g1, fun j x hj => ⟨(g2 j x hj).1, ?_⟩⟩
    obtain ⟨u, g3, g4⟩ := (g2 j x hj).2
    refine ⟨u, ?_, g4⟩
    have : (off + len + vs.length) * sz ≤ k * sz := Nat.mul_le_mul_right _ z
    rw [Nat.add_mul _ vs.length] at this
    rw [splA_get hbound, if_neg (by rw [N.len]; omega), g3])
  refine ⟨_, w', M, hrun, S', H', .tok _ _ _ _ _ _ _ _ _ hver hroom k3 (by intro h0; cases h0) (fun loc' hl'' => ?_)⟩
  rw [hl] at hl''; cases hl''
  exact ⟨e1, .inr ⟨ha, hb'⟩⟩
 ·rw [if_neg hroom] at hv
  have hslen : ((b.es.drop off).take len ++ vs).length = len + vs.length := by rw [List.length_append, hlold]
  have hne : ∀ r' v' loc', r' ≠ r → M.io r' v' = some loc' → loc'.b ≠ loc.b := fun r' v' loc' hr q e => hr (H.inj _ _ _ _ _ _ q hl e)
  have hrdn : M.rd loc.b = none := B.rw_ c2
  have hmaxb : (len + vs.length) * i.bytes ≤ 140737488355328 := by
   have h3 := T.hb
   have : (len + vs.length) * i.bytes ≤ 2147483648 * 32768 := Nat.mul_le_mul (by unfold maxNew at c4; omega) h3
   omega
  rcases Nat.lt_or_ge cap (len + vs.length) with hcap | hcap
  ·-- a new row
   have hel : (elems (.tok r ver sz off len room false)).run h = some ((b.es.drop off).take len, h) := by
    unfold elems
    by_cases hl0 : len = 0
    ·subst hl0; simp [HM.run]
    ·simp only [if_neg hl0, HM.run_bind]
     have : (liveBlk r ver).run h = some (b, h) := hb
     rw [this]
     simp only [if_pos (And.intro c3 c1), HM.run]
   obtain ⟨_, SR⟩ := elems_ok hel H hx
   obtain ⟨_, olds, ho1, ho2, ho3, ho4⟩ := firstCells_run (P := P) SR (sz := sz) (fun k e' hk => (hold k e' hk).1) len (by omega)
   have NO : NewsR fid M sz ((b.es.drop off).take len) olds := ⟨by rw [hlold]; exact ho2, fun k e' hk => ⟨(hold k e' hk).1, fun j x hj => ho4 k e' j x (by
    rw [← hlold]
    rcases Nat.lt_or_ge k ((b.es.drop off).take len).length with z | z
    ·exact z
    ·rw [List.getElem?_eq_none z] at hk; cases hk) hk hj⟩, ho3⟩
   obtain ⟨cap', ⟨hcap', hcapM⟩, hrun⟩ := run_append_grow (P := P) (w := w) (ty := ty) (base := some a) (sLen := len) (sCap := cap) T.ht T.h2 T.hni T.hi T.hz hlen (by rw [T2]; exact ho1 _ rfl) (by rw [T2]; exact hfc _ rfl) T.hb0 hcap hmaxb
   have hsz : (olds.toArray ++ news.toArray ++ Builtin.zeroCells z.cells (cap' - (len + vs.length))).size = cap' * sz := by
    simp only [Array.size_append, List.size_toArray, N.len, ho2, size_zeroCells, T.hzs]
    rw [← Nat.add_mul, ← Nat.add_mul]; congr 1; omega
   have hcells : ∀ {M' : Mp}, M.le M' → CellsAt fid M' (olds.toArray ++ news.toArray ++ Builtin.zeroCells z.cells (cap' - (len + vs.length))) 0 sz ((b.es.drop off).take len ++ vs) := by
    intro M' le
    refine cells_append (N.mono le) ?_ ?_
    ·have := cells_append (M := M') (c := olds.toArray ++ news.toArray ++ Builtin.zeroCells z.cells (cap' - (len + vs.length))) (base := 0) (old := []) (NO.mono le) (fun i e hi => by simp at hi) (fun k u hk => by
      have hlt : k < olds.length := by
       rcases Nat.lt_or_ge k olds.length with z | z
       ·exact z
       ·rw [List.getElem?_eq_none z] at hk; cases hk
      simp only [List.length_nil, Nat.zero_mul, Nat.zero_add]
      rw [Array.getElem?_append_left (by simp; omega), Array.getElem?_append_left (by simpa using hlt)]
      simpa using hk)
     exact this
    ·intro k u hk
     have hlt : k < news.length := by
      rcases Nat.lt_or_ge k news.length with z | z
      ·exact z
      ·rw [List.getElem?_eq_none z] at hk; cases hk
     rw [hlold, Array.getElem?_append_left (by simp [ho2]; omega), Array.getElem?_append_right (by simp [ho2])]
     simp only [List.getElem?_toArray, List.size_toArray, ho2]
     rw [← hk]; congr 1; omega
   by_cases hrs : r = .l s
   ·rw [if_pos hrs] at hv
    obtain ⟨n, h2, hb2, hv⟩ := HM.run_bind_some hv
    obtain ⟨rfl, rfl⟩ := HM.run_ret_some hv
    obtain ⟨M', S', H', q1, q2⟩ := newRow_ok (t := e) H.drew hb2 rfl (by rw [hsz]; show _ * sz ≤ _; rw [hslen]; exact Nat.mul_le_mul_right _ hcap') (by rw [hsz]; exact Nat.mul_le_mul_right _ hcapM) (hcells (.refl _))
    exact ⟨_, _, M', hrun, Stp.drew.trans S', H', tok_of_new q1 q2 (Nat.le_refl _) hcap' (by rw [hsz]; exact Nat.le_refl _)⟩
   ·rw [if_neg hrs] at hv
    obtain ⟨e0, he0, hv⟩ := run_set_some hv
    rw [hg] at he0; cases he0
    obtain ⟨n, h2, hb2, hv⟩ := HM.run_bind_some hv
    obtain ⟨rfl, rfl⟩ := HM.run_ret_some hv
    obtain ⟨H1, S1, _, _⟩ := H.drop hg
    obtain ⟨M', S', H', q1, q2⟩ := newRow_ok (t := e) H1.drew hb2 rfl (by rw [hsz]; show _ * sz ≤ _; rw [hslen]; exact Nat.mul_le_mul_right _ hcap') (by rw [hsz]; exact Nat.mul_le_mul_right _ hcapM) (hcells S1.le)
    exact ⟨_, _, M', hrun, S1.trans (Stp.drew.trans S'), H', tok_of_new q1 q2 (Nat.le_refl _) hcap' (by rw [hsz]; exact Nat.le_refl _)⟩
  ·-- in place, behind what is known
   have hcap0 : 0 < cap := by omega
   have hbase : a = ⟨loc.b, loc.base + off * sz, none⟩ ∧ loc.base + off * sz + cap * sz ≤ loc.size := by
    rcases e2 with e2 | e2
    ·omega
    ·exact e2
   have hmul : (len + vs.length) * sz ≤ cap * sz := Nat.mul_le_mul_right _ hcap
   have hbound : loc.base + (off + len) * sz + news.length ≤ ca.size := by
    rw [N.len, Nat.add_mul]; rw [Nat.add_mul] at hmul; have := hbase.2; omega
   have htl : (b.es.take (off + len) ++ vs).length = off + len + vs.length := by simp; omega
   obtain ⟨w', hrun, S', H', hw', ha, hb'⟩ := inplace (es' := b.es.take (off + len) ++ vs) hcap hcap0 (by
    rw [htl, Nat.add_assoc, Nat.add_mul]; rw [B.size]; omega) (spl cap hbound)
   have hdrop : (b.es.take (off + len) ++ vs).drop off = (b.es.drop off).take len ++ vs := by
    rw [List.drop_append_of_le_length (by simp; omega), List.drop_take]
    congr 2; omega
   have hblk : ∀ M', M.le M' → M'.rd = M.rd → ∃ c t lo hi, BlkAt fid M' w' ⟨loc.b, loc.base + off * sz, sz, loc.size⟩ ⟨sz, (b.es.drop off).take len ++ vs, false⟩ c t lo hi := by
    intro M' le hrd
    refine ⟨splA ca (loc.base + (off + len) * sz) news, tb, lo, hi, ⟨?_, rfl, ?_, ?_, ⟨B.lohi.1, fun q => by rw [splA_size hbound]; exact B.lohi.2.1 (by rw [← B.sz, e1]; exact q), by rw [splA_size hbound]; have := B.lohi.2.2; rw [← B.sz, e1] at this; exact this⟩, ?_, fun q => (by cases q), fun _ => by rw [hrd]; exact hrdn, ?_⟩⟩
    ·rw [hw']; exact setB_same B.lt
    ·rw [splA_size hbound]; exact B.size
    ·intro k hk; rw [splA_size hbound] at hk; exact B.free k hk
    ·show loc.base + off * sz + _ * sz ≤ _
     rw [hslen, splA_size hbound, B.size]; omega
    ·have h5 := ((spl cap hbound).mono le).sub off (len + vs.length)
     rw [hdrop, List.take_of_length_le (by rw [hslen]; exact Nat.le_refl _)] at h5
     exact h5
   have fin : ∀ {M1 M' : Mp} {v' : Nat}, M.le M1 → (∀ r', r' ≠ .l s → M'.io r' = M1.io r') → (∀ k, own M1 k → own M k) → M1.le M' → M'.rd = M.rd → M'.io (.l s) v' = some ⟨loc.b, loc.base + off * sz, sz, loc.size⟩ → v' ≤ M'.cv (.l s) →
     (∀ v loc', M'.io (.l s) v = some loc' → loc' = ⟨loc.b, loc.base + off * sz, sz, loc.size⟩) →
     Stp M w M' w' ∧ VR fid M' (.tok (.l s) v' sz 0 (len + vs.length) (len + vs.length) false) (.slice (some a) (len + vs.length) cap) := by
    intro M1 M' v' le1 hio how le2 hrd hi1 hv1 hall
    refine ⟨⟨⟨by rw [hrd]; exact .refl _, S'.os, S'.tape, S'.output, S'.size, S'.frame, fun k hk => ?_, fun k hk => .inl (by rw [hrd] at hk; exact hk)⟩, le1.trans le2⟩, .tok _ _ _ _ _ _ _ _ _ hv1 (Nat.le_refl _) hcap (by intro h0; cases h0) (fun loc' hl' => ?_)⟩
    ·obtain ⟨r', v2, loc', hl', rfl⟩ := hk
     by_cases hr : r' = .l s
     ·subst hr; have h8 := hall _ _ hl'; subst h8; exact .inl (show own M loc.b from own_of hl)
     ·rw [hio _ hr] at hl'; exact .inl (how _ (own_of hl'))
    ·rw [hi1] at hl'; cases hl'
     exact ⟨rfl, .inr ⟨by rw [ha]; simp, by simpa using hb'⟩⟩
   by_cases hrs : r = .l s
   ·rw [if_pos hrs] at hv
    obtain ⟨n, h2, hb2, hv⟩ := HM.run_bind_some hv
    obtain ⟨rfl, rfl⟩ := HM.run_ret_some hv
    obtain ⟨e3, he3, rfl, rfl⟩ := newBlk_some hb2
    subst hrs
    rw [hg] at he3; cases he3
    have hg2 : (h.put (.l s) ⟨ver, some ⟨sz, b.es.take (off + len) ++ vs, false⟩⟩).get (.l s) = some ⟨ver, some ⟨sz, b.es.take (off + len) ++ vs, false⟩⟩ := Heap.get_put_same hg (by intro i hi; cases hi)
    obtain ⟨H2, le2, q1, q2, q3, q4⟩ := H'.take hg2 (loc := ⟨loc.b, loc.base + off * sz, sz, loc.size⟩) (b := ⟨sz, (b.es.drop off).take len ++ vs, false⟩) (fun r' v' loc' hr q => hne r' v' loc' hr q) hblk
    rw [Heap.put_put] at H2
    obtain ⟨S2, V2⟩ := fin (.refl _) q3 (fun _ h => h) le2 rfl q1 q2 q4
    exact ⟨_, w', _, hrun, S2, H2, V2⟩
   ·rw [if_neg hrs] at hv
    obtain ⟨e0, he0, hv⟩ := run_set_some hv
    rw [hg] at he0; cases he0
    obtain ⟨n, h2, hb2, hv⟩ := HM.run_bind_some hv
    obtain ⟨rfl, rfl⟩ := HM.run_ret_some hv
    obtain ⟨e3, he3, rfl, rfl⟩ := newBlk_some hb2
    have hva : ∀ i, r = .a i → ver = 0 := by intro i hi; subst hi; have := Heap.ver_a hg; exact this
    have hg2 : (h.put r ⟨ver, some ⟨sz, b.es.take (off + len) ++ vs, false⟩⟩).get r = some ⟨ver, some ⟨sz, b.es.take (off + len) ++ vs, false⟩⟩ := Heap.get_put_same hg hva
    obtain ⟨H1, S1, p1, p2⟩ := H'.drop hg2
    rw [Heap.put_put] at H1
    obtain ⟨H2, le2, q1, q2, q3, q4⟩ := H1.take he3 (loc := ⟨loc.b, loc.base + off * sz, sz, loc.size⟩) (b := ⟨sz, (b.es.drop off).take len ++ vs, false⟩) (fun r' v' loc' hr q => by
     by_cases hrr : r' = r
     ·subst hrr; rw [p2] at q; cases q
     ·rw [p1 _ hrr] at q; exact hne r' v' loc' hrr q) (fun M' le hrd => hblk M' (S1.le.trans le) hrd)
    obtain ⟨S2, V2⟩ := fin S1.le q3 (fun k hk => by
     rcases S1.own k hk with z | z
     ·exact z
     ·obtain ⟨r', v', loc', hl', rfl⟩ := hk
      by_cases hrr : r' = r
      ·subst hrr; rw [p2] at hl'; cases hl'
      ·rw [p1 _ hrr] at hl'; exact own_of hl') le2 rfl q1 q2 q4
    exact ⟨_, w', _, hrun, S2, H2, V2⟩
end
end Gv

namespace Gv
open Go

section
variable {fid : Nat → FuncId} {P : Program} {M : Mp} {w : World} {h : Heap}

theorem OkR.after {M1 : Mp} {s : Sem Value} {v : PV} {h' : Heap} (S : Stp M w M1 w) (o : OkR fid P M1 w s v h') : OkR fid P M w s v h' := by
 obtain ⟨c, w', M', h1, h2, h3, h4⟩ := o
 exact ⟨c, w', M', h1, S.trans h2, h3, h4⟩

theorem sized_get : ∀ {sz : Nat} {vs : List PV}, sized sz vs = true → ∀ (i : Nat) (e : PV), vs[i]? = some e → e.cells.length = sz
 | sz, v :: vs, h, 0, e, hi => by simp only [sized, Bool.and_eq_true, beq_iff_eq] at h; simp at hi; subst hi; exact h.1
 | sz, v :: vs, h, i + 1, e, hi => by simp only [sized, Bool.and_eq_true] at h; exact sized_get h.2 i e hi
 | _, [], _, i, e, hi => by simp at hi

theorem append_ok {t t2 ty e : TypeId} {sz : Nat} {i : TypeInfo} {z : Value} {d2 : TypeDesc} (T : AppTy P t t2 sz e i z d2) {x y v : PV} {cx cy : Value} {s : Nat} {h' : Heap}
  (H : HR fid M h w) (hv : (appendHM sz x y s).run h = some (v, h')) (hx : VR fid M x cx) (hy : VR fid M y cy) : OkR fid P M w (Builtin.append_ #[t, t2] ty #[cx, cy]) v h' := by
 unfold appendHM at hv
 obtain ⟨vs0, h1, he, hv2⟩ := HM.run_bind_some hv
 clear hv
 obtain ⟨rfl, S⟩ := elems_ok he H hy
 have hv := hv2; clear hv2
 by_cases hs : sized sz vs0 = true
 case neg => rw [if_neg hs] at hv; simp [HM.run] at hv
 rw [if_pos hs] at hv
 obtain ⟨vs, h2, hm, hv3⟩ := HM.run_bind_some hv
 clear hv; have hv := hv3; clear hv3
 obtain ⟨hlen, news, hfc, hl, hone, hcells⟩ := firstCells_run (P := P) S (sized_get hs) vs0.length (Nat.le_refl _)
 obtain ⟨M1, S1, H1, L1, N⟩ := freeze_news hm H (sized_get hs) hl hone (fun i e j x hi hj => hcells i e j x (by
  rcases Nat.lt_or_ge i vs0.length with z | z
  ·exact z
  ·rw [List.getElem?_eq_none z] at hi; cases hi) hi hj)
 refine OkR.after S1 ?_
 have hx1 := hx.mono S1.le
 rw [← L1] at hlen hfc
 by_cases hem : vs.isEmpty = true
 ·rw [if_pos hem] at hv
  have h0 : vs = [] := by simpa using hem
  subst h0
  have hn0 : news = [] := by simpa using N.len
  subst hn0
  have key : ∀ (b : Option Addr) (n cap : Nat), n ≤ cap → (Builtin.append_ #[t, t2] ty #[.slice b n cap, cy]).run P w = .ok (.slice b n cap) w := by
   intro b n cap hle
   have := run_append_room (P := P) (w := w) (ty := ty) (base := b) (sLen := n) (sCap := cap) T.ht T.h2 T.hni T.hi hlen (by rw [T.hsz]; exact hfc w rfl) (by simpa using hle) (w' := w) (by
    cases b <;> simp [storeCells])
   simpa using this
  split at hv
  ·obtain ⟨rfl, rfl⟩ := HM.run_ret_some hv
   have := hx1.nils_inv; subst this
   exact OkR.pure H1 (key _ _ _ (Nat.le_refl _)) hx1
  ·obtain ⟨rfl, rfl⟩ := HM.run_ret_some hv
   have hf := hx1.lst_inv
   cases hf with
   | lst _ _ a cap esz us g1 g2 g3 g4 g5 => exact OkR.pure H1 (key _ _ _ g1) hx1
  ·obtain ⟨rfl, rfl⟩ := HM.run_ret_some hv
   obtain ⟨a, cap, rfl, hver, k2, k3, k4, k5⟩ := hx1.tok_inv
   exact OkR.pure H1 (key _ _ _ (by omega)) hx1
  ·simp [HM.run] at hv
 ·rw [if_neg hem] at hv
  have hne : vs ≠ [] := by simpa using hem
  split at hv
  ·have := hx1.nils_inv; subst this
   exact appendNew_ok T H1 hv hne rfl N hlen hfc
  ·rename_i es c0
   split at hv
   ·rename_i hc
    have hf := hx1.lst_inv
    cases hf with
    | lst _ _ ad cap esz us g1 g2 g3 g4 g5 =>
     have h0 : es = [] := by simpa using hc.2
     cases h0
     exact appendNew_ok T H1 hv hne (g2 hc.1) N hlen hfc
   ·simp [HM.run] at hv
  ·rename_i r ver z' off len room c0
   split at hv
   ·split at hv
    ·rename_i hc0 hl0
     subst hl0
     obtain ⟨a, cap, rfl, hver, k2, k3, k4, k5⟩ := hx1.tok_inv
     exact appendNew_ok T H1 hv hne (k4 hc0) N hlen hfc
    ·simp [HM.run] at hv
   ·rename_i hc0
    split at hv
    ·rename_i hz
     subst hz
     have : c0 = false := by simpa using hc0
     subst this
     exact appendTok_ok T H1 hv hne hx1 N hlen hfc
    ·simp [HM.run] at hv
  ·simp [HM.run] at hv
end
end Gv

namespace Gv
open Go

section
variable {fid : Nat → FuncId} {P : Program} {M : Mp} {w : World} {h : Heap}

theorem pick_ok {c a b v : PV} {cc ca cb : Value} {h' : Heap} (hv : (pickPV c a b).run h = some (v, h')) (hc : VR fid M c cc) (ha : VR fid M a ca) (hb : VR fid M b cb) :
  h' = h ∧ ∃ t, (∀ w, (asBool cc).run P w = .ok t w) ∧ VR fid M v (if t then ca else cb) := by
 unfold pickPV at hv
 split at hv
 ·obtain ⟨rfl, rfl⟩ := HM.run_ret_some hv
  have := hc.bool_inv; subst this
  exact ⟨rfl, true, fun w => rfl, ha⟩
 ·obtain ⟨rfl, rfl⟩ := HM.run_ret_some hv
  have := hc.bool_inv; subst this
  exact ⟨rfl, false, fun w => rfl, hb⟩
 ·simp [HM.run] at hv

theorem nilchk_ok {x v : PV} {c : Value} {h' : Heap} (hv : (nilchkPV x).run h = some (v, h')) (hx : VR fid M x c) :
  h' = h ∧ v = x ∧ ((∃ a, c = .pointer (some a)) ∨ ∃ f vs, c = .func (.func f) #[] vs) := by
 unfold nilchkPV at hv
 split at hv
 ·obtain ⟨rfl, rfl⟩ := HM.run_ret_some hv
  obtain ⟨a, rfl, _⟩ := hx.ptr_inv
  exact ⟨rfl, rfl, .inl ⟨a, rfl⟩⟩
 ·obtain ⟨rfl, rfl⟩ := HM.run_ret_some hv
  obtain ⟨a, rfl⟩ := hx.lptr_inv
  exact ⟨rfl, rfl, .inl ⟨a, rfl⟩⟩
 ·obtain ⟨rfl, rfl⟩ := HM.run_ret_some hv
  obtain ⟨vs, rfl, _⟩ := hx.fn_inv
  exact ⟨rfl, rfl, .inr ⟨_, vs, rfl⟩⟩
 ·simp [HM.run] at hv

theorem bytesOf_get : ∀ {es : List PV} {l : List UInt8}, bytesOf es = some l → ∃ ns : List Int, es = ns.map (PV.int .u8) ∧ l = ns.map fun n => UInt8.ofNat n.toNat
 | [], l, h => by simp [bytesOf] at h; exact ⟨[], rfl, h⟩
 | e :: es, l, h => by
  unfold bytesOf at h
  split at h
  ·rename_i h1; cases h1
  ·rename_i n vs h1
   cases h1
   split at h
   ·rename_i l' hl
    obtain ⟨ns, h1, h2⟩ := bytesOf_get hl
    simp only [Option.some.injEq] at h
    exact ⟨n :: ns, by simp [h1], by rw [← h, h2]; rfl⟩
   ·cases h
  ·cases h
theorem foldl_push (ns : List Int) (r : ByteArray) : ns.foldl (fun r n => r.push (UInt8.ofNat n.toNat)) r = ⟨(r.data.toList ++ ns.map fun n => UInt8.ofNat n.toNat).toArray⟩ := by
 induction ns generalizing r with
 | nil => simp
 | cons n ns ih => rw [List.foldl_cons, ih]; simp [ByteArray.push]

theorem b2s_ok {x v : PV} {c : Value} {h' : Heap} (hv : (b2sHM x).run h = some (v, h')) (H : HR fid M h w) (hx : VR fid M x c) {src dst e : TypeId}
  (hs : P.underlying src = some (.slice e)) (he : P.underlying e = some (.int .u8)) (hd : P.underlying dst = some .string) :
  h' = h ∧ ∃ u, (convert src dst c).run P w = .ok u w ∧ VR fid M v u := by
 unfold b2sHM at hv
 by_cases hst : x.isStr = true
 ·rw [if_pos hst] at hv; simp [HM.run] at hv
 rw [if_neg hst] at hv
 have hns : ∀ s, x ≠ .str s := fun s e => hst (by rw [e]; rfl)
 obtain ⟨es, h1, hel, hv2⟩ := HM.run_bind_some hv
 obtain ⟨rfl, S⟩ := elems_ok hel H hx
 cases hb : bytesOf es with
 | none => rw [hb] at hv2; simp [HM.run] at hv2
 | some l =>
  rw [hb] at hv2
  obtain ⟨rfl, rfl⟩ := HM.run_ret_some hv2
  refine ⟨rfl, ?_⟩
  obtain ⟨ns, hes, rfl⟩ := bytesOf_get hb
  cases S with
  | none n cap h0 =>
   have : ns = [] := List.map_eq_nil_iff.1 hes.symm
   subst this
   exact ⟨_, by rw [run_convert_bytes_string w src dst e none n cap hs he hd]; rfl, .fr (.str [])⟩
  | empty a cap =>
   have : ns = [] := List.map_eq_nil_iff.1 hes.symm
   subst this
   refine ⟨.string ⟨#[]⟩, ?_, .fr (.str [])⟩
   rw [run_convert_bytes_string w src dst e a 0 cap hs he hd]
   cases a with
   | none => rfl
   | some a => rw [run_bytesToString w a 0 cap [] (by simp [loadCells, loadCellsFrom])]; rfl
  | some ad cap sz _ us h hne =>
   subst hes
   refine ⟨_, ?_, .fr (.str _)⟩
   rw [run_convert_bytes_string w src dst e _ _ cap hs he hd, run_bytesToString w ad _ cap ns, foldl_push]
   ·rfl
   ·have hsz : sz = 1 := by
     cases ns with
     | nil => exact absurd rfl hne
     | cons n ns => rw [← h.len 0 (.int .u8 n) rfl]; rfl
    subst hsz
    have := run_loadCells_list (P := P) w ad (ns.map (Value.int .u8)) (fun j v hj => by
     rw [List.getElem?_map] at hj
     cases hn : ns[j]? with
     | none => rw [hn] at hj; cases hj
     | some n =>
      rw [hn] at hj
      simp only [Option.map_some, Option.some.injEq] at hj
      subst hj
      obtain ⟨_, h3, h4⟩ := h.cell j (.int .u8 n) 0 (.int .u8 n) (by rw [List.getElem?_map, hn]; rfl) rfl
      have h5 := h4.int_inv
      rw [h5] at h3
      simpa using h3)
    simpa using this
  | str s =>
   exfalso
   unfold elems at hel
   split at hel
   ·have := hx.nils_inv; cases this
   ·have := hx.lst_inv; cases this
   ·exact hns _ rfl
   ·obtain ⟨a, cap, h9, _⟩ := hx.tok_inv; cases h9
   ·simp [HM.run] at hel

theorem mkslice_ok {sz s : Nat} {z n v : PV} {cn : Value} {h' : Heap} (H : HR fid M h w) (hv : (mksliceHM sz z n s).run h = some (v, h')) (hn : VR fid M n cn) {t e : TypeId} {i : TypeInfo} {zv : Value}
  (ht : P.underlying t = some (.slice e)) (hi : P.info? e = some i) (hz : i.zero = some zv) (hsz : i.size = sz) (hb : i.bytes ≤ 32768) (hzz : ∀ rd, FR fid rd z zv) : OkR fid P M w (Instr.makeSlice t cn cn) v h' := by
 unfold mksliceHM at hv
 split at hv
 case h_2 => simp [HM.run] at hv
 rename_i k n
 by_cases hc : 0 ≤ n ∧ n < maxNew ∧ z.cells.length = sz ∧ okCells z.cells
 case neg => rw [if_neg hc] at hv; simp [HM.run] at hv
 rw [if_pos hc] at hv
 obtain ⟨c1, c2, c3, c4⟩ := hc
 obtain ⟨ver, h1, hbk, hv2⟩ := HM.run_bind_some hv
 obtain ⟨rfl, rfl⟩ := HM.run_ret_some hv2
 have := hn.int_inv; subst this
 have hm : (n : Int) < 2147483648 := by have := c2; simp only [maxNew] at this; omega
 have hbytes : (i.bytes : Int) * n ≤ 281474976710656 := by
  have h1 : (i.bytes : Int) * n ≤ 32768 * n := Int.mul_le_mul_of_nonneg_right (by omega) c1
  omega
 have hrun := run_make (P := P) w t e i zv ht hi hz k k n n c1 (Int.le_refl _) hbytes (by omega)
 have hzs := (hzz M.rd).cells_size
 have hsize : (madeCells zv.cells (n.toNat * i.size)).size = n.toNat * sz := by rw [size_madeCells, hsz]
 obtain ⟨M', S', H', q1, q2⟩ := newRow_ok (t := e) H hbk rfl (cs := madeCells zv.cells (n.toNat * i.size)) (by rw [hsize]; simp) (by rw [hsize]; exact Nat.mul_le_mul_right _ (by omega)) (by
  intro j x hj
  rw [List.getElem?_replicate] at hj
  split at hj
  ·rename_i hjn
   simp only [Option.some.injEq] at hj; subst hj
   refine ⟨c3, fun k x hk => ⟨okCells_get c4 hk, ?_⟩⟩
   obtain ⟨u, h5, h6⟩ := (hzz M.rd).cells_at k x hk
   have hks : k < sz := by
    rw [← c3]
    rcases Nat.lt_or_ge k z.cells.length with z | z
    ·exact z
    ·rw [List.getElem?_eq_none z] at hk; cases hk
   refine ⟨u, ?_, .fr h6⟩
   have hlt : j * sz + k < n.toNat * i.size := by
    have : (j + 1) * sz ≤ n.toNat * sz := Nat.mul_le_mul_right _ hjn
    rw [Nat.add_mul] at this; rw [hsz]; omega
   have hmod : (j * sz + k) % zv.cells.size = k := by
    rw [← hzs, c3, Nat.add_comm, Nat.add_mul_mod_self_right, Nat.mod_eq_of_lt hks]
   have hkz : k < zv.cells.size := by rw [← hzs, c3]; exact hks
   rw [Array.getElem?_eq_getElem hkz] at h5
   simp only [Option.some.injEq] at h5
   simp only [Nat.zero_add, madeCells]
   rw [Array.getElem?_map, Array.getElem?_range, if_pos hlt]
   simp only [Option.map_some, hmod]
   rw [getElem!_pos zv.cells k hkz, h5]
  ·cases hj)
 exact ⟨_, _, M', hrun, S', H', tok_of_new q1 q2 (Nat.le_refl _) (Nat.le_refl _) (by rw [hsize]; exact Nat.le_refl _)⟩

theorem fillPV_row {sz : Option Nat} : ∀ (vs : List PV) (A : List PV) (k : Nat), okElems sz vs = true → A.length = k * szN sz →
  fillPV (A ++ List.replicate (vs.length * szN sz) .junk) ((vs.zipIdx k).map fun p => (p.2 * szN sz, sz, p.1)) = some (A ++ vs.flatMap PV.cells)
 | [], A, k, _, _ => by simp [fillPV]
 | v :: vs, A, k, h, hA => by
  simp only [okElems, Bool.and_eq_true] at h
  have hl : v.cells.length = szN sz := by
   cases sz with
   | none => cases v <;> first | rfl | (simp [PV.fits] at h; done)
   | some n => cases v <;> first | (simp [PV.fits] at h; done) | (simpa [PV.fits, szN, PV.cells] using h.1.1)
  rw [List.zipIdx_cons, List.map_cons]
  simp only [fillPV]
  rw [if_pos ⟨h.1.1, by rw [hl]; simp only [List.length_append, List.length_replicate, List.length_cons, hA, Nat.add_mul]; omega⟩]
  have e1 : (A ++ List.replicate ((v :: vs).length * szN sz) PV.junk).take (k * szN sz) = A := by rw [← hA]; simp
  have e2 : (A ++ List.replicate ((v :: vs).length * szN sz) PV.junk).drop (k * szN sz + v.cells.length) = List.replicate (vs.length * szN sz) PV.junk := by
   rw [hl, ← hA, List.drop_append, List.drop_eq_nil_of_le (by omega)]
   simp only [List.nil_append, List.length_cons, List.drop_replicate, Nat.add_mul]
   congr 1; omega
  rw [e1, e2]
  have := fillPV_row vs (A ++ v.cells) (k + 1) h.2 (by rw [List.length_append, hA, hl, Nat.add_mul]; omega)
  rw [this]
  simp [List.flatMap_cons]
theorem flat_get {sz : Nat} : ∀ {vs : List PV} (_ : ∀ (i : Nat) (e : PV), vs[i]? = some e → e.cells.length = sz) (i j : Nat) (e x : PV), vs[i]? = some e → e.cells[j]? = some x → (vs.flatMap PV.cells)[i * sz + j]? = some x
 | [], _, i, j, e, x, hi, _ => by simp at hi
 | v :: vs, hs, 0, j, e, x, hi, hj => by
  simp only [List.getElem?_cons_zero, Option.some.injEq] at hi; subst hi
  rw [List.flatMap_cons, Nat.zero_mul, Nat.zero_add, List.getElem?_append_left, hj]
  rcases Nat.lt_or_ge j v.cells.length with z | z
  ·exact z
  ·rw [List.getElem?_eq_none z] at hj; cases hj
 | v :: vs, hs, i + 1, j, e, x, hi, hj => by
  have h0 := hs 0 v rfl
  rw [List.flatMap_cons, List.getElem?_append_right (by rw [h0, Nat.add_mul]; omega), h0]
  have := flat_get (vs := vs) (fun i e h => hs (i + 1) e h) i j e x hi hj
  rw [← this]; congr 1; rw [Nat.add_mul]; omega
theorem okElems_get {sz : Option Nat} : ∀ {vs : List PV}, okElems sz vs = true → ∀ (i : Nat) (e : PV), vs[i]? = some e → e.fits sz = true ∧ okCells e.cells = true
 | v :: vs, h, 0, e, hi => by simp only [okElems, Bool.and_eq_true] at h; simp at hi; subst hi; exact h.1
 | v :: vs, h, i + 1, e, hi => by simp only [okElems, Bool.and_eq_true] at h; exact okElems_get h.2 i e hi
 | [], _, i, e, hi => by simp at hi

theorem buildSlice_ok {sz : Option Nat} {s : Nat} {vs : List PV} {cs : List Value} {v : PV} {h' : Heap} (H : HR fid M h w) (hv : (buildSliceHM sz vs s).run h = some (v, h'))
  {t e : TypeId} {i : TypeInfo} {zv : Value} (ht : P.underlying t = some (.slice e)) (hse : szOk P e sz = true) (hi : P.info? e = some i) (hz : i.zero = some zv)
  (hl : vs.length = cs.length) (hvs : ∀ (i : Nat) (e : PV) (u : Value), vs[i]? = some e → cs[i]? = some u → VR fid M e u) (hlen : cs.length * szN sz ≤ 16777216) :
  OkR fid P M w (Instr.buildSlice t cs.length (cs.zipIdx.map fun p => (p.2, p.1)).toArray) v h' := by
 unfold buildSliceHM at hv
 by_cases hc : okElems sz vs = true
 case neg => rw [if_neg hc] at hv; simp [HM.run] at hv
 rw [if_pos hc] at hv
 obtain ⟨ver, h1, hb, hv2⟩ := HM.run_bind_some hv
 obtain ⟨rfl, rfl⟩ := HM.run_ret_some hv2
 have hrow := fillPV_row (sz := sz) vs [] 0 hc (by simp)
 simp only [List.nil_append] at hrow
 have hparts : ∀ (vs : List PV) (cs : List Value) (k : Nat), vs.length = cs.length → (∀ (i : Nat) (e : PV) (u : Value), vs[i]? = some e → cs[i]? = some u → VR fid M e u) →
   PartsR fid M (fun i => some (i * szN sz, szN sz)) ((vs.zipIdx k).map fun p => (p.2 * szN sz, sz, p.1)) ((cs.zipIdx k).map fun p => (p.2, p.1)) := by
  intro vs
  induction vs with
  | nil => intro cs k hl _; cases cs with
   | nil => exact .nil
   | cons _ _ => cases hl
  | cons v vs ih => intro cs k hl hr; cases cs with
   | nil => cases hl
   | cons c cs =>
    simp only [List.zipIdx_cons, List.map_cons]
    exact .cons _ _ _ _ _ _ _ (hr 0 v c rfl rfl) rfl (ih cs (k + 1) (by simpa using hl) (fun i e u a b => hr (i + 1) e u a b))
 let Z := if cs.length * szN sz = 0 then (#[] : Array Value) else zv.cells
 obtain ⟨R, hR, r1, r2⟩ := fill_ok (hparts vs cs 0 hl hvs) hrow (Z := (Array.range (cs.length * szN sz)).map (Z[· % Z.size]!)) (by simp [hl]) (by
  intro i e u hi _
  rw [List.getElem?_replicate] at hi
  split at hi
  ·simp only [Option.some.injEq] at hi; subst hi; exact .junk _
  ·cases hi)
 have hlens : ∀ (i : Nat) (e : PV), vs[i]? = some e → e.cells.length = szN sz := by
  intro i e hi
  have h9 := okElems_get hc i e hi
  cases sz with
  | none => cases e <;> first | rfl | (simp [PV.fits] at h9; done)
  | some n => cases e <;> first | (simp [PV.fits] at h9; done) | (simpa [PV.fits, szN, PV.cells] using h9.1)
 have hflen : (vs.flatMap PV.cells).length = vs.length * szN sz := by
  have : ∀ (vs : List PV), (∀ (i : Nat) (e : PV), vs[i]? = some e → e.cells.length = szN sz) → (vs.flatMap PV.cells).length = vs.length * szN sz := by
   intro vs
   induction vs with
   | nil => simp
   | cons v vs ih => intro hh; rw [List.flatMap_cons, List.length_append, ih (fun i e h => hh (i + 1) e h), hh 0 v rfl, List.length_cons, Nat.add_mul]; omega
  exact this vs hlens
 obtain ⟨M', S', H', q1, q2⟩ := newRow_ok (t := e) H hb rfl (cs := R) (by rw [← r1, hflen]; exact Nat.le_refl _) (by
  rw [← r1, hflen]
  show vs.length * szN sz ≤ 9223372036854775807 * szN sz
  rcases Nat.eq_zero_or_pos (szN sz) with z | z
  ·rw [z]; omega
  ·refine Nat.mul_le_mul_right _ ?_
   have := Nat.le_mul_of_pos_right cs.length z
   omega) (by
  intro i e hi
  refine ⟨hlens i e hi, fun j x hj => ⟨okCells_get (okElems_get hc i e hi).2 hj, ?_⟩⟩
  have h5 := flat_get hlens i j e x hi hj
  have hlt : i * szN sz + j < R.size := by
   rw [← r1]
   rcases Nat.lt_or_ge (i * szN sz + j) (vs.flatMap PV.cells).length with z | z
   ·exact z
   ·rw [List.getElem?_eq_none z] at h5; cases h5
  refine ⟨R[i * szN sz + j], ?_, r2 _ _ _ h5 (Array.getElem?_eq_getElem hlt)⟩
  rw [Nat.zero_add]
  exact Array.getElem?_eq_getElem hlt)
 refine ⟨.slice (some ⟨w.heap.size, 0, none⟩) cs.length cs.length, w.alloc (.cells R e), M', ?_, S', H', ?_⟩
 ·unfold Instr.buildSlice
  have hno : ¬ (cs.length * szN sz > 2 ^ 24) := by simpa using hlen
  simp only [Sem.run_bind, run_und ht, Result.andThen_ok, run_sizeN hse, if_neg hno]
  have hR' : Instr.fill (fun i => some (i * szN sz, szN sz)) ((Array.range (cs.length * szN sz)).map (Z[· % Z.size]!)) (cs.zipIdx.map fun p => (p.2, p.1)) = some R := hR
  by_cases h0 : cs.length * szN sz = 0
  ·have hZ : Z = #[] := if_pos h0
   rw [hZ] at hR'
   have e0 : Array.range 0 = #[] := rfl
   simp only [h0, e0, Array.map_empty] at hR'
   simp only [h0, e0, if_true, Sem.run_pure, Result.andThen_ok, Array.map_empty, hR', Sem.run_bind]
   simp [newRow]
  ·have hZ : Z = zv.cells := if_neg h0
   rw [hZ] at hR'
   simp [h0, hR', newRow, zeroValue, typeInfo, hi, hz]
 ·rw [← hl]
  exact tok_of_new q1 q2 (Nat.le_refl _) (Nat.le_refl _) (by show _ * szN sz ≤ _; rw [← r1, hflen]; exact Nat.le_refl _)

theorem same_ok {x v : PV} {c : Value} {h' : Heap} (hv : (samePV x).run h = some (v, h')) (H : HR fid M h w) (hx : VR fid M x c) {src e : TypeId} (hs : P.underlying src = some (.slice e)) (he : P.underlying e = some (.int .u8)) :
  OkR fid P M w (convert src src c) v h' := by
 unfold samePV at hv
 split at hv
 case h_2 => simp [HM.run] at hv
 rename_i r ver sz off len room c0
 by_cases hl0 : 0 < len ∧ sz = 1
 case neg => rw [if_neg hl0] at hv; simp [HM.run] at hv
 rw [if_pos hl0] at hv
 obtain ⟨b, h1, hb, hv2⟩ := HM.run_bind_some hv
 obtain ⟨rfl, hg⟩ := liveBlk_some hb
 by_cases hro : b.ro = false
 case neg => rw [if_neg hro] at hv2; simp [HM.run] at hv2
 rw [if_pos hro] at hv2
 obtain ⟨rfl, rfl⟩ := HM.run_ret_some hv2
 obtain ⟨a, cap, rfl, hver, k2, k3, k4, k5⟩ := hx.tok_inv
 obtain ⟨loc, ca, ty, lo, hi, hl, B⟩ := H.live hg
 obtain ⟨e1, e2⟩ := k5 loc hl
 rcases e2 with e2 | ⟨rfl, e2⟩
 ·omega
 have hlt := B.lt
 have hh := B.heap
 let lo' := if lo == hi then ca.size else min lo ca.size
 let hi' := if lo == hi then ca.size + 1 else max hi (ca.size + 1)
 have hw : w.freeze ⟨loc.b, ca.size, none⟩ 1 = setB w loc.b (.cells ca ty (lo', hi')) := by
  unfold World.freeze setB
  rw [if_neg (by decide)]
  congr 1
  apply Array.ext_getElem?
  intro k
  by_cases hk : k = loc.b
  ·subst hk
   rw [Array.getElem?_modify, if_pos rfl, hh, Array.getElem?_setIfInBounds_self_of_lt hlt]
   simp only [Option.map_some, lo', hi']
   by_cases hlh : lo = hi
   ·subst hlh; simp
   ·simp [hlh]
  ·rw [Array.getElem?_modify, if_neg (fun e => hk e.symm), Array.getElem?_setIfInBounds_ne (fun e => hk e.symm)]
 have hfree : ∀ k, k < ca.size → ¬ (lo' ≤ k ∧ k < hi') := by
  intro k hk
  have hf := B.free k hk
  have hle := B.lohi.1
  simp only [lo', hi']
  by_cases hlh : lo = hi
  ·subst hlh; simp; omega
  ·have h0 : ca.size ≤ lo := by
    rcases Nat.lt_or_ge lo ca.size with z | z
    ·exact absurd ⟨Nat.le_refl _, by omega⟩ (B.free lo z)
    ·exact z
   simp [hlh]; omega
 have hle' : lo' ≤ hi' := by
  simp only [lo', hi']
  have := B.lohi.1
  by_cases hlh : lo = hi
  ·subst hlh; simp
  ·simp [hlh]; omega
 have hne : ∀ r' v' loc', r' ≠ r → M.io r' v' = some loc' → loc'.b ≠ loc.b := fun r' v' loc' hr h1 e => hr (H.inj _ _ _ _ _ _ h1 hl e)
 have hrd : M.rd loc.b = none := B.rw_ hro
 refine ⟨_, setB w loc.b (.cells ca ty (lo', hi')), M, ?_, ?_, ?_, hx⟩
 ·have hc : (convert src src (.slice (some ⟨loc.b, loc.base + off * sz, none⟩) len cap)).run P w = ((markStringish ⟨loc.b, loc.base + off * sz, none⟩ >>= fun _ => (Pure.pure (.slice (some ⟨loc.b, loc.base + off * sz, none⟩) len cap) : Sem Value))).run P w := by
   simp [convert, run_und hs, run_und he]
  rw [hc, Sem.run_bind]
  have hm : (markStringish ⟨loc.b, loc.base + off * sz, none⟩).run P w = .ok () (setB w loc.b (.cells ca ty (lo', hi'))) := by
   rw [← hw]
   unfold markStringish
   simp [Go.shape, Go.freeze, Sem.run, World.shape?, hh]
  rw [hm]; rfl
 ·exact ⟨⟨.refl _, rfl, rfl, rfl, by simp [setB], fun k hk hn => setB_other (fun e => hn ⟨r, ver, loc, hl, e.symm⟩), fun k hk => .inl hk, fun k hk => .inl hk⟩, .refl _⟩
 ·refine ⟨H.cv, H.dom, H.has, H.out, fun r' e' b' loc' q1 q2 q3 => ?_, H.inj, fun b1 vs q => ?_⟩
  ·by_cases hr : r' = r
   ·subst hr
    rw [hg] at q1; cases q1
    rw [hl] at q3; cases q3
    simp only [Option.some.injEq] at q2; subst q2
    exact ⟨ca, ty, lo', hi', ⟨setB_same hlt, B.sz, B.size, hfree, ⟨hle', fun q => absurd (by rw [← B.sz]; exact e1.trans hl0.2) q, B.lohi.2.2⟩, B.fits, B.ro, B.rw_, B.cells⟩⟩
   ·obtain ⟨c', t', l', u', B'⟩ := H.blk r' e' b' loc' q1 q2 q3
    exact ⟨c', t', l', u', ⟨by rw [setB_other (hne _ _ _ hr q3)]; exact B'.heap, B'.sz, B'.size, B'.free, B'.lohi, B'.fits, B'.ro, B'.rw_, B'.cells⟩⟩
  ·obtain ⟨t1, fz, h2⟩ := H.rd b1 vs q
   exact ⟨t1, fz, by rw [setB_other (by intro e; subst e; rw [hrd] at q; cases q)]; exact h2⟩

theorem firstCells_none {es : List PV} {c : Value} (S : SliceR fid M w es c) (sz : Nat) : (∀ w', (Builtin.lenOf c).run P w' = .ok es.length w') ∧ ∀ w' : World, (Builtin.firstCells sz 0 c).run P w' = .ok #[] w' := by
 cases S with
 | none k cap hk => subst hk; exact ⟨fun w' => rfl, fun w' => by simp [Builtin.firstCells]⟩
 | empty a cap =>
  refine ⟨fun w' => rfl, fun w' => ?_⟩
  cases a with
  | none => simp [Builtin.firstCells]
  | some a => simp [Builtin.firstCells, loadCells, loadCellsFrom]
 | some ad cap sz' _ us S hne => exact ⟨fun w' => rfl, fun w' => by simp [Builtin.firstCells, loadCells, loadCellsFrom]⟩
 | str s =>
  have hsz : (⟨s.toArray⟩ : ByteArray).size = s.length := by simp [ByteArray.size]
  refine ⟨fun w' => by simp [Builtin.lenOf, hsz], fun w' => ?_⟩
  have : (⟨s.toArray⟩ : ByteArray).extract 0 0 = ⟨#[]⟩ := by
   apply ByteArray.ext
   simp [ByteArray.data_extract]
  simp only [Builtin.firstCells, this, Sem.run_pure]
  simp
theorem run_copyB {t t2 ty e : TypeId} {i : TypeInfo} (hu : P.underlying t = some (.slice e)) (hi : P.info? e = some i) {base : Option Addr} {dLen dCap m : Nat} {src : Value} (hlen : ∀ w', (Builtin.lenOf src).run P w' = .ok m w')
  {news : List Value} (hf : (Builtin.firstCells i.size (Nat.min m dLen) src).run P w = .ok news.toArray w) {w' : World} (hst : (match base with | some a => storeCells a news | none => pure () : Sem Unit).run P w = .ok () w') :
  (Builtin.copy_ #[t, t2] ty #[.slice base dLen dCap, src]).run P w = .ok (goInt (Nat.min m dLen)) w' := by
 unfold Builtin.copy_
 have e1 : (#[t, t2] : Array TypeId)[0]? = some t := rfl
 have e3 : (#[Value.slice base dLen dCap, src] : Array Value)[0]? = some (.slice base dLen dCap) := rfl
 have e4 : (#[Value.slice base dLen dCap, src] : Array Value)[1]? = some src := rfl
 simp only [e1, e3, e4]
 rw [Sem.run_bind, run_und hu]
 simp only [Result.andThen_ok]
 rw [Sem.run_bind, hlen]
 simp only [Result.andThen_ok]
 rw [Sem.run_bind, run_size hi]
 simp only [Result.andThen_ok]
 rw [Sem.run_bind, hf]
 simp only [Result.andThen_ok]
 cases base with
 | none =>
  have : w = w' := by simpa using hst
  subst this
  rfl
 | some a =>
  simp only at hst ⊢
  rw [Sem.run_bind, hst]
  rfl
theorem copy_ok {t t2 ty e : TypeId} {i : TypeInfo} {sz : Nat} (hu : P.underlying t = some (.slice e)) (hi : P.info? e = some i) (hz : i.size = sz) {x y v : PV} {cx cy : Value} {h' : Heap}
  (H : HR fid M h w) (hv : (copyHM sz x y).run h = some (v, h')) (hx : VR fid M x cx) (hy : VR fid M y cy) : OkR fid P M w (Builtin.copy_ #[t, t2] ty #[cx, cy]) v h' := by
 subst hz
 unfold copyHM at hv
 obtain ⟨vs, h1, hes, hw⟩ := HM.run_bind_some hv
 clear hv
 have hv := hw
 clear hw
 obtain ⟨rfl, SR⟩ := elems_ok hes H hy
 obtain ⟨hlen, hf0⟩ := firstCells_none (P := P) SR i.size
 have zero : ∀ {base : Option Addr} {dLen dCap : Nat}, Nat.min vs.length dLen = 0 → (Builtin.copy_ #[t, t2] ty #[.slice base dLen dCap, cy]).run P w = .ok (goInt 0) w := by
  intro base dLen dCap h0
  have := run_copyB (P := P) (w := w) (t2 := t2) (ty := ty) (base := base) (dCap := dCap) hu hi hlen (news := []) (dLen := dLen) (by rw [h0]; exact hf0 w) (w' := w) (by cases base <;> simp [storeCells])
  rw [h0] at this
  exact this
 cases x with
 | tok r ver z off len room c0 =>
  obtain ⟨a, cap, rfl, hver, k2, k3, k4, k5⟩ := hx.tok_inv
  simp only at hv
  by_cases hn : min vs.length len = 0
  ·rw [if_pos hn] at hv
   obtain ⟨rfl, rfl⟩ := HM.run_ret_some hv
   exact ⟨_, w, M, zero hn, .refl _ _, H, .fr (.int _ _)⟩
  ·rw [if_neg hn] at hv
   obtain ⟨b, h2, hb, hv3⟩ := HM.run_bind_some hv
   obtain ⟨rfl, hg⟩ := liveBlk_some hb
   split at hv3
   case isFalse => simp [HM.run] at hv3
   rename_i hc
   obtain ⟨rfl, c2, c3, c4, c5⟩ := hc
   obtain ⟨e0, he0, hv4⟩ := run_set_some hv3
   obtain ⟨rfl, rfl⟩ := HM.run_ret_some hv4
   obtain ⟨loc, ca, tb, lo, hi', hl, B⟩ := H.live hg
   obtain ⟨e1, e2⟩ := k5 loc hl
   have hnl : min vs.length len ≤ vs.length := Nat.min_le_left _ _
   have hnr : min vs.length len ≤ len := Nat.min_le_right _ _
   rcases e2 with e2 | ⟨rfl, e2⟩
   ·omega
   have hs : ∀ (k : Nat) (e : PV), vs[k]? = some e → e.cells.length = i.size := by
    intro k e' hk
    have := List.all_eq_true.1 c5 e' (List.mem_of_getElem? hk)
    simpa using this
   obtain ⟨_, news, f1, f2, f3, f4⟩ := firstCells_run (P := P) SR hs (min vs.length len) hnl
   generalize hnn : min vs.length len = n at hn hnl hnr f1 f2 f3 f4
   have hfit := B.fits
   rw [c2] at hfit
   have hbound : loc.base + off * i.size + news.length ≤ ca.size := by
    rw [f2]
    have : (off + n) * i.size ≤ b.es.length * i.size := Nat.mul_le_mul_right _ (by omega)
    rw [Nat.add_mul] at this
    omega
   have hst := run_stores (P := P) loc.b (loc.base + off * i.size) tb lo hi' news 0 ca w B.heap (by omega) B.free f3
   rw [Nat.add_zero] at hst
   have hrun := run_copyB (P := P) (w := w) (t2 := t2) (ty := ty) (base := some ⟨loc.b, loc.base + off * i.size, none⟩) (dCap := cap) hu hi hlen (dLen := len) (news := news) (by
    show (Builtin.firstCells i.size (min vs.length len) cy).run P w = _
    rw [hnn]; exact f1 w rfl) hst
   have hl' : (b.es.take off ++ vs.take n ++ b.es.drop (off + n)).length = b.es.length := by simp; omega
   obtain ⟨H', S'⟩ := H.write hg c4 (b' := ⟨i.size, b.es.take off ++ vs.take n ++ b.es.drop (off + n), false⟩) rfl hl B c2.symm (c' := splA ca (loc.base + off * i.size) news) (splA_size hbound) (by
    show loc.base + (b.es.take off ++ vs.take n ++ b.es.drop (off + n)).length * i.size ≤ _
    rw [hl']; omega) (by
    intro k e' hk
    have hk : (b.es.take off ++ vs.take n ++ b.es.drop (off + n))[k]? = some e' := hk
    show e'.cells.length = i.size ∧ ∀ (j : Nat) (x : PV), e'.cells[j]? = some x → x.isCell = true ∧ ∃ u, (splA ca (loc.base + off * i.size) news)[loc.base + k * i.size + j]? = some u ∧ VR fid M x u
    have hBc := B.cells; rw [c2] at hBc
    have old : ∀ (hk' : b.es[k]? = some e') (hout : ∀ j, j < i.size → ¬ (loc.base + off * i.size ≤ loc.base + k * i.size + j ∧ loc.base + k * i.size + j < loc.base + off * i.size + news.length)),
      e'.cells.length = i.size ∧ ∀ (j : Nat) (x : PV), e'.cells[j]? = some x → x.isCell = true ∧ ∃ u, (splA ca (loc.base + off * i.size) news)[loc.base + k * i.size + j]? = some u ∧ VR fid M x u := by
     intro hk' hout
     obtain ⟨g1, g2⟩ := hBc k e' hk'
     refine ⟨g1, fun j x hj => ⟨(g2 j x hj).1, ?_⟩⟩
     obtain ⟨u, g3, g4⟩ := (g2 j x hj).2
     refine ⟨u, ?_, g4⟩
     have hjl : j < i.size := by
      rw [← g1]
      rcases Nat.lt_or_ge j e'.cells.length with z | z
      ·exact z
      ·rw [List.getElem?_eq_none z] at hj; cases hj
     rw [splA_get hbound, if_neg (hout j hjl), g3]
    rcases Nat.lt_or_ge k off with z | z
    ·rw [List.append_assoc, List.getElem?_append_left (by simp; omega), List.getElem?_take, if_pos z] at hk
     refine old hk (fun j hj => ?_)
     have : (k + 1) * i.size ≤ off * i.size := Nat.mul_le_mul_right _ z
     rw [Nat.add_mul, Nat.one_mul] at this
     omega
    ·rcases Nat.lt_or_ge k (off + n) with z2 | z2
     ·obtain ⟨q, rfl⟩ : ∃ q, k = off + q := ⟨k - off, by omega⟩
      have hto : (b.es.take off).length = off := by rw [List.length_take]; omega
      rw [List.append_assoc, List.getElem?_append_right (by rw [hto]; omega), hto, List.getElem?_append_left (by simp; omega), List.getElem?_take, if_pos (by omega)] at hk
      rw [show off + q - off = q by omega] at hk
      refine ⟨hs q e' hk, fun j x hj => ?_⟩
      obtain ⟨g1, u, g2, g3⟩ := f4 q e' j x (by omega) hk hj
      refine ⟨g1, u, ?_, g3⟩
      have hlt : q * i.size + j < news.length := by
       rcases Nat.lt_or_ge (q * i.size + j) news.length with z | z
       ·exact z
       ·rw [List.getElem?_eq_none z] at g2; cases g2
      have hq : (off + q) * i.size = off * i.size + q * i.size := Nat.add_mul _ _ _
      rw [splA_get hbound, if_pos ⟨by omega, by omega⟩, ← g2]
      congr 1; omega
     ·have hto : (b.es.take off ++ vs.take n).length = off + n := by rw [List.length_append, List.length_take, List.length_take]; omega
      rw [List.getElem?_append_right (by rw [hto]; omega), hto, List.getElem?_drop, show off + n + (k - (off + n)) = k by omega] at hk
      refine old hk (fun j hj => ?_)
      have : (off + n) * i.size ≤ k * i.size := Nat.mul_le_mul_right _ z2
      rw [Nat.add_mul] at this
      rw [f2]
      omega)
   refine ⟨_, _, M, hrun, S', H', ?_⟩
   have : Nat.min vs.length len = n := hnn
   rw [this]
   exact .fr (.int _ _)
 | nils =>
  obtain ⟨rfl, rfl⟩ := HM.run_ret_some hv
  have := hx.nils_inv; subst this
  exact ⟨_, w, M, zero (Nat.min_eq_right (Nat.zero_le _)), .refl _ _, H, .fr (.int _ _)⟩
 | lst es c0 =>
  simp only at hv
  split at hv
  case isFalse => simp [HM.run] at hv
  rename_i hc
  obtain ⟨rfl, rfl⟩ := HM.run_ret_some hv
  obtain ⟨a, cap, rfl, _⟩ := hx.lst_inv.lst_inv
  have h0 : Nat.min vs.length es.length = 0 := by
   simp only [Bool.or_eq_true, List.isEmpty_iff] at hc
   rcases hc with rfl | rfl
   ·exact Nat.min_eq_left (Nat.zero_le _)
   ·exact Nat.min_eq_right (Nat.zero_le _)
  exact ⟨_, w, M, zero h0, .refl _ _, H, .fr (.int _ _)⟩
 | _ => simp [HM.run] at hv

theorem run_clearB {t ty e : TypeId} {i : TypeInfo} {zv : Value} (hu : P.underlying t = some (.slice e)) (hi : P.info? e = some i) (hz : i.zero = some zv) {a : Addr} {len cap : Nat} (hl : len ≠ 0) {w' : World}
  (hst : (storeCells a (Builtin.zeroCells zv.cells len).toList : Sem Unit).run P w = .ok () w') : (Builtin.clear_ #[t] ty #[.slice (some a) len cap]).run P w = .ok (.tuple #[]) w' := by
 unfold Builtin.clear_
 have e1 : (#[t] : Array TypeId)[0]? = some t := rfl
 have e2 : (#[Value.slice (some a) len cap] : Array Value)[0]? = some (.slice (some a) len cap) := rfl
 have hzr : ∀ w, (Go.zeroValue e).run P w = .ok zv w := by intro w; simp [Go.zeroValue, run_info hi, hz]
 simp only [e1, e2]
 rw [Sem.run_bind, run_und hu]
 simp only [Result.andThen_ok]
 cases len with
 | zero => exact absurd rfl hl
 | succ n =>
  rw [Sem.run_bind, hzr]
  simp only [Result.andThen_ok]
  rw [Sem.run_bind, hst]
  rfl
theorem run_clear0 {t ty e : TypeId} (hu : P.underlying t = some (.slice e)) {a : Option Addr} {len cap : Nat} (hl : len = 0 ∨ a = none) : (Builtin.clear_ #[t] ty #[.slice a len cap]).run P w = .ok (.tuple #[]) w := by
 unfold Builtin.clear_
 have e1 : (#[t] : Array TypeId)[0]? = some t := rfl
 have e2 : (#[Value.slice a len cap] : Array Value)[0]? = some (.slice a len cap) := rfl
 simp only [e1, e2]
 rw [Sem.run_bind, run_und hu]
 simp only [Result.andThen_ok]
 cases a with
 | none => rfl
 | some a =>
  rcases hl with rfl | h
  ·rfl
  ·cases h
theorem clear_ok {t ty e : TypeId} {i : TypeInfo} {zv : Value} {z : PV} (hu : P.underlying t = some (.slice e)) (hi : P.info? e = some i) (hz : i.zero = some zv) (hzz : ∀ rd, FR fid rd z zv) {x v : PV} {cx : Value} {h' : Heap}
  (H : HR fid M h w) (hv : (clearHM z x).run h = some (v, h')) (hx : VR fid M x cx) : OkR fid P M w (Builtin.clear_ #[t] ty #[cx]) v h' := by
 unfold clearHM at hv
 cases x with
 | tok r ver sz off len room c0 =>
  obtain ⟨a, cap, rfl, hver, k2, k3, k4, k5⟩ := hx.tok_inv
  simp only at hv
  by_cases hn : len = 0
  ·rw [if_pos hn] at hv
   obtain ⟨rfl, rfl⟩ := HM.run_ret_some hv
   exact ⟨_, w, M, run_clear0 hu (.inl hn), .refl _ _, H, .junk _⟩
  ·rw [if_neg hn] at hv
   obtain ⟨b, h2, hb, hv3⟩ := HM.run_bind_some hv
   obtain ⟨rfl, hg⟩ := liveBlk_some hb
   split at hv3
   case isFalse => simp [HM.run] at hv3
   rename_i hc
   obtain ⟨c1, c2, c3, c4, c5⟩ := hc
   obtain ⟨e0, he0, hv4⟩ := run_set_some hv3
   obtain ⟨rfl, rfl⟩ := HM.run_ret_some hv4
   obtain ⟨loc, ca, tb, lo, hi', hl, B⟩ := H.live hg
   obtain ⟨e1, e2⟩ := k5 loc hl
   rcases e2 with e2 | ⟨rfl, e2⟩
   ·omega
   have F0 := hzz M.rd
   have hzs : zv.cells.size = sz := by rw [← F0.cells_size]; exact c1
   have hcell : ∀ (j : Nat) (y : PV), z.cells[j]? = some y → y.isCell = true ∧ ∃ u, zv.cells[j]? = some u ∧ FR fid M.rd y u := by
    intro j y hj
    obtain ⟨u, g1, g2⟩ := F0.cells_at j y hj
    refine ⟨?_, u, g1, g2⟩
    have : ∀ (l : List PV), okCells l = true → ∀ y ∈ l, y.isCell = true := by
     intro l
     induction l with
     | nil => intro _ y hy; cases hy
     | cons q qs ih =>
      intro h y hy
      simp only [okCells, Bool.and_eq_true] at h
      rcases List.mem_cons.1 hy with rfl | hy
      ·exact h.1
      ·exact ih h.2 y hy
    exact this _ c2 y (List.mem_of_getElem? hj)
   generalize hnews : (Builtin.zeroCells zv.cells len).toList = news
   have f2 : news.length = len * sz := by rw [← hnews, Array.length_toList, size_zeroCells, hzs]
   have fat : ∀ (q j : Nat), q < len → j < sz → news[q * sz + j]? = zv.cells[j]? := by
    intro q j hq hj
    have hlt : q * sz + j < len * sz := by
     have : (q + 1) * sz ≤ len * sz := Nat.mul_le_mul_right _ hq
     rw [Nat.add_mul, Nat.one_mul] at this
     omega
    rw [← hnews, Array.getElem?_toList]
    unfold Builtin.zeroCells
    rw [hzs, Array.getElem?_map, Array.getElem?_range]
    simp only [hlt, if_true, Option.map_some]
    have hmod : (q * sz + j) % sz = j := by rw [Nat.mul_comm, Nat.mul_add_mod, Nat.mod_eq_of_lt hj]
    rw [hmod]
    have hj' : j < zv.cells.size := by omega
    rw [Array.getElem?_eq_getElem hj', getElem!_pos zv.cells j hj']
   have f3 : ∀ u ∈ news, u.oneCell' = true := by
    intro u hu
    obtain ⟨k, hk, rfl⟩ := List.mem_iff_getElem.1 hu
    have hs0 : 0 < sz := by
     rcases Nat.eq_zero_or_pos sz with h0 | h0
     ·rw [h0, Nat.mul_zero] at f2; omega
     ·exact h0
    have hk2 : k < len * sz := by omega
    have hdiv : k / sz < len := (Nat.div_lt_iff_lt_mul hs0).2 hk2
    have hkk := fat (k / sz) (k % sz) hdiv (Nat.mod_lt _ hs0)
    rw [show k / sz * sz + k % sz = k by rw [Nat.mul_comm]; exact Nat.div_add_mod k sz, List.getElem?_eq_getElem hk] at hkk
    have hjz : k % sz < z.cells.length := by rw [c1]; exact Nat.mod_lt _ hs0
    obtain ⟨g0, u, g1, g2⟩ := hcell (k % sz) _ (List.getElem?_eq_getElem hjz)
    rw [g1] at hkk
    simp only [Option.some.injEq] at hkk
    rw [hkk]
    exact (VR.fr (M := M) g2).isCell_one g0
   have hfit := B.fits
   rw [c3] at hfit
   have hbound : loc.base + off * sz + news.length ≤ ca.size := by
    rw [f2]
    have : (off + len) * sz ≤ b.es.length * sz := Nat.mul_le_mul_right _ (by omega)
    rw [Nat.add_mul] at this
    omega
   have hst := run_stores (P := P) loc.b (loc.base + off * sz) tb lo hi' news 0 ca w B.heap (by omega) B.free f3
   rw [Nat.add_zero] at hst
   have hrun := run_clearB (P := P) (w := w) (ty := ty) (cap := cap) (a := ⟨loc.b, loc.base + off * sz, none⟩) hu hi hz hn (by rw [hnews]; exact hst)
   have hl' : (b.es.take off ++ List.replicate len z ++ b.es.drop (off + len)).length = b.es.length := by simp; omega
   obtain ⟨H', S'⟩ := H.write hg c5 (b' := ⟨sz, b.es.take off ++ List.replicate len z ++ b.es.drop (off + len), false⟩) rfl hl B c3.symm (c' := splA ca (loc.base + off * sz) news) (splA_size hbound) (by
    show loc.base + (b.es.take off ++ List.replicate len z ++ b.es.drop (off + len)).length * sz ≤ _
    rw [hl']; omega) (by
    intro k e' hk
    have hk : (b.es.take off ++ List.replicate len z ++ b.es.drop (off + len))[k]? = some e' := hk
    show e'.cells.length = sz ∧ ∀ (j : Nat) (x : PV), e'.cells[j]? = some x → x.isCell = true ∧ ∃ u, (splA ca (loc.base + off * sz) news)[loc.base + k * sz + j]? = some u ∧ VR fid M x u
    have hBc := B.cells; rw [c3] at hBc
    have old : ∀ (hk' : b.es[k]? = some e') (hout : ∀ j, j < sz → ¬ (loc.base + off * sz ≤ loc.base + k * sz + j ∧ loc.base + k * sz + j < loc.base + off * sz + news.length)),
      e'.cells.length = sz ∧ ∀ (j : Nat) (x : PV), e'.cells[j]? = some x → x.isCell = true ∧ ∃ u, (splA ca (loc.base + off * sz) news)[loc.base + k * sz + j]? = some u ∧ VR fid M x u := by
     intro hk' hout
     obtain ⟨g1, g2⟩ := hBc k e' hk'
     refine ⟨g1, fun j x hj => ⟨(g2 j x hj).1, ?_⟩⟩
     obtain ⟨u, g3, g4⟩ := (g2 j x hj).2
     refine ⟨u, ?_, g4⟩
     have hjl : j < sz := by
      rw [← g1]
      rcases Nat.lt_or_ge j e'.cells.length with z | z
      ·exact z
      ·rw [List.getElem?_eq_none z] at hj; cases hj
     rw [splA_get hbound, if_neg (hout j hjl), g3]
    rcases Nat.lt_or_ge k off with y | y
    ·rw [List.append_assoc, List.getElem?_append_left (by simp; omega), List.getElem?_take, if_pos y] at hk
     refine old hk (fun j hj => ?_)
     have : (k + 1) * sz ≤ off * sz := Nat.mul_le_mul_right _ y
     rw [Nat.add_mul, Nat.one_mul] at this
     omega
    ·rcases Nat.lt_or_ge k (off + len) with y2 | y2
     ·obtain ⟨q, rfl⟩ : ∃ q, k = off + q := ⟨k - off, by omega⟩
      have hto : (b.es.take off).length = off := by rw [List.length_take]; omega
      rw [List.append_assoc, List.getElem?_append_right (by rw [hto]; omega), hto, List.getElem?_append_left (by simp; omega), List.getElem?_replicate, if_pos (by omega)] at hk
      simp only [Option.some.injEq] at hk
      subst hk
      refine ⟨c1, fun j x hj => ?_⟩
      obtain ⟨g0, u, g1, g2⟩ := hcell j x hj
      refine ⟨g0, u, ?_, .fr g2⟩
      have hjl : j < sz := by
       rw [← c1]
       rcases Nat.lt_or_ge j z.cells.length with y | y
       ·exact y
       ·rw [List.getElem?_eq_none y] at hj; cases hj
      have hq : (off + q) * sz = off * sz + q * sz := Nat.add_mul _ _ _
      have hfa := fat q j (by omega) hjl
      rw [g1] at hfa
      have hlt : q * sz + j < news.length := by
       rcases Nat.lt_or_ge (q * sz + j) news.length with y | y
       ·exact y
       ·rw [List.getElem?_eq_none y] at hfa; cases hfa
      rw [splA_get hbound, if_pos ⟨by omega, by omega⟩, ← hfa]
      congr 1; omega
     ·have hto : (b.es.take off ++ List.replicate len z).length = off + len := by rw [List.length_append, List.length_take, List.length_replicate]; omega
      rw [List.getElem?_append_right (by rw [hto]; omega), hto, List.getElem?_drop, show off + len + (k - (off + len)) = k by omega] at hk
      refine old hk (fun j hj => ?_)
      have : (off + len) * sz ≤ k * sz := Nat.mul_le_mul_right _ y2
      rw [Nat.add_mul] at this
      rw [f2]
      omega)
   exact ⟨_, _, M, hrun, S', H', .junk _⟩
 | nils =>
  obtain ⟨rfl, rfl⟩ := HM.run_ret_some hv
  have := hx.nils_inv; subst this
  exact ⟨_, w, M, run_clear0 hu (.inl rfl), .refl _ _, H, .junk _⟩
 | lst es c0 =>
  simp only at hv
  split at hv
  case isFalse => simp [HM.run] at hv
  rename_i hc
  obtain ⟨rfl, rfl⟩ := HM.run_ret_some hv
  obtain ⟨a, cap, rfl, _⟩ := hx.lst_inv.lst_inv
  have h0 : es.length = 0 := by simpa using hc
  exact ⟨_, w, M, run_clear0 hu (.inl h0), .refl _ _, H, .junk _⟩
 | _ => simp [HM.run] at hv
end
end Gv

namespace Gv
open Go

theorem renL_map (f : Ref → Nat → Option (Ref × Nat)) : ∀ cs : List PV, renL f cs = cs.map (ren f)
 | [] => rfl
 | x :: xs => by simp [renL, renL_map f xs]
theorem ren_cells (f : Ref → Nat → Option (Ref × Nat)) (v : PV) : (ren f v).cells = v.cells.map (ren f) := by
 cases v with
 | agg cs => simp [ren, PV.cells, renL_map]
 | tok r ver sz off len room c0 => cases h : f r ver <;> simp [ren, PV.cells, h]
 | ptr r ver i o => cases h : f r ver <;> simp [ren, PV.cells, h]
 | _ => simp [ren, PV.cells]
theorem ren_isCell (f : Ref → Nat → Option (Ref × Nat)) (v : PV) : (ren f v).isCell = v.isCell := by
 cases v with
 | tok r ver sz off len room c0 => cases h : f r ver <;> simp [ren, PV.isCell, h]
 | ptr r ver i o => cases h : f r ver <;> simp [ren, PV.isCell, h]
 | _ => simp [ren, PV.isCell]
theorem map_eq_self {α : Type} {f : α → α} : ∀ {l : List α}, (∀ (i : Nat) (x : α), l[i]? = some x → f x = x) → l.map f = l
 | [], _ => rfl
 | x :: xs, h => by rw [List.map_cons, h 0 x rfl, map_eq_self (fun i y hy => h (i + 1) y hy)]
theorem getElem?_lt {α : Type} {l : List α} {i : Nat} {x : α} (h : l[i]? = some x) : i < l.length := by
 rcases Nat.lt_or_ge i l.length with z | z
 ·exact z
 ·rw [List.getElem?_eq_none z] at h; cases h

section
variable {fid : Nat → FuncId} {P : Program} {M : Mp} {w : World} {h : Heap}

theorem FR.ren {rd : RD} (f : Ref → Nat → Option (Ref × Nat)) {v : PV} {c : Value} (x : FR fid rd v c) : ren f v = v := by
 induction x with
 | agg cs vs h1 h2 ih =>
  simp only [Gv.ren, renL_map]
  rw [map_eq_self]
  intro i y hy
  have : i < vs.size := by rw [← h1]; exact getElem?_lt hy
  exact ih i y vs[i] hy (Array.getElem?_eq_getElem this)
 | tup cs vs h1 h2 ih =>
  simp only [Gv.ren, renL_map]
  rw [map_eq_self]
  intro i y hy
  have : i < vs.size := by rw [← h1]; exact getElem?_lt hy
  exact ih i y vs[i] hy (Array.getElem?_eq_getElem this)
 | fn f => simp [Gv.ren, renL]
 | _ => simp [Gv.ren]

structure RenOk (M M2 : Mp) (f : Ref → Nat → Option (Ref × Nat)) : Prop where
 rd : RdLe M.rd M2.rd
 some : ∀ r v r' v', v ≤ M.cv r → f r v = some (r', v') → v' ≤ M2.cv r' ∧ ∀ loc, M2.io r' v' = some loc → M.io r v = some loc
 dead : M2.io .dead 0 = none
theorem VR.ren {M2 : Mp} {f : Ref → Nat → Option (Ref × Nat)} (R : RenOk M M2 f) {v : PV} {c : Value} (x : VR fid M v c) : VR fid M2 (ren f v) c := by
 induction x with
 | fr h => rw [h.ren]; exact .fr (h.mono fid R.rd)
 | junk c => exact .junk c
 | tok r ver sz off len room c0 a cap hv h2 h3 h4 h5 =>
  simp only [Gv.ren]
  cases hf : f r ver with
  | none => exact .tok _ _ _ _ _ _ _ _ _ (Nat.zero_le _) h2 h3 h4 (fun loc hl => by rw [R.dead] at hl; cases hl)
  | some p =>
   obtain ⟨g1, g2⟩ := R.some r ver p.1 p.2 hv hf
   exact .tok _ _ _ _ _ _ _ _ _ g1 h2 h3 h4 (fun loc hl => h5 loc (g2 loc hl))
 | ptr r ver i o a hv h =>
  simp only [Gv.ren]
  cases hf : f r ver with
  | none => exact .ptr _ _ _ _ _ (Nat.zero_le _) (fun loc hl => by rw [R.dead] at hl; cases hl)
  | some p =>
   obtain ⟨g1, g2⟩ := R.some r ver p.1 p.2 hv hf
   exact .ptr _ _ _ _ _ g1 (fun loc hl => h loc (g2 loc hl))
 | agg cs vs h1 h2 ih =>
  simp only [Gv.ren, renL_map]
  refine .agg _ _ (by simpa using h1) (fun i e u hi hu => ?_)
  rw [List.getElem?_map] at hi
  cases hc : cs[i]? with
  | none => rw [hc] at hi; cases hi
  | some y => rw [hc] at hi; simp only [Option.map_some, Option.some.injEq] at hi; subst hi; exact ih i y u hc hu
 | tup cs vs h1 h2 ih =>
  simp only [Gv.ren, renL_map]
  refine .tup _ _ (by simpa using h1) (fun i e u hi hu => ?_)
  rw [List.getElem?_map] at hi
  cases hc : cs[i]? with
  | none => rw [hc] at hi; cases hi
  | some y => rw [hc] at hi; simp only [Option.map_some, Option.some.injEq] at hi; subst hi; exact ih i y u hc hu
 | fn g cs vs h1 h2 ih =>
  simp only [Gv.ren, renL_map]
  refine .fn _ _ _ (by simpa using h1) (fun i e u hi hu => ?_)
  rw [List.getElem?_map] at hi
  cases hc : cs[i]? with
  | none => rw [hc] at hi; cases hi
  | some y => rw [hc] at hi; simp only [Option.map_some, Option.some.injEq] at hi; subst hi; exact ih i y u hc hu

theorem CellsAt.ren {M2 : Mp} {f : Ref → Nat → Option (Ref × Nat)} (R : RenOk M M2 f) {c : Array Value} {base sz : Nat} {es : List PV} (x : CellsAt fid M c base sz es) : CellsAt fid M2 c base sz (renL f es) := by
 intro i e hi
 rw [renL_map, List.getElem?_map] at hi
 cases hc : es[i]? with
 | none => rw [hc] at hi; cases hi
 | some y =>
  rw [hc] at hi; simp only [Option.map_some, Option.some.injEq] at hi; subst hi
  obtain ⟨h1, h2⟩ := x i y hc
  refine ⟨by rw [ren_cells, List.length_map]; exact h1, fun j z hj => ?_⟩
  rw [ren_cells, List.getElem?_map] at hj
  cases hd : y.cells[j]? with
  | none => rw [hd] at hj; cases hj
  | some t =>
   rw [hd] at hj; simp only [Option.map_some, Option.some.injEq] at hj; subst hj
   obtain ⟨h3, u, h4, h5⟩ := h2 j t hd
   exact ⟨by rw [ren_isCell]; exact h3, u, h4, h5.ren R⟩
theorem BlkAt.ren {M2 : Mp} {f : Ref → Nat → Option (Ref × Nat)} (R : RenOk M M2 f) {loc : Loc} {b : Blk} {c : Array Value} {t lo hi : Nat} (B : BlkAt fid M w loc b c t lo hi)
  (hn : b.ro = false → M2.rd loc.b = none) : BlkAt fid M2 w loc (b.ren f) c t lo hi :=
 ⟨B.heap, B.sz, B.size, B.free, B.lohi, by show loc.base + (renL f b.es).length * b.sz ≤ _; rw [renL_map, List.length_map]; exact B.fits, fun q => R.rd _ _ (B.ro q), hn, B.cells.ren R⟩

theorem VR.frozen : ∀ {v : PV} {c : Value}, frozenV v = true → VR fid M v c → FR fid M.rd v c := by
 intro v c hf x
 induction x with
 | fr h => exact h
 | junk c => simp [frozenV] at hf
 | tok => simp [frozenV] at hf
 | ptr => simp [frozenV] at hf
 | agg cs vs h1 h2 ih =>
  have hall : ∀ (cs : List PV), frozenL cs = true → ∀ (i : Nat) (e : PV), cs[i]? = some e → frozenV e = true := by
   intro cs
   induction cs with
   | nil => intro _ i e hi; simp at hi
   | cons x xs ih => intro h i e hi; simp only [frozenL, Bool.and_eq_true] at h; cases i with
    | zero => simp at hi; subst hi; exact h.1
    | succ i => exact ih h.2 i e hi
  exact .agg cs vs h1 (fun i e u a b => ih i e u a b (hall cs hf i e a))
 | tup cs vs h1 h2 ih =>
  have hall : ∀ (cs : List PV), frozenL cs = true → ∀ (i : Nat) (e : PV), cs[i]? = some e → frozenV e = true := by
   intro cs
   induction cs with
   | nil => intro _ i e hi; simp at hi
   | cons x xs ih => intro h i e hi; simp only [frozenL, Bool.and_eq_true] at h; cases i with
    | zero => simp at hi; subst hi; exact h.1
    | succ i => exact ih h.2 i e hi
  exact .tup cs vs h1 (fun i e u a b => ih i e u a b (hall cs hf i e a))
 | fn g cs vs h1 h2 ih =>
  simp only [frozenV, List.isEmpty_iff] at hf
  subst hf
  have : vs = #[] := by simpa using h1.symm
  subst this
  exact .fn g
theorem frozenL_get : ∀ {cs : List PV}, frozenL cs = true → ∀ (i : Nat) (e : PV), cs[i]? = some e → frozenV e = true
 | x :: xs, h, 0, e, hi => by simp only [frozenL, Bool.and_eq_true] at h; simp at hi; subst hi; exact h.1
 | x :: xs, h, i + 1, e, hi => by simp only [frozenL, Bool.and_eq_true] at h; exact frozenL_get h.2 i e hi
 | [], _, i, e, hi => by simp at hi

def Live (h : Heap) (l : List (Ref × Nat × Blk)) : Prop := ∀ x ∈ l, h.get x.1 = some ⟨x.2.1, some x.2.2⟩
def Kept (M : Mp) (w : World) (rd : RD) (l : List (Ref × Nat × Blk)) : Prop :=
 ∀ x ∈ l, ∀ loc ca t fz, M.io x.1 x.2.1 = some loc → w.heap[loc.b]? = some (.cells ca t fz) → rd loc.b = some ca

theorem mapR_ok {n : Nat} (ih : ∀ {h h' : Heap} {v : PV} {r : PV × List (Ref × Nat × Blk)} {c : Value}, (freezeR n v).run h = some (r, h') → HR fid M h w → VR fid M v c →
   h' = h ∧ Live h r.2 ∧ ∀ M', M.le M' → Kept M w M'.rd r.2 → VR fid M' r.1 c) :
  ∀ {es : List PV} {r : List PV × List (Ref × Nat × Blk)} {h h' : Heap} {cs : Nat → Value}, (mapR (freezeR n) es).run h = some (r, h') → HR fid M h w → (∀ i e, es[i]? = some e → VR fid M e (cs i)) →
   h' = h ∧ Live h r.2 ∧ r.1.length = es.length ∧ ∀ M', M.le M' → Kept M w M'.rd r.2 → ∀ (i : Nat) (e : PV), r.1[i]? = some e → VR fid M' e (cs i)
 | [], r, h, h', cs, hv, H, _ => by
  obtain ⟨rfl, rfl⟩ := HM.run_ret_some hv
  exact ⟨rfl, fun x hx => by simp at hx, rfl, fun M' _ _ i e hi => by simp at hi⟩
 | e :: es, r, h, h', cs, hv, H, hr => by
  obtain ⟨y, h1, hy, hv2⟩ := HM.run_bind_some hv
  obtain ⟨ys, h2, hys, hv3⟩ := HM.run_bind_some hv2
  obtain ⟨rfl, rfl⟩ := HM.run_ret_some hv3
  obtain ⟨rfl, L1, F1⟩ := ih hy H (hr 0 e rfl)
  obtain ⟨rfl, L2, N2, F2⟩ := mapR_ok ih (cs := fun i => cs (i + 1)) hys H (fun i e' hi => hr (i + 1) e' hi)
  refine ⟨rfl, fun x hx => ?_, by simp [N2], fun M' le hk i e' hi => ?_⟩
  ·rcases List.mem_append.1 hx with z | z
   ·exact L1 x z
   ·exact L2 x z
  ·cases i with
   | zero =>
    simp only [List.getElem?_cons_zero, Option.some.injEq] at hi; subst hi
    exact F1 M' le (fun x hx => hk x (List.mem_append_left _ hx))
   | succ i =>
    simp only [List.getElem?_cons_succ] at hi
    exact F2 M' le (fun x hx => hk x (List.mem_append_right _ hx)) i e' hi

theorem freezeR_ok : ∀ (n : Nat) {h h' : Heap} {v : PV} {r : PV × List (Ref × Nat × Blk)} {c : Value}, (freezeR n v).run h = some (r, h') → HR fid M h w → VR fid M v c →
   h' = h ∧ Live h r.2 ∧ ∀ M', M.le M' → Kept M w M'.rd r.2 → VR fid M' r.1 c
 | 0, h, h', v, r, c, hv, H, hx => by simp [freezeR, HM.run] at hv
 | n + 1, h, h', v, r, c, hv, H, hx => by
  unfold freezeR at hv
  cases v with
  | tok q ver sz off len room c0 =>
   simp only at hv
   obtain ⟨a, cap, rfl, hver, k2, k3, k4, k5⟩ := hx.tok_inv
   by_cases hl0 : len = 0
   ·rw [if_pos hl0] at hv
    obtain ⟨rfl, rfl⟩ := HM.run_ret_some hv
    subst hl0
    exact ⟨rfl, fun x hx => by simp at hx, fun M' _ _ => .fr (.lst [] c0 a cap 0 (fun _ _ => undef) (by simp) k4 (by simp) (by simp) (by simp))⟩
   rw [if_neg hl0] at hv
   obtain ⟨b, h1, hb, hv2⟩ := HM.run_bind_some hv
   obtain ⟨rfl, hg⟩ := liveBlk_some hb
   by_cases hc : off + len ≤ b.es.length ∧ b.sz = sz
   case neg => rw [if_neg hc] at hv2; simp [HM.run] at hv2
   rw [if_pos hc] at hv2
   obtain ⟨es', h2, hes', hv3⟩ := HM.run_bind_some hv2
   by_cases hfz : frozenL es'.1 = true
   case neg => rw [if_neg hfz] at hv3; simp [HM.run] at hv3
   rw [if_pos hfz] at hv3
   obtain ⟨rfl, rfl⟩ := HM.run_ret_some hv3
   obtain ⟨loc, ca, ty, lo, hi, hl, B⟩ := H.live hg
   obtain ⟨e1, e2⟩ := k5 loc hl
   have hlen : ((b.es.drop off).take len).length = len := by simp; omega
   rcases e2 with e2 | ⟨rfl, e2⟩
   ·omega
   have hget : ∀ (i : Nat) (e : PV), ((b.es.drop off).take len)[i]? = some e → b.es[off + i]? = some e := by
    intro i e hi
    rw [List.getElem?_take] at hi
    split at hi
    ·rw [List.getElem?_drop] at hi; exact hi
    ·cases hi
   have hat : ∀ (i : Nat) (e : PV) (j : Nat) (x : PV), ((b.es.drop off).take len)[i]? = some e → e.cells[j]? = some x →
     x.isCell = true ∧ ca[loc.base + (off + i) * sz + j]? = some (ca.getD (loc.base + (off + i) * sz + j) undef) ∧ VR fid M x (ca.getD (loc.base + (off + i) * sz + j) undef) := by
    intro i e j x hi hj
    obtain ⟨q1, u, q2, q3⟩ := (B.cells _ _ (hget i e hi)).2 j x hj
    rw [hc.2] at q2
    exact ⟨q1, by simp [q2], by simpa [q2] using q3⟩
   obtain ⟨rfl, L1, N1, F1⟩ := mapR_ok (fun a b c => freezeR_ok n a b c) (cs := fun i => eltV (((b.es.drop off).take len).getD i .junk) (fun j => ca.getD (loc.base + (off + i) * sz + j) undef)) hes' H (fun i e hi => by
    have hd : ((b.es.drop off).take len).getD i .junk = e := by simp [List.getD, hi]
    rw [hd]
    exact eltV_ok (fun j x hj => (hat i e j x hi hj).2.2))
   refine ⟨rfl, fun x hx => ?_, fun M' le hk => ?_⟩
   ·rcases List.mem_cons.1 hx with rfl | z
    ·exact hg
    ·exact L1 x z
   ·have R2 : M'.rd loc.b = some ca := hk _ (List.mem_cons_self ..) loc ca ty (lo, hi) hl B.heap
    have key : FR fid M'.rd (.lst es'.1 c0) (.slice (some ⟨loc.b, loc.base + off * sz, none⟩) es'.1.length cap) := by
     have F2 := F1 M' le (fun x hx => hk x (List.mem_cons_of_mem _ hx))
     refine .lst es'.1 c0 _ cap sz (fun i j => ca.getD (loc.base + (off + i) * sz + j) undef) (by rw [N1, hlen]; omega) k4 ?_ ?_ ?_
     all_goals
      intro i e'
      try intro j x
      intro hi
      have hilt : i < ((b.es.drop off).take len).length := by rw [← N1]; exact getElem?_lt hi
      have he : ((b.es.drop off).take len)[i]? = some ((b.es.drop off).take len)[i] := List.getElem?_eq_getElem hilt
      have hF := (F2 i e' hi).frozen (frozenL_get hfz i e' hi)
      have hd : ((b.es.drop off).take len).getD i .junk = ((b.es.drop off).take len)[i] := by simp [List.getD, he]
      rw [hd] at hF
      have hone : (∀ cs, ((b.es.drop off).take len)[i] ≠ .agg cs) → (ca.getD (loc.base + (off + i) * sz + 0) undef).oneCell' = true := by
       intro hna
       have hcl : ((b.es.drop off).take len)[i].cells = [((b.es.drop off).take len)[i]] := by
        cases hh : ((b.es.drop off).take len)[i] <;> first | rfl | exact absurd hh (hna _)
       have h00 := hat i _ 0 ((b.es.drop off).take len)[i] he (by rw [hcl]; rfl)
       exact h00.2.2.isCell_one h00.1
      have hsize := eltV_size (e := ((b.es.drop off).take len)[i]) (u := fun j => ca.getD (loc.base + (off + i) * sz + j) undef) hone
      have hlcells : ((b.es.drop off).take len)[i].cells.length = sz := by rw [(B.cells _ _ (hget i _ he)).1, hc.2]
     ·rw [hF.cells_size, hsize, hlcells]
     ·intro hj
      obtain ⟨u, h5, h6⟩ := hF.cells_at j x hj
      have hjlt : j < ((b.es.drop off).take len)[i].cells.length := by rw [← hsize, ← hF.cells_size]; exact getElem?_lt hj
      rw [eltV_cells j hjlt hone] at h5
      simp only [Option.some.injEq] at h5
      obtain ⟨g1, g2, g3⟩ := hat i _ j _ he (List.getElem?_eq_getElem hjlt)
      refine ⟨h6.isCell (by rw [← h5]; exact g3.isCell_one g1), rfl, ca, R2, ?_⟩
      rw [← g2]; show ca[loc.base + off * sz + (i * sz + j)]? = _
      congr 1; rw [Nat.add_mul]; omega
     ·intro hj
      obtain ⟨u, h5, h6⟩ := hF.cells_at j x hj
      have hjlt : j < ((b.es.drop off).take len)[i].cells.length := by rw [← hsize, ← hF.cells_size]; exact getElem?_lt hj
      rw [eltV_cells j hjlt hone] at h5
      simp only [Option.some.injEq] at h5
      rw [h5]
      exact h6
    rw [N1, hlen] at key
    exact .fr key
  | agg cs =>
   simp only at hv
   obtain ⟨cs', h2, hm, hv2⟩ := HM.run_bind_some hv
   obtain ⟨rfl, rfl⟩ := HM.run_ret_some hv2
   obtain ⟨vs, rfl, g1, g2⟩ := hx.agg_inv
   obtain ⟨rfl, L1, N1, F1⟩ := mapR_ok (fun a b c => freezeR_ok n a b c) (cs := fun i => vs.getD i undef) hm H (fun i e hi => by
    have hlt : i < vs.size := by rw [← g1]; exact getElem?_lt hi
    have := g2 i e vs[i] hi (Array.getElem?_eq_getElem hlt)
    simpa [hlt] using this)
   refine ⟨rfl, L1, fun M' le hk => .agg _ _ (by rw [N1]; exact g1) (fun i e u hi hu => ?_)⟩
   have := F1 M' le hk i e hi
   simpa [hu] using this
  | _ =>
   simp only at hv
   obtain ⟨rfl, rfl⟩ := HM.run_ret_some hv
   exact ⟨rfl, fun x hx => by simp at hx, fun M' le _ => hx.mono le⟩

theorem roArgs_ok : ∀ {ro : List Bool} {vs : List PV} {r : List PV × List (Ref × Nat × Blk)} {h h' : Heap} {cs : Nat → Value}, (roArgs ro vs).run h = some (r, h') → HR fid M h w → (∀ i e, vs[i]? = some e → VR fid M e (cs i)) →
   h' = h ∧ Live h r.2 ∧ r.1.length = vs.length ∧ ∀ M', M.le M' → Kept M w M'.rd r.2 → ∀ (i : Nat) (e : PV), r.1[i]? = some e → VR fid M' e (cs i)
 | [], vs, r, h, h', cs, hv, H, hr => by
  unfold roArgs at hv
  obtain ⟨rfl, rfl⟩ := HM.run_ret_some hv
  exact ⟨rfl, fun x hx => by simp at hx, rfl, fun M' le _ i e hi => (hr i e hi).mono le⟩
 | b :: bs, [], r, h, h', cs, hv, H, hr => by
  have : roArgs (b :: bs) [] = .ret ([], []) := by cases b <;> rfl
  rw [this] at hv
  obtain ⟨rfl, rfl⟩ := HM.run_ret_some hv
  exact ⟨rfl, fun x hx => by simp at hx, rfl, fun M' le _ i e hi => (hr i e hi).mono le⟩
 | true :: bs, v :: vs, r, h, h', cs, hv, H, hr => by
  simp only [roArgs] at hv
  obtain ⟨y, h1, hy, hv2⟩ := HM.run_bind_some hv
  obtain ⟨ys, h2, hys, hv3⟩ := HM.run_bind_some hv2
  obtain ⟨rfl, rfl⟩ := HM.run_ret_some hv3
  obtain ⟨rfl, L1, F1⟩ := freezeR_ok 9 hy H (hr 0 v rfl)
  obtain ⟨rfl, L2, N2, F2⟩ := roArgs_ok (cs := fun i => cs (i + 1)) hys H (fun i e' hi => hr (i + 1) e' hi)
  refine ⟨rfl, fun x hx => ?_, by simp [N2], fun M' le hk i e' hi => ?_⟩
  ·rcases List.mem_append.1 hx with z | z
   ·exact L1 x z
   ·exact L2 x z
  ·cases i with
   | zero =>
    simp only [List.getElem?_cons_zero, Option.some.injEq] at hi; subst hi
    exact F1 M' le (fun x hx => hk x (List.mem_append_left _ hx))
   | succ i =>
    simp only [List.getElem?_cons_succ] at hi
    exact F2 M' le (fun x hx => hk x (List.mem_append_right _ hx)) i e' hi
 | false :: bs, v :: vs, r, h, h', cs, hv, H, hr => by
  simp only [roArgs] at hv
  obtain ⟨ys, h2, hys, hv3⟩ := HM.run_bind_some hv
  obtain ⟨rfl, rfl⟩ := HM.run_ret_some hv3
  obtain ⟨rfl, L2, N2, F2⟩ := roArgs_ok (cs := fun i => cs (i + 1)) hys H (fun i e' hi => hr (i + 1) e' hi)
  refine ⟨rfl, L2, by simp [N2], fun M' le hk i e' hi => ?_⟩
  cases i with
  | zero =>
   simp only [List.getElem?_cons_zero, Option.some.injEq] at hi; subst hi
   exact (hr 0 _ rfl).mono le
  | succ i =>
   simp only [List.getElem?_cons_succ] at hi
   exact F2 M' le hk i e' hi

theorem collect_ok : ∀ (n : Nat) {todo : List (Ref × Nat)} {acc bor : List (Ref × Nat × Blk)} {h h' : Heap}, (collect n todo acc).run h = some (bor, h') → Live h acc → acc.Pairwise (fun x y => x.1 ≠ y.1) →
  h' = h ∧ Live h bor ∧ bor.Pairwise (fun x y => x.1 ≠ y.1)
 | 0, todo, acc, bor, h, h', hv, _, _ => by simp [collect, HM.run] at hv
 | n + 1, [], acc, bor, h, h', hv, hL, hP => by
  simp only [collect] at hv
  obtain ⟨rfl, rfl⟩ := HM.run_ret_some hv
  exact ⟨rfl, hL, hP⟩
 | n + 1, (r, v) :: rest, acc, bor, h, h', hv, hL, hP => by
  simp only [collect] at hv
  split at hv
  ·exact collect_ok n hv hL hP
  rename_i hany
  split at hv
  ·exact collect_ok n hv hL hP
  simp only [HM.run] at hv
  cases hg : h.get r with
  | none => rw [hg] at hv; cases hv
  | some e =>
   rw [hg] at hv
   simp only at hv
   cases hb : e.blk with
   | none => rw [hb] at hv; exact collect_ok n hv hL hP
   | some b =>
    rw [hb] at hv
    simp only at hv
    split at hv
    ·rename_i hev
     have hg' : h.get r = some ⟨v, some b⟩ := by rw [hg, ← hev, ← hb]
     refine collect_ok n hv (fun x hx => ?_) ?_
     ·rcases List.mem_append.1 hx with z | z
      ·exact hL x z
      ·simp only [List.mem_singleton] at z; subst z; exact hg'
     ·rw [List.pairwise_append]
      refine ⟨hP, List.pairwise_singleton .., fun x hx y hy => ?_⟩
      simp only [List.mem_singleton] at hy; subst hy
      intro he
      apply hany
      rw [List.any_eq_true]
      refine ⟨x, hx, ?_⟩
      have h1 := hL x hx
      simp only at he
      rw [he, hg'] at h1
      simp only [Option.some.injEq, Ent.mk.injEq] at h1
      simp [he, h1.1]
    ·exact collect_ok n hv hL hP
theorem idxOf_some {r : Ref} {v : Nat} : ∀ {l : List (Ref × Nat × Blk)} {k j : Nat}, idxOf r v l k = some j → ∃ i b, j = k + i ∧ l[i]? = some (r, v, b)
 | [], k, j, h => by simp [idxOf] at h
 | (r', v', b) :: rest, k, j, h => by
  simp only [idxOf] at h
  split at h
  ·rename_i hc
   obtain ⟨rfl, rfl⟩ := hc
   simp only [Option.some.injEq] at h
   exact ⟨0, b, by omega, rfl⟩
  ·obtain ⟨i, b', h1, h2⟩ := idxOf_some h
   exact ⟨i + 1, b', by omega, h2⟩
theorem idxOf_ex {r : Ref} {v : Nat} {b : Blk} : ∀ {l : List (Ref × Nat × Blk)} {k i : Nat}, l[i]? = some (r, v, b) → idxOf r v l k ≠ none
 | [], k, i, h => by simp at h
 | (r', v', b') :: rest, k, i, h => by
  simp only [idxOf]
  split
  ·simp
  ·rename_i hc
   cases i with
   | zero => simp only [List.getElem?_cons_zero, Option.some.injEq, Prod.mk.injEq] at h; exact absurd ⟨h.1, h.2.1⟩ hc
   | succ i => exact idxOf_ex (by simpa using h)
theorem pairwise_ref {l : List (Ref × Nat × Blk)} (hP : l.Pairwise (fun x y => x.1 ≠ y.1)) {i j : Nat} {x y : Ref × Nat × Blk} (hi : l[i]? = some x) (hj : l[j]? = some y) (he : x.1 = y.1) : i = j := by
 have li := getElem?_lt hi
 have lj := getElem?_lt hj
 rw [List.getElem?_eq_getElem li] at hi
 rw [List.getElem?_eq_getElem lj] at hj
 simp only [Option.some.injEq] at hi hj
 rw [List.pairwise_iff_getElem] at hP
 rcases Nat.lt_trichotomy i j with z | z | z
 ·exact absurd (by rw [hi, hj]; exact he) (hP i j li lj z)
 ·exact z
 ·exact absurd (by rw [hi, hj]; exact he.symm) (hP j i lj li z)
end
end Gv

namespace Gv
open Go

section
variable {fid : Nat → FuncId} {P : Program} {M : Mp} {w : World} {h : Heap}

theorem HR.setro {r : Ref} {ver : Nat} {b : Blk} (H : HR fid M h w) (hg : h.get r = some ⟨ver, some b⟩) {loc : Loc} {c : Array Value} {t lo hi : Nat} (hl : M.io r ver = some loc)
  (B : BlkAt fid M w loc b c t lo hi) :
  let M' : Mp := ⟨fun x => if x = loc.b then some c else M.rd x, M.io, M.cv⟩
  HR fid M' (h.put r ⟨ver, some ⟨b.sz, b.es, true⟩⟩) w ∧ Stp M w M' w := by
 intro M'
 have hne : ∀ r' v' loc', r' ≠ r → M.io r' v' = some loc' → loc'.b ≠ loc.b := fun r' v' loc' hr h1 e => hr (H.inj _ _ _ _ _ _ h1 hl e)
 have hrd : RdLe M.rd M'.rd := by
  intro x vs hx
  show (if x = loc.b then some c else M.rd x) = some vs
  by_cases hxb : x = loc.b
  ·subst hxb
   rw [if_pos rfl]
   cases hro : b.ro with
   | true => rw [B.ro hro] at hx; exact hx
   | false => rw [B.rw_ hro] at hx; cases hx
  ·rw [if_neg hxb]; exact hx
 have le : M.le M' := ⟨hrd, fun _ => Nat.le_refl _, fun _ _ _ => .inl rfl⟩
 have hcv : M.cv r = ver := H.cv _ _ hg
 refine ⟨H.upd hg (by intro i hi; subst hi; have := Heap.ver_a hg; exact this) le (fun _ _ => rfl) (fun _ _ => rfl) hcv (fun v hv => ⟨(H.dom _ _ _ hg hv).1, by simp⟩)
  (fun _ => by show M.io r ver ≠ none; rw [hl]; simp) ?_ (fun v l r' v' l' hr h1 h2 e => hr (H.inj _ _ _ _ _ _ h2 h1 e.symm)) ?_ ?_, ?_⟩
 ·intro b1 loc1 h1 h2
  simp only [Option.some.injEq] at h1; subst h1
  have h2' : M.io r ver = some loc1 := h2
  rw [hl] at h2'; cases h2'
  exact ⟨c, t, lo, hi, ⟨B.heap, B.sz, B.size, B.free, B.lohi, B.fits, fun _ => by show (if loc.b = loc.b then _ else _) = _; rw [if_pos rfl], fun q => (by cases q), B.cells.mono le⟩⟩
 ·intro r' v' loc' hr h1
  refine ⟨rfl, ?_⟩
  show (if loc'.b = loc.b then some c else M.rd loc'.b) = _
  rw [if_neg (hne _ _ _ hr h1)]
 ·intro b1 vs h1
  have h1' : (if b1 = loc.b then some c else M.rd b1) = some vs := h1
  by_cases hb : b1 = loc.b
  ·subst hb; rw [if_pos rfl] at h1'; cases h1'; exact ⟨t, _, B.heap⟩
  ·rw [if_neg hb] at h1'; exact H.rd _ _ h1'
 ·refine ⟨⟨hrd, rfl, rfl, rfl, Nat.le_refl _, fun _ _ _ => rfl, fun k hk => .inl hk, fun k hk => ?_⟩, le⟩
  have hk' : (if k = loc.b then some c else M.rd k) ≠ none := hk
  by_cases hb : k = loc.b
  ·subst hb; exact .inr (.inl (own_of hl))
  ·rw [if_neg hb] at hk'; exact .inl hk'

theorem setRO_ok : ∀ (l : List (Ref × Nat × Blk)) {M : Mp} {h : Heap}, HR fid M h w → (∀ x ∈ l, ∃ q, (x.2.2.ro = true → q = true) ∧ h.get x.1 = some ⟨x.2.1, some ⟨x.2.2.sz, x.2.2.es, q⟩⟩) →
  ∃ h1 M1, (setRO l).run h = some ((), h1) ∧ Stp M w M1 w ∧ HR fid M1 h1 w ∧ M1.io = M.io ∧ M1.cv = M.cv ∧ Kept M w M1.rd l ∧ ∀ r, (∀ x ∈ l, x.1 ≠ r) → h1.get r = h.get r
 | [], M, h, H, _ => ⟨h, M, rfl, .refl _ _, H, rfl, rfl, fun x hx => by simp at hx, fun _ _ => rfl⟩
 | x :: l, M, h, H, hL => by
  obtain ⟨q, hq, hg⟩ := hL x (List.mem_cons_self ..)
  obtain ⟨loc, ca, ty, lo, hi, hl, B⟩ := H.live hg
  cases hxr : x.2.2.ro with
  | true =>
   obtain ⟨h2, M2, e1, e2, e3, e4, e5, e6, e7⟩ := setRO_ok l H (fun y hy => hL y (List.mem_cons_of_mem _ hy))
   refine ⟨h2, M2, ?_, e2, e3, e4, e5, ?_, fun r hr => e7 r (fun y hy => hr y (List.mem_cons_of_mem _ hy))⟩
   ·show (if x.2.2.ro = true then setRO l else _ : HM Unit).run h = _
    rw [if_pos hxr]; exact e1
   ·intro y hy loc' ca' t fz h1 h2
    rcases List.mem_cons.1 hy with rfl | z
    ·rw [hl] at h1; cases h1
     rw [B.heap] at h2
     simp only [Option.some.injEq, Obj.cells.injEq] at h2
     rw [← h2.1]
     exact e2.rd _ _ (B.ro (hq hxr))
    ·exact e6 y z loc' ca' t fz h1 h2
  | false =>
  obtain ⟨H1, S1⟩ := H.setro hg hl B
  have hgp : (h.put x.1 ⟨x.2.1, some ⟨x.2.2.sz, x.2.2.es, true⟩⟩).get x.1 = some ⟨x.2.1, some ⟨x.2.2.sz, x.2.2.es, true⟩⟩ :=
   Heap.get_put_same hg (by intro i hi; have := hg; rw [hi] at this; have h9 := Heap.ver_a this; exact h9)
  obtain ⟨h2, M2, e1, e2, e3, e4, e5, e6, e7⟩ := setRO_ok l H1 (fun y hy => by
   obtain ⟨q', hqy, hy'⟩ := hL y (List.mem_cons_of_mem _ hy)
   by_cases hxy : y.1 = x.1
   ·rw [hxy, hg] at hy'
    simp only [Option.some.injEq, Ent.mk.injEq, Blk.mk.injEq] at hy'
    exact ⟨true, fun _ => rfl, by rw [hxy, hgp, hy'.1, hy'.2.1, hy'.2.2.1]⟩
   ·exact ⟨q', hqy, by rw [Heap.get_put_other hxy]; exact hy'⟩)
  refine ⟨h2, M2, ?_, S1.trans e2, e3, e4, e5, ?_, ?_⟩
  ·show (if x.2.2.ro = true then setRO l else HM.set x.1 ⟨x.2.1, some ⟨x.2.2.sz, x.2.2.es, true⟩⟩ (setRO l) : HM Unit).run h = _
   rw [if_neg (by rw [hxr]; simp)]
   show (match h.get x.1 with | some _ => _ | none => none) = _
   rw [hg]; exact e1
  ·intro y hy loc' ca' t fz h1 h2
   rcases List.mem_cons.1 hy with rfl | z
   ·rw [hl] at h1; cases h1
    rw [B.heap] at h2
    simp only [Option.some.injEq, Obj.cells.injEq] at h2
    rw [← h2.1]
    exact e2.rd _ _ (by show (if loc.b = loc.b then _ else _) = _; rw [if_pos rfl])
   ·exact e6 y z loc' ca' t fz h1 h2
  ·intro r hr
   rw [e7 r (fun y hy => hr y (List.mem_cons_of_mem _ hy)), Heap.get_put_other (fun e => hr x (List.mem_cons_self ..) e.symm)]

def lendM (M : Mp) (bor : List (Ref × Nat × Blk)) : Mp :=
 ⟨M.rd, fun r v => match r with
  | .a i => if v = 0 then (match bor[i]? with | some x => M.io x.1 x.2.1 | none => none) else none
  | _ => none, fun _ => 0⟩
theorem lendM_some {bor : List (Ref × Nat × Blk)} {r : Ref} {v : Nat} {loc : Loc} (hl : (lendM M bor).io r v = some loc) : ∃ i x, r = .a i ∧ v = 0 ∧ bor[i]? = some x ∧ M.io x.1 x.2.1 = some loc := by
 cases r with
 | a i =>
  simp only [lendM] at hl
  split at hl
  ·rename_i hv
   split at hl
   ·rename_i x hx; exact ⟨i, x, rfl, hv, hx, hl⟩
   ·cases hl
  ·cases hl
 | l s => simp [lendM] at hl
 | dead => simp [lendM] at hl
theorem lend_ren {bor : List (Ref × Nat × Blk)} : RenOk M (lendM M bor) (fwdRen bor) where
 rd := .refl _
 some r v r' v' hv hf := by
  unfold fwdRen at hf
  cases hi : idxOf r v bor 0 with
  | none => rw [hi] at hf; cases hf
  | some i =>
   rw [hi] at hf
   simp only [Option.some.injEq, Prod.mk.injEq] at hf
   obtain ⟨rfl, rfl⟩ := hf
   refine ⟨Nat.zero_le _, fun loc hl => ?_⟩
   obtain ⟨j, b, e, hj⟩ := idxOf_some hi
   obtain ⟨i', x, h1, _, h2, h3⟩ := lendM_some hl
   cases h1
   have : i = j := by omega
   subst this
   rw [hj] at h2; cases h2
   exact h3
 dead := rfl
theorem lend_own {bor : List (Ref × Nat × Blk)} {b : Nat} (ho : own (lendM M bor) b) : own M b := by
 obtain ⟨r, v, loc, hl, rfl⟩ := ho
 obtain ⟨i, x, _, _, _, h⟩ := lendM_some hl
 exact own_of h
theorem lend_ok {bor : List (Ref × Nat × Blk)} (H : HR fid M h w) (hL : Live h bor) (hP : bor.Pairwise (fun x y => x.1 ≠ y.1)) :
  HR fid (lendM M bor) ⟨(bor.map fun x => x.2.2.ren (fwdRen bor)).map some, []⟩ w := by
 have hget : ∀ (r : Ref) (e : Ent), (⟨(bor.map fun x => x.2.2.ren (fwdRen bor)).map some, []⟩ : Heap).get r = some e → ∃ i x, r = .a i ∧ bor[i]? = some x ∧ e = ⟨0, some (x.2.2.ren (fwdRen bor))⟩ := by
  intro r e he
  cases r with
  | a i =>
   simp only [Heap.get, List.getElem?_map] at he
   cases hx : bor[i]? with
   | none => rw [hx] at he; cases he
   | some x => rw [hx] at he; simp only [Option.map_some, Option.some.injEq] at he; exact ⟨i, x, rfl, hx, he.symm⟩
  | l s => simp [Heap.get] at he
  | dead => simp [Heap.get] at he
 refine ⟨?_, ?_, ?_, ?_, ?_, ?_, H.rd⟩
 ·intro r e he
  obtain ⟨i, x, rfl, _, rfl⟩ := hget r e he
  rfl
 ·intro r e v he hn
  obtain ⟨i, x, rfl, hx, rfl⟩ := hget r e he
  cases hl : (lendM M bor).io (.a i) v with
  | none => exact absurd hl hn
  | some loc => obtain ⟨_, _, _, h1, _⟩ := lendM_some hl; exact ⟨h1, by simp⟩
 ·intro r e he _
  obtain ⟨i, x, rfl, hx, rfl⟩ := hget r e he
  obtain ⟨loc, ca, ty, lo, hi, hl, B⟩ := H.live (hL x (List.mem_of_getElem? hx))
  have : (lendM M bor).io (.a i) 0 = some loc := by simp [lendM, hx, hl]
  show (lendM M bor).io (.a i) 0 ≠ none
  rw [this]; simp
 ·intro r v he
  cases hl : (lendM M bor).io r v with
  | none => rfl
  | some loc =>
   obtain ⟨i, x, rfl, _, hx, _⟩ := lendM_some hl
   simp [Heap.get, List.getElem?_map, hx] at he
 ·intro r e b loc he hb hl
  obtain ⟨i, x, rfl, hx, rfl⟩ := hget r e he
  simp only [Option.some.injEq] at hb
  subst hb
  obtain ⟨i', x', h1, _, h2, h3⟩ := lendM_some hl
  cases h1
  rw [hx] at h2; cases h2
  obtain ⟨loc', ca, ty, lo, hi, hl', B⟩ := H.live (hL x (List.mem_of_getElem? hx))
  rw [hl'] at h3; cases h3
  exact ⟨ca, ty, lo, hi, B.ren lend_ren (fun q => B.rw_ q)⟩
 ·intro r v loc r' v' loc' h1 h2 hb
  obtain ⟨i, x, rfl, rfl, hx, hx'⟩ := lendM_some h1
  obtain ⟨j, y, rfl, rfl, hy, hy'⟩ := lendM_some h2
  have := H.inj _ _ _ _ _ _ hx' hy' hb
  rw [pairwise_ref hP hx hy this]

def CallOk (P : Program) (fid : Nat → FuncId) (C : CallF) : Prop :=
 ∀ (f : Nat) (args : List PV) (G0 : List Blk) (r : PV) (G : List (Option Blk)) (M : Mp) (w : World) (cargs : Array Value), C f args G0 = some (r, G) → HR fid M ⟨G0.map some, []⟩ w → (∀ r, M.cv r = 0) → args.length = cargs.size →
  (∀ (i : Nat) (e : PV) (u : Value), args[i]? = some e → cargs[i]? = some u → VR fid M e u) →
  Calls P (fid f) cargs w fun e w' => ∃ c M', e = .returned c ∧ StpI M w M' w' ∧ HR fid M' ⟨G.take G0.length, (G.drop G0.length).map fun b => ⟨0, b⟩⟩ w' ∧ VR fid M' r c ∧
   (∀ i, M'.io (.a i) 0 = M.io (.a i) 0 ∨ M'.io (.a i) 0 = none)

theorem newVers_ok : ∀ (n : Nat) {s : Nat} {nv : List Nat} {h h' : Heap}, (newVers s n).run h = some (nv, h') → h' = h ∧ nv.length = n ∧ ∀ (k v : Nat), nv[k]? = some v → ∃ e, h.get (.l (s + k)) = some e ∧ v = e.ver + 1
 | 0, s, nv, h, h', hv => by
  obtain ⟨rfl, rfl⟩ := HM.run_ret_some hv
  exact ⟨rfl, rfl, fun k v hk => by simp at hk⟩
 | n + 1, s, nv, h, h', hv => by
  simp only [newVers, HM.run] at hv
  cases hg : h.get (.l s) with
  | none => rw [hg] at hv; cases hv
  | some e =>
   rw [hg] at hv
   simp only at hv
   obtain ⟨vs, h1, h2, h3⟩ := HM.run_bind_some hv
   obtain ⟨rfl, rfl⟩ := HM.run_ret_some h3
   obtain ⟨rfl, l1, f1⟩ := newVers_ok n h2
   refine ⟨rfl, by simp [l1], fun k v hk => ?_⟩
   cases k with
   | zero => simp at hk; exact ⟨e, hg, hk.symm⟩
   | succ k =>
    obtain ⟨e', h4, h5⟩ := f1 k v (by simpa using hk)
    exact ⟨e', by rw [← h4]; congr 2; omega, h5⟩
theorem putBack_ok (f : Ref → Nat → Option (Ref × Nat)) : ∀ {bor : List (Ref × Nat × Blk)} {bs : List (Option Blk)} {h h' : Heap}, (putBack f bor bs).run h = some ((), h') → Live h bor → bor.Pairwise (fun x y => x.1 ≠ y.1) →
  (∀ (i : Nat) (x : Ref × Nat × Blk), bor[i]? = some x → ∃ b, bs[i]? = some b ∧ h'.get x.1 = some ⟨x.2.1, b.map (Blk.ren f)⟩) ∧ ∀ r, (∀ x ∈ bor, x.1 ≠ r) → h'.get r = h.get r
 | [], bs, h, h', hv, _, _ => by
  unfold putBack at hv
  obtain ⟨_, rfl⟩ := HM.run_ret_some hv
  exact ⟨fun i x hx => by simp at hx, fun _ _ => rfl⟩
 | x :: bor, [], h, h', hv, _, _ => by simp [putBack, HM.run] at hv
 | (r, v, b0) :: bor, b :: bs, h, h', hv, hL, hP => by
  simp only [putBack] at hv
  obtain ⟨e0, he0, hv2⟩ := run_set_some hv
  have hg := hL (r, v, b0) (List.mem_cons_self ..)
  simp only at hg
  rw [List.pairwise_cons] at hP
  have hv3 : (putBack f bor bs).run (h.put r ⟨v, b.map (Blk.ren f)⟩) = some ((), h') := by cases b <;> exact hv2
  obtain ⟨g1, g2⟩ := putBack_ok f hv3 (fun y hy => by rw [Heap.get_put_other (fun e => hP.1 y hy e.symm)]; exact hL y (List.mem_cons_of_mem _ hy)) hP.2
  refine ⟨fun i x hx => ?_, fun q hq => ?_⟩
  ·cases i with
   | zero =>
    simp only [List.getElem?_cons_zero, Option.some.injEq] at hx; subst hx
    refine ⟨b, rfl, ?_⟩
    rw [g2 _ (fun y hy => fun e => hP.1 y hy e.symm)]
    exact Heap.get_put_same hg (by intro i hi; have := hg; rw [hi] at this; have h9 := Heap.ver_a this; exact h9)
   | succ i => exact g1 i x (by simpa using hx)
  ·rw [g2 q (fun y hy => hq y (List.mem_cons_of_mem _ hy)), Heap.get_put_other (fun e => hq _ (List.mem_cons_self ..) e.symm)]
theorem putNew_ok (f : Ref → Nat → Option (Ref × Nat)) : ∀ {nv : List Nat} {bs : List (Option Blk)} {s : Nat} {h h' : Heap}, (putNew f s nv bs).run h = some ((), h') →
  bs.length = nv.length ∧ (∀ (k v : Nat), nv[k]? = some v → ∃ b, bs[k]? = some (some b) ∧ h'.get (.l (s + k)) = some ⟨v, some (b.ren f)⟩) ∧ ∀ r, (∀ k, k < nv.length → r ≠ .l (s + k)) → h'.get r = h.get r
 | [], [], s, h, h', hv => by
  unfold putNew at hv
  obtain ⟨_, rfl⟩ := HM.run_ret_some hv
  exact ⟨rfl, fun k v hx => by simp at hx, fun _ _ => rfl⟩
 | [], _ :: _, s, h, h', hv => by simp [putNew, HM.run] at hv
 | _ :: _, [], s, h, h', hv => by simp [putNew, HM.run] at hv
 | _ :: _, none :: _, s, h, h', hv => by simp [putNew, HM.run] at hv
 | v :: nv, some b :: bs, s, h, h', hv => by
  simp only [putNew] at hv
  obtain ⟨e0, he0, hv⟩ := run_set_some hv
  obtain ⟨g0, g1, g2⟩ := putNew_ok f hv
  refine ⟨by simp [g0], fun k u hk => ?_, fun r hr => ?_⟩
  ·cases k with
   | zero =>
    simp only [List.getElem?_cons_zero, Option.some.injEq] at hk; subst hk
    refine ⟨b, rfl, ?_⟩
    rw [Nat.add_zero, g2 _ (fun k _ e => by simp at e; omega)]
    exact Heap.get_put_same he0 (by intro i hi; cases hi)
   | succ k =>
    obtain ⟨b', h1, h2⟩ := g1 k u (by simpa using hk)
    exact ⟨b', by simpa using h1, by rw [← h2]; congr 2; omega⟩
  ·rw [g2 r (fun k hk e => hr (k + 1) (by simp; omega) (by rw [e]; congr 1; omega)), Heap.get_put_other (fun e => hr 0 (by simp) (by rw [e]; rfl))]
end
end Gv

namespace Gv
open Go

section
variable {fid : Nat → FuncId} {P : Program} {M : Mp} {w : World} {h : Heap}

def isNew (s n : Nat) : Ref → Option Nat
 | .l t => if s ≤ t ∧ t < s + n then some (t - s) else none
 | _ => none
theorem isNew_some {s n k : Nat} {r : Ref} (h : isNew s n r = some k) : r = .l (s + k) ∧ k < n := by
 cases r with
 | l t =>
  simp only [isNew] at h
  split at h
  ·rename_i hc; simp only [Option.some.injEq] at h; exact ⟨by congr 1; omega, by omega⟩
  ·cases h
 | a i => simp [isNew] at h
 | dead => simp [isNew] at h
theorem isNew_of {s n k : Nat} (h : k < n) : isNew s n (.l (s + k)) = some k := by
 simp only [isNew]
 rw [if_pos (by omega)]; congr 1; omega
theorem isNew_none {s n : Nat} {r : Ref} (h : isNew s n r = none) (k : Nat) (hk : k < n) : r ≠ .l (s + k) := by
 intro e; rw [e, isNew_of hk] at h; cases h

def afterM (M1 M' : Mp) (bor : List (Ref × Nat × Blk)) (s : Nat) (nv : List Nat) : Mp :=
 ⟨M'.rd, fun r v => match isNew s nv.length r with
  | some k => if nv[k]? = some v then M'.io (.l k) 0 else none
  | none => match idxOf r v bor 0 with
   | some i => M'.io (.a i) 0
   | none => M1.io r v,
  fun r => match isNew s nv.length r with
  | some k => nv.getD k 0
  | none => M1.cv r⟩

structure After (fid : Nat → FuncId) (M1 M' : Mp) (w w' : World) (h1 h3 : Heap) (bor : List (Ref × Nat × Blk)) (s : Nat) (nv : List Nat) (G : List (Option Blk)) : Prop where
 H1 : HR fid M1 h1 w
 hL : Live h1 bor
 hP : bor.Pairwise (fun x y => x.1 ≠ y.1)
 S : StpI (lendM M1 bor) w M' w'
 H' : HR fid M' ⟨G.take bor.length, (G.drop bor.length).map fun b => ⟨0, b⟩⟩ w'
 hio : ∀ i, M'.io (.a i) 0 = (lendM M1 bor).io (.a i) 0 ∨ M'.io (.a i) 0 = none
 hnv : ∀ (k v : Nat), nv[k]? = some v → ∃ e, h1.get (.l (s + k)) = some e ∧ v = e.ver + 1
 new : ∀ (k v : Nat), nv[k]? = some v → ∃ b, (G.drop bor.length)[k]? = some (some b) ∧ h3.get (.l (s + k)) = some ⟨v, some (b.ren (backRen bor s nv))⟩
 back : ∀ (i : Nat) (x : Ref × Nat × Blk), bor[i]? = some x → isNew s nv.length x.1 = none → ∃ b, (G.take bor.length)[i]? = some b ∧ h3.get x.1 = some ⟨x.2.1, b.map (Blk.ren (backRen bor s nv))⟩
 other : ∀ r, isNew s nv.length r = none → (∀ x ∈ bor, x.1 ≠ r) → h3.get r = h1.get r

variable {M1 M' : Mp} {w' : World} {h1 h3 : Heap} {bor : List (Ref × Nat × Blk)} {s : Nat} {nv : List Nat} {G : List (Option Blk)}

inductive Cls (M1 M' : Mp) (h1 h3 : Heap) (bor : List (Ref × Nat × Blk)) (s : Nat) (nv : List Nat) (G : List (Option Blk)) (r : Ref) : Prop
 | new (k v : Nat) (b : Blk) (hr : r = .l (s + k)) (hk : nv[k]? = some v) (hg : (G.drop bor.length)[k]? = some (some b)) (h3g : h3.get r = some ⟨v, some (b.ren (backRen bor s nv))⟩)
   (hio : ∀ u, (afterM M1 M' bor s nv).io r u = if u = v then M'.io (.l k) 0 else none) (hcv : (afterM M1 M' bor s nv).cv r = v) (h1g : ∃ e, h1.get r = some e ∧ v = e.ver + 1)
 | back (i : Nat) (x : Ref × Nat × Blk) (b : Option Blk) (hr : x.1 = r) (hi : bor[i]? = some x) (hg : (G.take bor.length)[i]? = some b) (h3g : h3.get r = some ⟨x.2.1, b.map (Blk.ren (backRen bor s nv))⟩)
   (hio : ∀ u, (afterM M1 M' bor s nv).io r u = if u = x.2.1 then M'.io (.a i) 0 else none) (hcv : (afterM M1 M' bor s nv).cv r = x.2.1) (h1g : h1.get r = some ⟨x.2.1, some x.2.2⟩) (hc1 : M1.cv r = x.2.1)
 | other (hr : ∀ x ∈ bor, x.1 ≠ r) (h3g : h3.get r = h1.get r) (hio : ∀ u, (afterM M1 M' bor s nv).io r u = M1.io r u) (hcv : (afterM M1 M' bor s nv).cv r = M1.cv r)

theorem After.cls (A : After fid M1 M' w w' h1 h3 bor s nv G) (r : Ref) : Cls M1 M' h1 h3 bor s nv G r := by
 cases hn : isNew s nv.length r with
 | some k =>
  obtain ⟨rfl, hk⟩ := isNew_some hn
  have hkv : nv[k]? = some nv[k] := List.getElem?_eq_getElem hk
  obtain ⟨b, g1, g2⟩ := A.new k _ hkv
  refine .new k nv[k] b rfl hkv g1 g2 (fun u => ?_) ?_ (A.hnv k _ hkv)
  ·simp only [afterM, hn, hkv, Option.some.injEq]
   by_cases hu : nv[k] = u
   ·rw [if_pos hu, if_pos hu.symm]
   ·rw [if_neg hu, if_neg (fun e => hu e.symm)]
  ·simp only [afterM, hn, List.getD, hkv, Option.getD_some]
 | none =>
  by_cases hb : ∃ x ∈ bor, x.1 = r
  ·obtain ⟨x, hx, rfl⟩ := hb
   obtain ⟨i, hi⟩ := List.mem_iff_getElem?.1 hx
   obtain ⟨b, g1, g2⟩ := A.back i x hi hn
   have hc1 : M1.cv x.1 = x.2.1 := A.H1.cv _ _ (A.hL x hx)
   refine .back i x b rfl hi g1 g2 (fun u => ?_) ?_ (A.hL x hx) hc1
   ·simp only [afterM, hn]
    by_cases hu : u = x.2.1
    ·subst hu
     rw [if_pos rfl]
     cases hix : idxOf x.1 x.2.1 bor 0 with
     | none => exact absurd hix (idxOf_ex (b := x.2.2) hi)
     | some j =>
      obtain ⟨j', b', e1, e2⟩ := idxOf_some hix
      have := pairwise_ref A.hP hi e2 rfl
      simp only
      congr 2; omega
    ·rw [if_neg hu]
     cases hix : idxOf x.1 u bor 0 with
     | none =>
      simp only
      cases hl : M1.io x.1 u with
      | none => rfl
      | some loc => exact absurd (A.H1.dom _ _ u (A.hL x hx) (by rw [hl]; simp)).1 hu
     | some j =>
      obtain ⟨j', b', e1, e2⟩ := idxOf_some hix
      have h1 := A.hL _ (List.mem_of_getElem? e2)
      have h2 := A.hL x hx
      simp only at h1
      rw [h2] at h1
      simp only [Option.some.injEq, Ent.mk.injEq] at h1
      exact absurd h1.1.symm hu
   ·simp only [afterM, hn]; exact hc1
  ·have hb' : ∀ x ∈ bor, x.1 ≠ r := fun x hx e => hb ⟨x, hx, e⟩
   refine .other hb' (A.other r hn hb') (fun u => ?_) ?_
   ·simp only [afterM, hn]
    cases hix : idxOf r u bor 0 with
    | none => rfl
    | some j =>
     obtain ⟨j', b', e1, e2⟩ := idxOf_some hix
     exact absurd rfl (hb' _ (List.mem_of_getElem? e2))
   ·simp only [afterM, hn]

theorem After.le (A : After fid M1 M' w w' h1 h3 bor s nv G) : M1.le (afterM M1 M' bor s nv) := by
 refine ⟨A.S.rd, fun r => ?_, fun r v hv => ?_⟩
 ·cases A.cls r with
  | new k u b hr hk hg h3g hio hcv h1g =>
   obtain ⟨e, he, hu⟩ := h1g
   rw [hcv, A.H1.cv _ _ he]; omega
  | back i x b hr hi hg h3g hio hcv h1g hc1 => rw [hcv, hc1]; exact Nat.le_refl _
  | other hr h3g hio hcv => rw [hcv]; exact Nat.le_refl _
 ·cases A.cls r with
  | new k u b hr hk hg h3g hio hcv h1g =>
   obtain ⟨e, he, hu⟩ := h1g
   rw [A.H1.cv _ _ he] at hv
   exact .inr (by rw [hio, if_neg (by omega)])
  | back i x b hr hi hg h3g hio hcv h1g hc1 =>
   rw [hio]
   by_cases hx : v = x.2.1
   ·rw [if_pos hx]
    rcases A.hio i with e | e
    ·left
     rw [e, ← hr, hx]
     simp [lendM, hi]
    ·exact .inr e
   ·exact .inr (if_neg hx)
  | other hr h3g hio hcv => exact .inl (hio v)

theorem After.ren (A : After fid M1 M' w w' h1 h3 bor s nv G) : RenOk M' (afterM M1 M' bor s nv) (backRen bor s nv) where
 rd := .refl _
 some r v r' v' hv hf := by
  have hcl : ∀ r e, (⟨G.take bor.length, (G.drop bor.length).map fun b => ⟨0, b⟩⟩ : Heap).get r = some e → e.ver = 0 := by
   intro r e he
   cases r with
   | a i => exact Heap.ver_a he
   | l k =>
    simp only [Heap.get, List.getElem?_map] at he
    cases hx : (G.drop bor.length)[k]? with
    | none => rw [hx] at he; cases he
    | some x => rw [hx] at he; simp only [Option.map_some, Option.some.injEq] at he; rw [← he]
   | dead => simp [Heap.get] at he
  have hz : ∀ loc, M'.io r v = some loc → v = 0 := by
   intro loc hl
   obtain ⟨e, he, h1, _⟩ := A.H'.ver_le (r := r) (v := v) (by rw [hl]; simp)
   rw [h1]; exact hcl r e he
  cases r with
  | a i =>
   simp only [backRen] at hf
   split at hf
   case h_2 => cases hf
   rename_i q u b hx
   simp only [Option.some.injEq, Prod.mk.injEq] at hf
   obtain ⟨rfl, rfl⟩ := hf
   have hg := A.hL _ (List.mem_of_getElem? hx)
   simp only at hg
   have hcv1 := A.H1.cv _ _ hg
   refine ⟨Nat.le_trans (by rw [hcv1]; exact Nat.le_refl _) (A.le.cv q), fun loc hl => ?_⟩
   cases A.cls q with
   | new k u' b' hr hk hg' h3g hio hcv h1g =>
    obtain ⟨e, he, hu⟩ := h1g
    rw [hg] at he; cases he
    rw [hio, if_neg (by simp only at hu; omega)] at hl; cases hl
   | back i' x b' hr hi hg' h3g hio hcv h1g hc1 =>
    have hii := pairwise_ref A.hP hx hi (by rw [hr])
    subst hii
    rw [hx] at hi; cases hi
    rw [hio, if_pos rfl] at hl
    have hv0 : v = 0 := by
     have : M'.cv (.a i) = 0 := by
      obtain ⟨e, he, h1, _⟩ := A.H'.ver_le (r := .a i) (v := 0) (by rw [hl]; simp)
      have := A.H'.cv _ _ he
      rw [this, hcl _ _ he]
     omega
    subst hv0; exact hl
   | other hr h3g hio hcv => exact absurd rfl (hr _ (List.mem_of_getElem? hx))
  | l k =>
   simp only [backRen] at hf
   split at hf
   case h_2 => cases hf
   rename_i u hk
   simp only [Option.some.injEq, Prod.mk.injEq] at hf
   obtain ⟨rfl, rfl⟩ := hf
   have hlt := getElem?_lt hk
   cases A.cls (.l (s + k)) with
   | new k' u' b' hr hk' hg' h3g hio hcv h1g =>
    have : k = k' := by simp only [Ref.l.injEq] at hr; omega
    subst this
    rw [hk] at hk'; cases hk'
    refine ⟨by rw [hcv]; exact Nat.le_refl _, fun loc hl => ?_⟩
    rw [hio, if_pos rfl] at hl
    have hv0 : v = 0 := by
     have : M'.cv (.l k) = 0 := by
      obtain ⟨e, he, h1, _⟩ := A.H'.ver_le (r := .l k) (v := 0) (by rw [hl]; simp)
      have := A.H'.cv _ _ he
      rw [this, hcl _ _ he]
     omega
    subst hv0; exact hl
   | back i x b hr hi hg h3g hio hcv h1g hc1 =>
    exfalso
    obtain ⟨b', _, h5⟩ := A.new k _ hk
    obtain ⟨e, h6, h7⟩ := A.hnv k _ hk
    rw [h1g] at h6; cases h6
    rw [h3g] at h5
    simp only [Option.some.injEq, Ent.mk.injEq] at h5
    simp only at h7
    omega
   | other hr h3g hio hcv =>
    exfalso
    obtain ⟨b', _, h5⟩ := A.new k _ hk
    obtain ⟨e, h6, h7⟩ := A.hnv k _ hk
    rw [h3g, h6] at h5
    simp only [Option.some.injEq] at h5
    rw [h5] at h7
    simp only at h7
    omega
  | dead => simp [backRen] at hf
 dead := by
  cases A.cls .dead with
  | new k u b hr => cases hr
  | back i x b hr hi hg h3g hio hcv h1g hc1 => simp [Heap.get] at h1g
  | other hr h3g hio hcv => rw [hio]; exact A.H1.out _ _ rfl

theorem After.own (A : After fid M1 M' w w' h1 h3 bor s nv G) {b : Nat} (ho : own (afterM M1 M' bor s nv) b) : Gv.own M1 b ∨ w.heap.size ≤ b := by
 have hS : ∀ r v loc, M'.io r v = some loc → Gv.own M1 loc.b ∨ w.heap.size ≤ loc.b := by
  intro r v loc hl
  rcases A.S.own loc.b (own_of hl) with e | e
  ·exact .inl (lend_own e)
  ·exact .inr e
 obtain ⟨r, v, loc, hl, rfl⟩ := ho
 cases A.cls r with
 | new k u b hr hk hg h3g hio hcv h1g =>
  rw [hio] at hl; split at hl
  ·exact hS _ _ _ hl
  ·cases hl
 | back i x b hr hi hg h3g hio hcv h1g hc1 =>
  rw [hio] at hl; split at hl
  ·exact hS _ _ _ hl
  ·cases hl
 | other hr h3g hio hcv => rw [hio] at hl; exact .inl (own_of hl)

theorem After.stp (A : After fid M1 M' w w' h1 h3 bor s nv G) : Stp M1 w (afterM M1 M' bor s nv) w' :=
 ⟨⟨A.S.rd, A.S.os, A.S.tape, A.S.output, A.S.size, fun b hb hn => A.S.frame b hb (fun ho => hn (lend_own ho)), fun b ho => A.own ho, fun b hb => by
  rcases A.S.rdn b hb with e | e | e
  ·exact .inl e
  ·exact .inr (.inl (lend_own e))
  ·exact .inr (.inr e)⟩, A.le⟩

theorem After.hr (A : After fid M1 M' w w' h1 h3 bor s nv G) : HR fid (afterM M1 M' bor s nv) h3 w' := by
 have hgl : ∀ k b, (G.drop bor.length)[k]? = some b → (⟨G.take bor.length, (G.drop bor.length).map fun b => ⟨0, b⟩⟩ : Heap).get (.l k) = some ⟨0, b⟩ := by
  intro k b hk
  simp only [Heap.get, List.getElem?_map, hk, Option.map_some]
 have hga : ∀ i b, (G.take bor.length)[i]? = some b → (⟨G.take bor.length, (G.drop bor.length).map fun b => ⟨0, b⟩⟩ : Heap).get (.a i) = some ⟨0, b⟩ := by
  intro i b hi
  simp only [Heap.get, hi]
 -- what is where: no two places meet
 have hback : ∀ i x loc, bor[i]? = some x → M'.io (.a i) 0 = some loc → M1.io x.1 x.2.1 = some loc := by
  intro i x loc hi hl
  rcases A.hio i with e | e
  ·rw [e] at hl; simpa [lendM, hi] using hl
  ·rw [e] at hl; cases hl
 have hfree : ∀ r u loc, (∀ x ∈ bor, x.1 ≠ r) → M1.io r u = some loc → ∀ q v loc', M'.io q v = some loc' → loc'.b ≠ loc.b := by
  intro r u loc hr hl q v loc' hl' he
  rcases A.S.own loc'.b (own_of hl') with e | e
  ·obtain ⟨q2, v2, loc2, h2, h3⟩ := e
   obtain ⟨i, x, rfl, _, hi, h4⟩ := lendM_some h2
   exact hr x (List.mem_of_getElem? hi) (A.H1.inj _ _ _ _ _ _ h4 hl (by rw [h3, he]))
  ·have := A.H1.own_lt (own_of hl)
   rw [he] at e; omega
 have hown : ∀ r u loc, (∀ x ∈ bor, x.1 ≠ r) → M1.io r u = some loc → ¬ Gv.own (lendM M1 bor) loc.b := by
  intro r u loc hr hl ho
  obtain ⟨q2, v2, loc2, h2, h3⟩ := ho
  obtain ⟨i, x, rfl, _, hi, h4⟩ := lendM_some h2
  exact hr x (List.mem_of_getElem? hi) (A.H1.inj _ _ _ _ _ _ h4 hl h3)
 refine ⟨?_, ?_, ?_, ?_, ?_, ?_, A.H'.rd⟩
 ·intro r e he
  cases A.cls r with
  | new k u b hr hk hg h3g hio hcv h1g => rw [h3g] at he; cases he; exact hcv
  | back i x b hr hi hg h3g hio hcv h1g hc1 => rw [h3g] at he; cases he; exact hcv
  | other hr h3g hio hcv => rw [h3g] at he; rw [hcv]; exact A.H1.cv _ _ he
 ·intro r e v he hn
  cases A.cls r with
  | new k u b hr hk hg h3g hio hcv h1g =>
   rw [h3g] at he; cases he
   rw [hio] at hn
   by_cases hu : v = u
   ·exact ⟨hu, by simp⟩
   ·rw [if_neg hu] at hn; exact absurd rfl hn
  | back i x b hr hi hg h3g hio hcv h1g hc1 =>
   rw [h3g] at he; cases he
   rw [hio] at hn
   by_cases hu : v = x.2.1
   ·rw [if_pos hu] at hn
    have := (A.H'.dom _ _ 0 (hga i b hg) hn).2
    refine ⟨hu, ?_⟩
    simp only at this
    cases b with
    | none => exact absurd rfl this
    | some b => simp
   ·rw [if_neg hu] at hn; exact absurd rfl hn
  | other hr h3g hio hcv => rw [h3g] at he; rw [hio] at hn; exact A.H1.dom _ _ _ he hn
 ·intro r e he hb
  cases A.cls r with
  | new k u b hr hk hg h3g hio hcv h1g =>
   rw [h3g] at he; cases he
   rw [hio, if_pos rfl]
   exact A.H'.has _ _ (hgl k _ hg) (by simp)
  | back i x b hr hi hg h3g hio hcv h1g hc1 =>
   rw [h3g] at he; cases he
   rw [hio, if_pos rfl]
   refine A.H'.has _ _ (hga i b hg) ?_
   cases b with
   | none => exact absurd rfl hb
   | some b => simp
  | other hr h3g hio hcv => rw [h3g] at he; rw [hio]; exact A.H1.has _ _ he hb
 ·intro r v he
  cases A.cls r with
  | new k u b hr hk hg h3g hio hcv h1g => rw [h3g] at he; cases he
  | back i x b hr hi hg h3g hio hcv h1g hc1 => rw [h3g] at he; cases he
  | other hr h3g hio hcv => rw [h3g] at he; rw [hio]; exact A.H1.out _ _ he
 ·intro r e b0 loc he hb hl
  cases A.cls r with
  | new k u b hr hk hg h3g hio hcv h1g =>
   rw [h3g] at he; cases he
   simp only [Option.some.injEq] at hb; subst hb
   rw [hio, if_pos rfl] at hl
   obtain ⟨c, t, lo, hi, B⟩ := A.H'.blk _ _ b loc (hgl k _ hg) rfl hl
   exact ⟨c, t, lo, hi, B.ren A.ren (fun q => B.rw_ q)⟩
  | back i x b hr hi hg h3g hio hcv h1g hc1 =>
   rw [h3g] at he; cases he
   cases b with
   | none => cases hb
   | some b =>
    simp only [Option.map_some, Option.some.injEq] at hb; subst hb
    rw [hio, if_pos rfl] at hl
    obtain ⟨c, t, lo, hi, B⟩ := A.H'.blk _ _ b loc (hga i _ hg) rfl hl
    exact ⟨c, t, lo, hi, B.ren A.ren (fun q => B.rw_ q)⟩
  | other hr h3g hio hcv =>
   rw [h3g] at he; rw [hio] at hl
   obtain ⟨c, t, lo, hi, B⟩ := A.H1.blk _ _ _ _ he hb hl
   have hfr := A.S.frame loc.b B.lt (hown r _ loc hr hl)
   refine ⟨c, t, lo, hi, ⟨by rw [hfr]; exact B.heap, B.sz, B.size, B.free, B.lohi, B.fits, fun q => A.S.rd _ _ (B.ro q), fun q => ?_, B.cells.mono A.le⟩⟩
   cases hrd : M'.rd loc.b with
   | none => exact hrd
   | some vs =>
    rcases A.S.rdn loc.b (by rw [hrd]; simp) with z | z | z
    ·exact absurd (B.rw_ q) z
    ·exact absurd z (hown r _ loc hr hl)
    ·have := B.lt; omega
 ·intro r v loc r' v' loc' h1' h2' hbb
  cases A.cls r with
  | new k u b hr hk hg h3g hio hcv h1g =>
   rw [hio] at h1'; split at h1'
   case isFalse => cases h1'
   cases A.cls r' with
   | new k2 u2 b2 hr2 hk2 hg2 h3g2 hio2 hcv2 h1g2 =>
    rw [hio2] at h2'; split at h2'
    case isFalse => cases h2'
    have := A.H'.inj _ _ _ _ _ _ h1' h2' hbb
    simp only [Ref.l.injEq] at this
    rw [hr, hr2, this]
   | back i x b2 hr2 hi hg2 h3g2 hio2 hcv2 h1g2 hc12 =>
    rw [hio2] at h2'; split at h2'
    case isFalse => cases h2'
    have := A.H'.inj _ _ _ _ _ _ h1' h2' hbb
    cases this
   | other hr2 h3g2 hio2 hcv2 => rw [hio2] at h2'; exact absurd hbb (hfree _ _ _ hr2 h2' _ _ _ h1')
  | back i x b hr hi hg h3g hio hcv h1g hc1 =>
   rw [hio] at h1'; split at h1'
   case isFalse => cases h1'
   cases A.cls r' with
   | new k2 u2 b2 hr2 hk2 hg2 h3g2 hio2 hcv2 h1g2 =>
    rw [hio2] at h2'; split at h2'
    case isFalse => cases h2'
    have := A.H'.inj _ _ _ _ _ _ h1' h2' hbb
    cases this
   | back i2 x2 b2 hr2 hi2 hg2 h3g2 hio2 hcv2 h1g2 hc12 =>
    rw [hio2] at h2'; split at h2'
    case isFalse => cases h2'
    have := A.H'.inj _ _ _ _ _ _ h1' h2' hbb
    simp only [Ref.a.injEq] at this
    subst this
    rw [hi] at hi2; cases hi2
    rw [← hr, ← hr2]
   | other hr2 h3g2 hio2 hcv2 => rw [hio2] at h2'; exact absurd hbb (hfree _ _ _ hr2 h2' _ _ _ h1')
  | other hr h3g hio hcv =>
   rw [hio] at h1'
   cases A.cls r' with
   | new k2 u2 b2 hr2 hk2 hg2 h3g2 hio2 hcv2 h1g2 =>
    rw [hio2] at h2'; split at h2'
    case isFalse => cases h2'
    exact absurd hbb.symm (hfree _ _ _ hr h1' _ _ _ h2')
   | back i x b2 hr2 hi hg2 h3g2 hio2 hcv2 h1g2 hc12 =>
    rw [hio2] at h2'; split at h2'
    case isFalse => cases h2'
    exact absurd hbb.symm (hfree _ _ _ hr h1' _ _ _ h2')
   | other hr2 h3g2 hio2 hcv2 => rw [hio2] at h2'; exact A.H1.inj _ _ _ _ _ _ h1' h2' hbb
end
end Gv

namespace Gv
open Go

section
variable {fid : Nat → FuncId} {P : Program} {M : Mp} {w : World} {h : Heap}

theorem noRefL_mem : ∀ {cs : List PV} {x : PV}, noRefL cs = true → x ∈ cs → noRef x = true
 | c :: cs, x, h, hx => by
  simp only [noRefL, Bool.and_eq_true] at h
  rcases List.mem_cons.1 hx with rfl | hx
  ·exact h.1
  ·exact noRefL_mem h.2 hx
theorem noRef_cell {e x : PV} (h : noRef e = true) (hx : x ∈ e.cells) : noRef x = true := by
 cases e <;> simp only [PV.cells, List.mem_singleton] at hx <;> first | (subst hx; exact h) | (simp only [noRef] at h; exact noRefL_mem h hx)
theorem noRefB_mem : ∀ {G : List (Option Blk)} {b : Blk}, noRefB G = true → some b ∈ G → b.ro = false ∧ noRefL b.es = true
 | some a :: G, b, h, hx => by
  simp only [noRefB, Bool.and_eq_true, Bool.not_eq_true'] at h
  rcases List.mem_cons.1 hx with e | hx
  ·cases e; exact h.1
  ·exact noRefB_mem h.2 hx
 | none :: G, b, h, hx => by simp [noRefB] at h
theorem noRef_fr {rd rd' : RD} {v : PV} {c : Value} (x : FR fid rd v c) : noRef v = true → FR fid rd' v c := by
 induction x with
 | int k n => exact fun _ => .int k n
 | bool b => exact fun _ => .bool b
 | str s => exact fun _ => .str s
 | nils => exact fun _ => .nils
 | nilp => exact fun _ => .nilp
 | nilfn => exact fun _ => .nilfn
 | lst => intro h; simp [noRef] at h
 | lptr => intro h; simp [noRef] at h
 | fn f => intro h; simp [noRef] at h
 | agg cs vs h1 h2 ih => intro h; exact .agg cs vs h1 fun i e u a b => ih i e u a b (noRefL_mem (by simpa [noRef] using h) (List.mem_of_getElem? a))
 | tup cs vs h1 h2 ih => intro h; exact .tup cs vs h1 fun i e u a b => ih i e u a b (noRefL_mem (by simpa [noRef] using h) (List.mem_of_getElem? a))
theorem noRef_vr {rd : RD} {M' : Mp} {v : PV} {c : Value} (hn : noRef v = true) (x : VR fid M' v c) : VR fid ⟨rd, M'.io, M'.cv⟩ v c := by
 induction x with
 | fr h => exact .fr (noRef_fr h hn)
 | junk => simp [noRef] at hn
 | tok r ver sz off len room c0 a cap hv h2 h3 h4 h5 => exact .tok r ver sz off len room c0 a cap hv h2 h3 h4 h5
 | ptr r ver i o a hv h => exact .ptr r ver i o a hv h
 | agg cs vs h1 h2 ih => exact .agg cs vs h1 fun i e u a b => ih i e u a b (noRefL_mem (by simpa [noRef] using hn) (List.mem_of_getElem? a))
 | tup cs vs h1 h2 ih => exact .tup cs vs h1 fun i e u a b => ih i e u a b (noRefL_mem (by simpa [noRef] using hn) (List.mem_of_getElem? a))
 | fn => simp [noRef] at hn

theorem meets_none {x y : List (Ref × Nat × Blk)} (h : meetsRef x y = false) : ∀ p ∈ x, ∀ q ∈ y, q.1 ≠ p.1 := by
 intro p hp q hq he
 unfold meetsRef at h
 rw [List.any_eq_false] at h
 have := h p hp
 rw [Bool.not_eq_true, List.any_eq_false] at this
 have := this q hq
 simp [he] at this


theorem call_ok {C : CallF} (hC : CallOk P fid C) {ro : List Bool} {f : Nat} {args0 : List PV} {s : Nat} {v : PV} {h' : Heap} {cargs : Array Value} (hv : (callHM C ro f args0 s).run h = some (v, h')) (H : HR fid M h w)
  (hl : args0.length = cargs.size) (ha : ∀ (i : Nat) (e : PV) (u : Value), args0[i]? = some e → cargs[i]? = some u → VR fid M e u) :
  Calls P (fid f) cargs w fun e w' => ∃ c M', e = .returned c ∧ Stp M w M' w' ∧ HR fid M' h' w' ∧ VR fid M' v c := by
 unfold callHM at hv
 obtain ⟨args, h1, hro, hv2⟩ := HM.run_bind_some hv
 obtain ⟨bor, h2, hcol, hv3⟩ := HM.run_bind_some hv2
 clear hv hv2
 obtain ⟨rfl, Lro, N1, F1⟩ := roArgs_ok (cs := fun i => cargs.getD i undef) hro H (fun i e hi => by
  have hlt : i < cargs.size := by rw [← hl]; exact getElem?_lt hi
  have := ha i e cargs[i] hi (Array.getElem?_eq_getElem hlt)
  simpa [hlt] using this)
 obtain ⟨rfl, Lb, Pb⟩ := collect_ok 99 hcol (fun x hx => by simp at hx) List.Pairwise.nil
 cases hm : meetsRef args.2 bor with
 | true => rw [hm] at hv3; simp [HM.run] at hv3
 | false =>
  rw [hm] at hv3
  simp only [Bool.false_eq_true, if_false] at hv3
  cases hCf : C f (renL (fwdRen bor) args.1) (bor.map fun x => x.2.2.ren (fwdRen bor)) with
  | none => rw [hCf] at hv3; simp [HM.run] at hv3
  | some rG =>
   obtain ⟨r, G⟩ := rG
   rw [hCf] at hv3
   simp only at hv3
   -- what is read is kept
   obtain ⟨hk, M1, hset, S1, H1, hio1, hcv1, K1, hk1⟩ := setRO_ok args.2 H (fun x hx => ⟨x.2.2.ro, fun q => q, by rw [Lro x hx]⟩)
   have Lb1 : Live hk bor := fun x hx => by rw [hk1 x.1 (fun y hy e => meets_none hm y hy x hx e.symm)]; exact Lb x hx
   have Hl := lend_ok H1 Lb1 Pb
   refine Calls.mono (hC f _ _ r G (lendM M1 bor) w cargs hCf Hl (fun _ => rfl) ?_ ?_) ?_
   ·rw [renL_map, List.length_map, N1]; exact hl
   ·intro i e u hi hu
    rw [renL_map, List.getElem?_map] at hi
    cases hx : args.1[i]? with
    | none => rw [hx] at hi; cases hi
    | some x =>
     rw [hx] at hi; simp only [Option.map_some, Option.some.injEq] at hi; subst hi
     have := F1 M1 S1.le K1 i x hx
     have hd : cargs.getD i undef = u := by
      rw [Array.getD_eq_getD_getElem?, hu]; rfl
     rw [hd] at this
     exact this.ren lend_ren
   ·rintro e w' ⟨c, M', rfl, S, H', V, hio⟩
    rw [List.length_map] at H'
    unfold afterCall at hv3
    obtain ⟨_, h3, hset2, hv4⟩ := HM.run_bind_some hv3
    obtain ⟨nv, h4, hnv, hv5⟩ := HM.run_bind_some hv4
    obtain ⟨_, h5, hpb, hv6⟩ := HM.run_bind_some hv5
    obtain ⟨_, h6, hpn, hv7⟩ := HM.run_bind_some hv6
    obtain ⟨rfl, rfl⟩ := HM.run_ret_some hv7
    clear hv3 hv4 hv5 hv6 hv7
    obtain ⟨rfl, hnl, hnw⟩ := newVers_ok _ hnv
    by_cases hsc : easyRes bor r G = true
    ·rw [if_pos hsc] at hset2
     obtain ⟨_, rfl⟩ := HM.run_ret_some hset2
     simp only [easyRes, Bool.and_eq_true, List.isEmpty_iff] at hsc
     obtain ⟨⟨rfl, hnr⟩, hng⟩ := hsc
     have hno : ∀ b, ¬ Gv.own (lendM M1 []) b := by
      rintro b ⟨r, v, loc, hl, _⟩
      obtain ⟨i, x, _, _, hx, _⟩ := lendM_some hl
      simp at hx
     have hno' : ∀ b, ¬ Gv.own (lendM M []) b := by
      rintro b ⟨r, v, loc, hl, _⟩
      obtain ⟨i, x, _, _, hx, _⟩ := lendM_some hl
      simp at hx
     have hfr : ∀ b, b < w.heap.size → w'.heap[b]? = w.heap[b]? := fun b hb => S.frame b hb (hno b)
     have hS : StpI (lendM M []) w ⟨M.rd, M'.io, M'.cv⟩ w' := ⟨.refl _, S.os, S.tape, S.output, S.size, fun b hb _ => hfr b hb, fun b ⟨r, v, loc, hl, he⟩ => by
      rcases S.own b ⟨r, v, loc, hl, he⟩ with z | z
      ·exact absurd z (hno b)
      ·exact .inr z, fun b hb => .inl hb⟩
     have hHR : HR fid ⟨M.rd, M'.io, M'.cv⟩ ⟨G.take ([] : List (Ref × Nat × Blk)).length, (G.drop ([] : List (Ref × Nat × Blk)).length).map fun b => ⟨0, b⟩⟩ w' := by
      refine ⟨H'.cv, H'.dom, H'.has, H'.out, fun r e b loc a1 a2 a3 => ?_, H'.inj, fun b vs hb => ?_⟩
      ·obtain ⟨c', t, lo, hi, B⟩ := H'.blk r e b loc a1 a2 a3
       have hmem : some b ∈ G := by
        cases r with
        | a i => simp [Heap.get] at a1
        | l k =>
         simp only [Heap.get, List.getElem?_map, List.length_nil, List.drop_zero] at a1
         cases hx : G[k]? with
         | none => rw [hx] at a1; cases a1
         | some x => rw [hx] at a1; simp only [Option.map_some, Option.some.injEq] at a1; rw [← a1] at a2; simp only at a2; rw [← a2]; exact List.mem_of_getElem? hx
        | dead => simp [Heap.get] at a1
       obtain ⟨g1, g2⟩ := noRefB_mem hng hmem
       refine ⟨c', t, lo, hi, ⟨B.heap, B.sz, B.size, B.free, B.lohi, B.fits, fun q => (by rw [g1] at q; cases q), fun _ => ?_, fun i e' hi' => ⟨(B.cells i e' hi').1, fun j x hj => ⟨((B.cells i e' hi').2 j x hj).1, ?_⟩⟩⟩⟩
       ·show M.rd loc.b = none
        rcases S.own loc.b ⟨r, _, loc, a3, rfl⟩ with z | z
        ·exact absurd z (hno _)
        ·cases hr : M.rd loc.b with
         | none => rfl
         | some vs => have := H.rd.lt (b := loc.b) (by rw [hr]; simp); omega
       ·obtain ⟨u, h3, h4⟩ := ((B.cells i e' hi').2 j x hj).2
        exact ⟨u, h3, noRef_vr (noRef_cell (noRefL_mem g2 (List.mem_of_getElem? hi')) (List.mem_of_getElem? hj)) h4⟩
      ·obtain ⟨t, fz, hh⟩ := H.rd b vs hb
       exact ⟨t, fz, by rw [hfr b (H.rd.lt (by show M.rd b ≠ none; rw [show M.rd b = some vs from hb]; simp))]; exact hh⟩
     obtain ⟨pb1, pb2⟩ := putBack_ok _ hpb Lb Pb
     obtain ⟨pn0, pn1, pn2⟩ := putNew_ok _ hpn
     have A := After.mk (fid := fid) (M1 := M) (M' := ⟨M.rd, M'.io, M'.cv⟩) (bor := []) H Lb Pb hS hHR (fun i => .inr (by
       show M'.io (.a i) 0 = none
       rcases hio i with e | e
       ·rw [e]
        cases hl : (lendM M1 []).io (.a i) 0 with
        | none => rfl
        | some loc => exact absurd ⟨_, _, loc, hl, rfl⟩ (hno loc.b)
       ·exact e)) hnw pn1 (fun i x hx => by simp at hx) (fun r hn hb => by rw [pn2 r (fun k hk => isNew_none hn k hk), pb2 r hb])
     exact ⟨c, _, rfl, A.stp, A.hr, (noRef_vr hnr V).ren A.ren⟩
    ·rw [if_neg hsc, hset] at hset2
     simp only [Option.some.injEq, Prod.mk.injEq, true_and] at hset2
     subst hset2
     obtain ⟨pb1, pb2⟩ := putBack_ok _ hpb Lb1 Pb
     obtain ⟨pn0, pn1, pn2⟩ := putNew_ok _ hpn
     have A : After fid M1 M' w w' hk h6 bor s nv G := {
      H1 := H1, hL := Lb1, hP := Pb, S := S, H' := H', hio := hio
      hnv := hnw
      new := pn1
      back := fun i x hx hn => by
       obtain ⟨b, g1, g2⟩ := pb1 i x hx
       exact ⟨b, g1, by rw [pn2 x.1 (fun k hk => isNew_none hn k hk)]; exact g2⟩
      other := fun r hn hb => by rw [pn2 r (fun k hk => isNew_none hn k hk), pb2 r hb] }
     exact ⟨c, _, rfl, S1.trans A.stp, A.hr, V.ren A.ren⟩
end
end Gv

namespace Gv
open Go

def chkPO (fid : Nat → FuncId) : PO → Operand → Bool
 | .t n, .tmp m => n == m
 | .c v, .const u => (match v with | .junk => true | _ => false) || constOkN 20 v u
 | .c (.fn f []), .func g => fid f == g
 | .c .junk, _ => true
 | _, _ => false
def chkL (fid : Nat → FuncId) : List PO → List Operand → Bool
 | [], [] => true
 | x :: xs, y :: ys => chkPO fid x y && chkL fid xs ys
 | _, _ => false
def chkO (fid : Nat → FuncId) : Option PO → Option Operand → Bool
 | none, none => true
 | some x, some y => chkPO fid x y
 | _, _ => false

structure FrR (fid : Nat → FuncId) (M : Mp) (fr : List PV) (tmps : Array Value) : Prop where
 len : fr.length = tmps.size
 at_ : ∀ t, VR fid M (nth fr t) (tmps.getD t undef)

section
variable {fid : Nat → FuncId} {P : Program} {M : Mp} {w : World} {h : Heap} {fr : List PV} {a : Act}

theorem FrR.mono {M' : Mp} (le : M.le M') {tmps : Array Value} (F : FrR fid M fr tmps) : FrR fid M' fr tmps := ⟨F.len, fun t => (F.at_ t).mono le⟩
theorem nth_get : ∀ {l : List PV} {t : Nat} {v : PV}, l[t]? = some v → nth l t = v
 | x :: xs, 0, v, h => by simpa [nth] using h
 | x :: xs, t + 1, v, h => by simp only [nth]; exact nth_get (by simpa using h)
 | [], t, v, h => by simp at h
theorem nth_none : ∀ {l : List PV} {t : Nat}, l.length ≤ t → nth l t = .junk
 | [], t, _ => by simp [nth]
 | x :: xs, 0, h => by simp at h
 | x :: xs, t + 1, h => by simp only [nth]; exact nth_none (by simpa using h)
theorem upd_length : ∀ (l : List PV) (d : Nat) (v : PV), (upd l d v).length = l.length
 | [], d, v => rfl
 | x :: xs, 0, v => rfl
 | x :: xs, d + 1, v => by simp [upd, upd_length xs d v]
theorem nth_upd : ∀ (l : List PV) (d t : Nat) (v : PV), nth (upd l d v) t = if t = d ∧ d < l.length then v else nth l t
 | [], d, t, v => by simp [upd, nth]
 | x :: xs, 0, 0, v => by simp [upd, nth]
 | x :: xs, 0, t + 1, v => by simp [upd, nth]
 | x :: xs, d + 1, 0, v => by simp [upd, nth]
 | x :: xs, d + 1, t + 1, v => by simp only [upd, nth]; rw [nth_upd xs d t v]; simp
theorem FrR.put {v : PV} {c : Value} {dst : Option Nat} (F : FrR fid M fr a.tmps) (hv : VR fid M v c) : FrR fid M (putDst fr dst v) (a.put dst c).tmps := by
 cases dst with
 | none => exact F
 | some d =>
  refine ⟨by simp [putDst, upd_length, Act.put, F.len], fun t => ?_⟩
  simp only [putDst, Act.put, nth_upd]
  by_cases ht : t = d ∧ d < fr.length
  ·rw [if_pos ht]
   obtain ⟨rfl, hd⟩ := ht
   rw [F.len] at hd
   have : (a.tmps.setIfInBounds t c).getD t undef = c := by simp [Array.getD, hd]
   rw [this]; exact hv
  ·rw [if_neg ht]
   have : (a.tmps.setIfInBounds d c).getD t undef = a.tmps.getD t undef := by
    rw [Array.getD_eq_getD_getElem?, Array.getD_eq_getD_getElem?]
    by_cases h1 : t = d
    ·subst h1
     have h2 : ¬ t < fr.length := fun h => ht ⟨rfl, h⟩
     rw [F.len] at h2
     rw [Array.getElem?_eq_none (by simp; omega), Array.getElem?_eq_none (by omega)]
    ·rw [Array.getElem?_setIfInBounds_ne (fun h => h1 h.symm)]
   rw [this]; exact F.at_ t

theorem chkPO_ok {x : PO} {y : Operand} (hc : chkPO fid x y = true) (F : FrR fid M fr a.tmps) : VR fid M (PO.ev fr x) (a.eval y) := by
 unfold chkPO at hc
 split at hc
 ·rename_i n m
  simp only [beq_iff_eq] at hc; subst hc
  exact F.at_ n
 ·rename_i v u
  simp only [Bool.or_eq_true] at hc
  rcases hc with hc | hc
  ·split at hc
   ·exact .junk _
   ·cases hc
  ·exact .fr (constOkN_ok 20 hc)
 ·rename_i f g
  simp only [beq_iff_eq] at hc; subst hc
  exact .fr (.fn f)
 ·exact .junk _
 ·cases hc
theorem chkL_ok : ∀ {xs : List PO} {ys : List Operand}, chkL fid xs ys = true → FrR fid M fr a.tmps →
  (evL (PO.ev fr) xs).length = ys.length ∧ ∀ (i : Nat) (e : PV) (u : Value), (evL (PO.ev fr) xs)[i]? = some e → (ys.map a.eval)[i]? = some u → VR fid M e u
 | [], [], _, _ => ⟨rfl, fun i e u hi => by simp [evL] at hi⟩
 | [], _ :: _, h, _ => by simp [chkL] at h
 | _ :: _, [], h, _ => by simp [chkL] at h
 | x :: xs, y :: ys, h, F => by
  simp only [chkL, Bool.and_eq_true] at h
  obtain ⟨h1, h2⟩ := chkL_ok h.2 F
  refine ⟨by simp [evL, h1], fun i e u hi hu => ?_⟩
  cases i with
  | zero =>
   simp only [evL, List.getElem?_cons_zero, Option.some.injEq] at hi
   simp only [List.map_cons, List.getElem?_cons_zero, Option.some.injEq] at hu
   subst hi; subst hu; exact chkPO_ok h.1 F
  | succ i => exact h2 i e u (by simpa [evL] using hi) (by simpa using hu)
theorem chkO_ok {x : Option PO} {y : Option Operand} (hc : chkO fid x y = true) (F : FrR fid M fr a.tmps) : OVR fid M (evO (PO.ev fr) x) (y.map a.eval) := by
 cases x with
 | none => cases y with
  | none => exact (by constructor)
  | some y => simp [chkO] at hc
 | some x => cases y with
  | none => simp [chkO] at hc
  | some y => exact (by first | exact .some (chkPO_ok hc F) | exact chkPO_ok hc F)
end
section
variable {fid : Nat → FuncId} {P : Program} {M : Mp} {h : Heap} {w : World}
def arrC (n : Nat) (cs : List PV) : List PV := (List.replicate n cs).flatten
theorem arrC_len (n : Nat) (cs : List PV) : (arrC n cs).length = n * cs.length := by
 simp [arrC, List.length_flatten]
theorem arrC_get : ∀ {n i j : Nat} {cs : List PV}, i < n → j < cs.length → (arrC n cs)[i * cs.length + j]? = cs[j]?
 | 0, i, j, cs, h, _ => by omega
 | n + 1, i, j, cs, h, hj => by
  have e : arrC (n + 1) cs = cs ++ arrC n cs := by simp [arrC, List.replicate_succ]
  rw [e]
  cases i with
  | zero => rw [Nat.zero_mul, Nat.zero_add, List.getElem?_append_left hj]
  | succ i =>
   have : (i + 1) * cs.length + j = cs.length + (i * cs.length + j) := by rw [Nat.succ_mul]; omega
   rw [this, List.getElem?_append_right (by omega), Nat.add_sub_cancel_left]
   exact arrC_get (by omega) hj
theorem boxA_ok {t : TypeId} {n : Nat} {z v : PV} {s : Nat} {h' : Heap} (H : HR fid M h w) (hv : (boxAHM n z s).run h = some (v, h')) (hz : zeroOk P t (.agg (arrC n z.cells)) = true) :
  OkR fid P M w (Instr.alloc t true (.tuple #[])) v h' := by
 obtain ⟨i, zv, hi, hzv, hfr⟩ := zeroOk_inv (fid := fid) hz
 unfold boxAHM at hv
 by_cases hc : okCells z.cells = true ∧ n < maxNew
 case neg => rw [if_neg hc] at hv; simp [HM.run] at hv
 rw [if_pos hc] at hv
 obtain ⟨ver, h1, hb, hv⟩ := HM.run_bind_some hv
 obtain ⟨rfl, rfl⟩ := HM.run_ret_some hv
 have hsz := (hfr M.rd).cells_size
 have hcs : (PV.agg (arrC n z.cells)).cells = arrC n z.cells := rfl
 rw [hcs, arrC_len] at hsz
 obtain ⟨M', S', H', q1, q2⟩ := newRow_ok (t := t) H hb rfl (cs := zv.cells) (by simp; omega) (by show zv.cells.size ≤ 9223372036854775807 * z.cells.length; rw [← hsz]; exact Nat.mul_le_mul_right _ (by have := hc.2; unfold maxNew at this; omega)) (by
  intro k e hk
  have hk : (List.replicate n z)[k]? = some e := hk
  rw [List.getElem?_replicate] at hk
  split at hk
  case isFalse => cases hk
  rename_i hkn
  simp only [Option.some.injEq] at hk; subst hk
  refine ⟨rfl, fun j x hj => ⟨okCells_get hc.1 hj, ?_⟩⟩
  have hjl : j < z.cells.length := by
   rcases Nat.lt_or_ge j z.cells.length with q | q
   ·exact q
   ·rw [List.getElem?_eq_none q] at hj; cases hj
  obtain ⟨u, u1, u2⟩ := (hfr M.rd).cells_at (k * z.cells.length + j) x (by rw [hcs, arrC_get hkn hjl, hj])
  exact ⟨u, by simpa using u1, .fr u2⟩)
 refine ⟨_, _, _, by simp [Instr.alloc, zeroValue, typeInfo, hi, hzv, newVar, newRow]; rfl, S', H', ?_⟩
 refine .ptr _ _ _ _ _ q1 (fun loc hl => ?_)
 rw [q2] at hl
 simp only [Option.some.injEq] at hl
 subst hl
 simp
theorem idxArrB_ok {n sz : Nat} {x i v : PV} {c ci : Value} {t : TypeId} {h' : Heap} (H : HR fid M h w) (hv : (idxArrBHM n sz x i).run h = some (v, h')) (hx : VR fid M x c) (hi : VR fid M i ci)
  (ht : ∃ e inf, P.underlying t = some (.array n e) ∧ P.info? e = some inf ∧ inf.size = sz) : h' = h ∧ ∃ u, (Instr.indexAt t c ci).run P w = .ok u w ∧ VR fid M v u := by
 unfold idxArrBHM at hv
 split at hv
 case h_2 => simp [HM.run] at hv
 rename_i k j r ver
 have := hi.int_inv; subst this
 by_cases hj : 0 ≤ j ∧ j < n
 case neg => rw [if_neg hj] at hv; simp [HM.run] at hv
 rw [if_pos hj] at hv
 obtain ⟨b, h1, hb, hv⟩ := HM.run_bind_some hv
 obtain ⟨rfl, hg⟩ := liveBlk_some hb
 by_cases hs : b.sz = sz
 case neg => rw [if_neg hs] at hv; simp [HM.run] at hv
 rw [if_pos hs] at hv
 obtain ⟨rfl, rfl⟩ := HM.run_ret_some hv
 refine ⟨rfl, ?_⟩
 obtain ⟨a, rfl, hver, ha⟩ := hx.ptr_inv
 obtain ⟨e, inf, t1, t2, t3⟩ := ht
 obtain ⟨loc, ca, ty, lo, hi', hl, B⟩ := H.live hg
 have hs2 : loc.sz = sz := by rw [B.sz, hs]
 have ha' := ha loc hl
 refine ⟨.pointer (some (a.add (j.toNat * sz))), ?_, .ptr _ _ _ _ _ hver (fun loc' hl' => ?_)⟩
 ·unfold Instr.indexAt
  simp only [asIntOf, Sem.run_bind, Sem.run_pure, Result.andThen_ok, run_und t1, Instr.sureAddr, if_pos hj, run_size t2, t3]
 ·rw [hl] at hl'
  simp only [Option.some.injEq] at hl'
  subst hl'
  rw [ha', hs2]
  simp [Addr.add]
theorem sliceArr_ok {n sz : Nat} {x v : PV} {lo hi : Option PV} {c : Value} {clo chi : Option Value} {h' : Heap} (H : HR fid M h w) (hv : (sliceArrHM n sz x lo hi).run h = some (v, h')) (hx : VR fid M x c)
  (hlo : OVR fid M lo clo) (hhi : OVR fid M hi chi) {t : TypeId} (ht : ∃ e inf, P.underlying t = some (.array n e) ∧ P.info? e = some inf ∧ inf.size = sz) :
  h' = h ∧ ∃ u, (Instr.sliceAt t c clo chi none).run P w = .ok u w ∧ VR fid M v u := by
 unfold sliceArrHM at hv
 split at hv
 case h_2 => simp [HM.run] at hv
 rename_i r ver l hh e1 e2
 by_cases hc : l ≤ hh ∧ hh ≤ n
 case neg => rw [if_neg hc] at hv; simp [HM.run] at hv
 rw [if_pos hc] at hv
 obtain ⟨b, h1, hb, hv⟩ := HM.run_bind_some hv
 obtain ⟨rfl, hg⟩ := liveBlk_some hb
 by_cases hs : b.sz = sz ∧ b.es.length = n
 case neg => rw [if_neg hs] at hv; simp [HM.run] at hv
 rw [if_pos hs] at hv
 obtain ⟨rfl, rfl⟩ := HM.run_ret_some hv
 refine ⟨rfl, ?_⟩
 obtain ⟨a, rfl, hver, ha⟩ := hx.ptr_inv
 obtain ⟨e, inf, t1, t2, t3⟩ := ht
 obtain ⟨loc, ca, ty, lo', hi', hl, B⟩ := H.live hg
 have hs2 : loc.sz = sz := by rw [B.sz, hs.1]
 have ha' := ha loc hl
 have hb := run_sliceBounds (P := P) (w := w) (isS := false) (m := n) (cap := n) hlo hhi (OVR.none) e1 e2 rfl hc.1 hc.2
 refine ⟨.slice (some (if n = l then a else a.add (l * sz))) (hh - l) (n - l), ?_, .tok _ _ _ _ _ _ _ _ _ hver (by omega) (Nat.le_refl _) (by intro h; cases h) (fun loc' hl' => ?_)⟩
 ·unfold Instr.sliceAt
  simp only [Sem.run_bind, run_und t1, Result.andThen_ok, Instr.sureAddr, hb, run_size t2, t3, Sem.run_pure]
 ·rw [hl] at hl'
  simp only [Option.some.injEq] at hl'
  subst hl'
  refine ⟨hs2, ?_⟩
  by_cases hnl : n = l
  ·left; omega
  ·right
   rw [if_neg hnl, ha', hs2]
   have := B.fits
   rw [hs.2, hs.1, B.size] at this
   refine ⟨by simp [Addr.add], ?_⟩
   have e3 : l * sz + (n - l) * sz = n * sz := by rw [← Nat.add_mul]; congr 1; omega
   omega
theorem chunkEs_len (sz : Nat) : ∀ (es cs : List PV), (chunkEs sz es cs).length = es.length
 | [], _ => rfl
 | e :: es, cs => by simp [chunkEs, chunkEs_len sz es]
theorem chunkEs_get {sz : Nat} : ∀ {es cs : List PV} {k : Nat} {e' : PV}, (chunkEs sz es cs)[k]? = some e' → ∃ e, es[k]? = some e ∧ e' = e.withCells ((cs.drop (k * sz)).take sz)
 | [], cs, k, e', h => by simp [chunkEs] at h
 | e :: es, cs, 0, e', h => by
  simp only [chunkEs, List.getElem?_cons_zero, Option.some.injEq] at h
  exact ⟨e, rfl, by rw [← h]; simp⟩
 | e :: es, cs, k + 1, e', h => by
  simp only [chunkEs, List.getElem?_cons_succ] at h
  obtain ⟨e1, h1, h2⟩ := chunkEs_get h
  refine ⟨e1, by simpa using h1, ?_⟩
  rw [h2, List.drop_drop, Nat.succ_mul, Nat.add_comm]
theorem storeA_ok {t : TypeId} {m : Nat} (ht : szOk P t (some m) = true) {x y v : PV} {cx cy : Value} {h' : Heap} (hv : (storeAHM m x y).run h = some (v, h')) (H : HR fid M h w)
  (hx : VR fid M x cx) (hy : VR fid M y cy) : ∃ w' M', (Instr.storeAt t cx cy).run P w = .ok () w' ∧ Stp M w M' w' ∧ HR fid M' h' w' := by
 unfold storeAHM at hv
 split at hv
 case h_2 => simp [HM.run] at hv
 rename_i r ver
 obtain ⟨b, h1, hb, hv⟩ := HM.run_bind_some hv
 obtain ⟨rfl, hg⟩ := liveBlk_some hb
 by_cases hc : y.fits (some m) = true ∧ okCells y.cells = true ∧ m = b.es.length * b.sz ∧ 0 < b.sz ∧ b.ro = false
 case neg => rw [if_neg hc] at hv; simp [HM.run] at hv
 rw [if_pos hc] at hv
 obtain ⟨e0, he0, hv⟩ := run_set_some hv
 obtain ⟨_, rfl⟩ := HM.run_ret_some hv
 obtain ⟨c1, c2, c3, c5, c4⟩ := hc
 obtain ⟨loc, ca, ty, lo, hi, hl, B⟩ := H.live hg
 obtain ⟨a, rfl, _, ha⟩ := hx.ptr_inv
 have ha := ha loc hl
 subst ha
 obtain ⟨q1, q2, q3⟩ := VR.fits_cells c1 hy
 have hsz := B.sz
 have hfit := B.fits
 have hm : y.cells.length = m := by
  cases y <;> simp [PV.fits] at c1 <;> simpa [PV.cells] using c1
 have hbound : loc.base + 0 * loc.sz + 0 + cy.cells.size ≤ ca.size := by omega
 have hrun := storeVar_run (P := P) (w := w) ht (v := cy) q1 B.heap hbound B.free (by
  intro u hu
  obtain ⟨j, hj, rfl⟩ := List.mem_iff_getElem.1 hu
  simp only [Array.length_toList] at hj
  have hjy : y.cells[j]? = some y.cells[j] := List.getElem?_eq_getElem (by omega)
  obtain ⟨u', h3, h4⟩ := q3 j _ hjy
  rw [Array.getElem?_eq_getElem hj] at h3
  simp only [Option.some.injEq] at h3
  rw [Array.getElem_toList, h3]
  exact h4.isCell_one (okCells_get c2 hjy))
 obtain ⟨H', S'⟩ := H.write hg c4 (b' := ⟨b.sz, chunkEs b.sz b.es y.cells, false⟩) rfl hl B rfl (c' := splA ca (loc.base + 0 * loc.sz + 0) cy.cells.toList) (splA_size (by simpa using hbound))
  (by rw [chunkEs_len]; exact hfit) (by
   intro k e' hk
   obtain ⟨e, he, rfl⟩ := chunkEs_get hk
   obtain ⟨he1, he2⟩ := B.cells k e he
   have hkl : k < b.es.length := by
    rcases Nat.lt_or_ge k b.es.length with z | z
    ·exact z
    ·rw [List.getElem?_eq_none z] at he; cases he
   have hmul : (k + 1) * b.sz ≤ b.es.length * b.sz := Nat.mul_le_mul_right _ hkl
   rw [Nat.add_mul, Nat.one_mul] at hmul
   have hcl : ((y.cells.drop (k * b.sz)).take b.sz).length = b.sz := by simp; omega
   have hat : ∀ (j : Nat) (x : PV), ((y.cells.drop (k * b.sz)).take b.sz)[j]? = some x → j < b.sz ∧ y.cells[k * b.sz + j]? = some x := by
    intro j x hj
    rw [List.getElem?_take] at hj
    split at hj
    ·rename_i hjs
     rw [List.getElem?_drop] at hj
     exact ⟨hjs, hj⟩
    ·cases hj
   have hcell' : ∀ (j : Nat) (x : PV), ((y.cells.drop (k * b.sz)).take b.sz)[j]? = some x → x.isCell = true ∧ ∃ u, (splA ca (loc.base + 0 * loc.sz + 0) cy.cells.toList)[loc.base + k * b.sz + j]? = some u ∧ VR fid M x u := by
    intro j x hj
    obtain ⟨hjs, hjy⟩ := hat j x hj
    obtain ⟨u, h6, h7⟩ := q3 _ _ hjy
    refine ⟨okCells_get c2 hjy, u, ?_, h7⟩
    rw [splA_get (by simpa using hbound), if_pos (by simp; omega)]
    rw [Array.getElem?_toList, ← h6]; congr 1; omega
   have hcs : (e.withCells ((y.cells.drop (k * b.sz)).take b.sz)).cells = (y.cells.drop (k * b.sz)).take b.sz := by
    rcases withCells_cells (e := e) (cs := (y.cells.drop (k * b.sz)).take b.sz) (by omega) with h8 | ⟨x, h8, h9⟩
    ·exact h8
    ·rw [h9, h8]
     have := (hcell' 0 x (by rw [h8]; rfl)).1
     exact cells_one this
   rw [hcs]
   exact ⟨hcl, hcell'⟩)
 exact ⟨_, _, hrun, S', H'⟩
theorem storeAHM_junk {m : Nat} {x y v : PV} {h h' : Heap} (hv : (storeAHM m x y).run h = some (v, h')) : v = .junk := by
 unfold storeAHM at hv
 split at hv
 case h_2 => simp [HM.run] at hv
 obtain ⟨b, h1, hb, hv⟩ := HM.run_bind_some hv
 split at hv
 case isFalse => simp [HM.run] at hv
 obtain ⟨e0, he0, hv⟩ := run_set_some hv
 exact (HM.run_ret_some hv).1.symm
end
end Gv

namespace Gv
open Go

def fieldAny (P : Program) (s : TypeId) (k off : Nat) : Bool :=
 fieldOk P s k off none || (match P.underlying s with
  | some (.struct fs) => match fs[k]? with
   | some f => match P.info? f.type with | some i => fieldOk P s k off (some i.size) | none => false
   | none => false
  | _ => false)
theorem fieldAny_inv {P : Program} {s : TypeId} {k off : Nat} (h : fieldAny P s k off = true) : ∃ sz, fieldOk P s k off sz = true := by
 unfold fieldAny at h
 simp only [Bool.or_eq_true] at h
 rcases h with h | h
 ·exact ⟨_, h⟩
 ·split at h
  ·split at h
   ·split at h
    ·exact ⟨_, h⟩
    ·cases h
   ·cases h
  ·cases h
def isSliceOf (P : Program) (t : TypeId) (sz : Nat) : Bool :=
 match P.underlying t with
 | some (.slice e) => match P.info? e with | some i => i.size == sz | none => false
 | _ => false
theorem isSliceOf_inv {P : Program} {t : TypeId} {sz : Nat} (h : isSliceOf P t sz = true) : ∃ e i, P.underlying t = some (.slice e) ∧ P.info? e = some i ∧ i.size = sz := by
 unfold isSliceOf at h
 split at h
 ·rename_i e hu
  split at h
  ·rename_i i hi; exact ⟨e, i, hu, hi, by simpa using h⟩
  ·cases h
 ·cases h
def isArrOf (P : Program) (t : TypeId) (n sz : Nat) : Bool :=
 match P.underlying t with
 | some (.array m e) => m == n && (match P.info? e with | some i => i.size == sz | none => false)
 | _ => false
theorem isArrOf_inv {P : Program} {t : TypeId} {n sz : Nat} (h : isArrOf P t n sz = true) : ∃ e i, P.underlying t = some (.array n e) ∧ P.info? e = some i ∧ i.size = sz := by
 unfold isArrOf at h
 split at h
 ·rename_i m e hu
  simp only [Bool.and_eq_true, beq_iff_eq] at h
  obtain ⟨rfl, h⟩ := h
  split at h
  ·rename_i i hi; exact ⟨e, i, hu, hi, by simpa using h⟩
  ·cases h
 ·cases h
def isString (P : Program) (t : TypeId) : Bool := match P.underlying t with | some .string => true | _ => false
theorem isString_inv {P : Program} {t : TypeId} (h : isString P t = true) : P.underlying t = some .string := by
 unfold isString at h; split at h
 ·assumption
 ·cases h
def isBytes (P : Program) (t : TypeId) : Bool := match P.underlying t with | some (.slice e) => (match P.underlying e with | some (.int .u8) => true | _ => false) | _ => false
theorem isBytes_inv {P : Program} {t : TypeId} (h : isBytes P t = true) : ∃ e, P.underlying t = some (.slice e) ∧ P.underlying e = some (.int .u8) := by
 unfold isBytes at h; split at h
 ·rename_i e hu
  split at h
  ·rename_i he; exact ⟨e, hu, he⟩
  ·cases h
 ·cases h
def isInt (P : Program) (t : TypeId) (k : IntKind) : Bool := match P.underlying t with | some (.int k') => k' == k | _ => false
theorem isInt_inv {P : Program} {t : TypeId} {k : IntKind} (h : isInt P t k = true) : P.underlying t = some (.int k) := by
 unfold isInt at h; split at h
 ·rename_i k' hu; simp only [beq_iff_eq] at h; subst h; exact hu
 ·cases h
def appTy (P : Program) (t t2 : TypeId) (sz : Nat) : Bool :=
 match P.underlying t with
 | some (.slice e) => match P.info? e with
  | some i => match i.zero with
   | some z => i.size == sz && z.cells.size == sz && i.bytes != 0 && decide (i.bytes ≤ 32768) && decide (0 < sz) && (match P.underlying t2 with | some (.slice _) => true | some .string => true | _ => false)
   | none => false
  | none => false
 | _ => false
theorem appTy_inv {P : Program} {t t2 : TypeId} {sz : Nat} (h : appTy P t t2 sz = true) : ∃ e i z d2, AppTy P t t2 sz e i z d2 := by
 unfold appTy at h
 split at h
 case h_2 => cases h
 rename_i e hu
 split at h
 case h_2 => cases h
 rename_i i hi
 split at h
 case h_2 => cases h
 rename_i z hz
 simp only [Bool.and_eq_true, beq_iff_eq, bne_iff_ne, decide_eq_true_eq] at h
 obtain ⟨⟨⟨⟨⟨h1, h2⟩, h3⟩, h4⟩, h5⟩, h6⟩ := h
 split at h6
 ·rename_i e2 hu2; exact ⟨e, i, z, _, ⟨hu, hu2, fun k => by simp, hi, hz, h1, h2, h3, h4, h5⟩⟩
 ·rename_i hu2; exact ⟨e, i, z, _, ⟨hu, hu2, fun k => by simp, hi, hz, h1, h2, h3, h4, h5⟩⟩
 ·cases h6
def chkParts (fid : Nat → FuncId) (pl : Nat → Option (Nat × Nat)) : List (Nat × Option Nat × PO) → List (Nat × Operand) → Bool
 | [], [] => true
 | (off, sz, x) :: ps, (i, y) :: qs => (pl i == some (off, szN sz)) && chkPO fid x y && chkParts fid pl ps qs
 | _, _ => false
def inOrder : Nat → List (Nat × Operand) → Bool
 | _, [] => true
 | k, (i, _) :: qs => i == k && inOrder (k + 1) qs
def isEq (neg : Bool) : BinOp → Bool
 | .eql => !neg
 | .neq => neg
 | _ => false
def chkOp (P : Program) (fid : Nat → FuncId) (o : Oper) (op : IOp) : Bool :=
 match op with
 | .mov x => match o.op with
  | .move y => chkPO fid x y
  | .assign y => chkPO fid x y
  | _ => false
 | .pick c a b => match o.op with | .pick c' a' b' => chkPO fid c c' && chkPO fid a a' && chkPO fid b b' | _ => false
 | .box _sz x _s => match o.op with
  | .box _t y => chkPO fid x y
  | .alloc t => match x with | .c z => zeroOk P t z | _ => false
  | _ => false
 | .boxA n z _s => match o.op with | .alloc t => zeroOk P t (.agg (arrC n z.cells)) | _ => false
 | .build z ps => match o.op with
  | .build t qs => zeroOk P t (.agg z) && (match places P t with | some pl => chkParts fid pl ps qs.toList | none => false)
  | _ => false
 | .buildSlice sz xs _s => match o.op with
  | .buildSlice t n qs => n == qs.size && inOrder 0 qs.toList && chkL fid xs (qs.toList.map (·.2)) && decide (n * szN sz ≤ 16777216) && (match P.underlying t with
   | some (.slice e) => szOk P e sz && (match P.info? e with | some i => i.zero.isSome | none => false)
   | _ => false)
  | _ => false
 | .load sz x => match o.op with | .load t y => szOk P t sz && chkPO fid x y | _ => false
 | .storeA m x y => match o.op with | .store t p q => szOk P t (some m) && chkPO fid x p && chkPO fid y q | _ => false
 | .store sz x y => match o.op with | .store t p q => szOk P t sz && chkPO fid x p && chkPO fid y q | _ => false
 | .nilchk x => match o.op with | .nilCheck y => chkPO fid x y | _ => false
 | .bin op x y => match o.op with | .binOp op' _t p q _ => op == op' && chkPO fid x p && chkPO fid y q | _ => false
 | .eqs neg ks x y => match o.op with
  | .binOp op' t p q _ => isEq neg op' && chkPO fid x p && chkPO fid y q && flatT P 20 t ks && !P.eqGuardType P.depth t && (match P.underlying t with | some (.struct _) => true | _ => false)
  | _ => false
 | .eqb neg x y => match o.op with | .binOp op' t p q _ => isEq neg op' && chkPO fid x p && chkPO fid y q && (match P.underlying t with | some .bool => true | _ => false) | _ => false
 | .eqn k neg x y => match o.op with | .binOp op' t p q _ => isEq neg op' && chkPO fid x p && chkPO fid y q && nilKind P t k | _ => false
 | .un op x => match o.op with | .unOp op' _ y => op == op' && chkPO fid x y | _ => false
 | .toInt k x => match o.op with | .convert src dst y => (P.underlying src).isSome && isInt P dst k && chkPO fid x y | _ => false
 | .b2s x => match o.op with | .convert src dst y => isBytes P src && isString P dst && chkPO fid x y | _ => false
 | .slice sz x lo hi mx => match o.op with
  | .slice t y l h m => (if sz = 0 then isString P t else isSliceOf P t sz) && chkPO fid x y && chkO fid lo l && chkO fid hi h && chkO fid mx m
  | _ => false
 | .fieldAddr x off => match o.op with | .fieldAddr s y k => fieldAny P s k off && chkPO fid x y | _ => false
 | .field sz x off => match o.op with | .field s y k => fieldOk P s k off sz && chkPO fid x y | _ => false
 | .indexAddr sz x i => match o.op with | .indexAddr t y j => isSliceOf P t sz && decide (0 < sz) && chkPO fid x y && chkPO fid i j | _ => false
 | .idxArr n sz x i => match o.op with | .indexAddr t y j => isArrOf P t n sz && chkPO fid x y && chkPO fid i j | _ => false
 | .idxArrB n sz x i => match o.op with | .indexAddr t y j => isArrOf P t n sz && chkPO fid x y && chkPO fid i j | _ => false
 | .sliceArr n sz x lo hi => match o.op with | .slice t y l h none => isArrOf P t n sz && chkPO fid x y && chkO fid lo l && chkO fid hi h | _ => false
 | .extract x i => match o.op with | .extract y j => i == j && chkPO fid x y | _ => false
 | .mkfn f cs => match o.op with | .makeFunc (.func g) a b => fid f == g && a.size == 0 && chkL fid cs b.toList | _ => false
 | .mkslice sz z n _s => match o.op with
  | .makeSlice t l c => chkPO fid n l && chkPO fid n c && (match P.underlying t with
   | some (.slice e) => zeroOk P e z && (match P.info? e with | some i => i.size == sz && decide (i.bytes ≤ 32768) | none => false)
   | _ => false)
  | _ => false
 | .call f xs _s => match o.op with
  | .call c => (match c.callee with | .value (.func g) => fid f == g | _ => false) && chkL fid xs c.args.toList
  | _ => false
 | .callD f xs _s _n => match o.op with
  | .call c => (match c.callee with | .value (.func g) => fid f == g | _ => false) && chkL fid xs c.args.toList
  | _ => false
 | .callv g xs _s => match o.op with
  | .call c => (match c.callee with | .value y => chkPO fid g y | _ => false) && chkL fid xs c.args.toList
  | _ => false
 | .append sz x y _s => match o.op with
  | .call c => (match c.callee with | .builtin .append => true | _ => false) && (match c.argTypes.toList, c.args.toList with
   | [t, t2], [p, q] => appTy P t t2 sz && chkPO fid x p && chkPO fid y q
   | _, _ => false)
  | _ => false
 | .same x => match o.op with | .convert src dst y => src == dst && isBytes P src && chkPO fid x y | _ => false
 | .len x => match o.op with
  | .call c => (match c.callee with | .builtin .len => true | _ => false) && (match c.argTypes.toList, c.args.toList with
   | [t], [p] => (match P.underlying t with | some (.slice _) => true | _ => false) && chkPO fid x p
   | _, _ => false)
  | _ => false
 | .lenS x => match o.op with
  | .call c => (match c.callee with | .builtin .len => true | _ => false) && (match c.argTypes.toList, c.args.toList with
   | [t], [p] => isString P t && chkPO fid x p
   | _, _ => false)
  | _ => false
 | .copy sz x y => match o.op with
  | .call c => (match c.callee with | .builtin .copy => true | _ => false) && (match c.argTypes.toList, c.args.toList with
   | [t, _t2], [p, q] => isSliceOf P t sz && chkPO fid x p && chkPO fid y q
   | _, _ => false)
  | _ => false
 | .clear z x => match o.op with
  | .call c => (match c.callee with | .builtin .clear => true | _ => false) && (match c.argTypes.toList, c.args.toList with
   | [t], [p] => (match P.underlying t with | some (.slice e) => zeroOk P e z | _ => false) && chkPO fid x p
   | _, _ => false)
  | _ => false
 | .mm b xs => match o.op with
  | .call c => (match c.callee with | .builtin .max => b | .builtin .min => !b | _ => false) && chkL fid xs c.args.toList
  | _ => false
 | .sidx x i => match o.op with | .index t y j => isString P t && chkPO fid x y && chkPO fid i j | _ => false
 | .bad => true
 | _ => false

def Enters (P : Program) (g : FuncId) : Prop := ∃ fn c, P.funcs[g]? = some fn ∧ (fn.name == "runtime.NumGoroutine") = false ∧ fn.body = some c

section
variable {fid : Nat → FuncId} {P : Program} {M : Mp} {w : World} {h : Heap} {fr : List PV} {a : Act}

def OpR (fid : Nat → FuncId) (P : Program) (M : Mp) (w : World) (a : Act) (o : Oper) (v : PV) (h' : Heap) : Prop :=
 ∀ (K : Act → World → Prop) (Q : Exit → Act → World → Prop), (∀ c w' M', Stp M w M' w' → HR fid M' h' w' → VR fid M' v c → K (a.put o.dst c) w') → o.wp P a w K Q

theorem OpR.val {o : Oper} {s : Sem Value} {v : PV} {h' : Heap} (he : execOp a.eval o = (do pure (.value (← s)))) (hs : OkR fid P M w s v h') : OpR fid P M w a o v h' := by
 intro K Q hK
 obtain ⟨c, w', M', h1, h2, h3, h4⟩ := hs
 unfold Oper.wp
 rw [he, Sem.run_bind, h1]
 exact hK c w' M' h2 h3 h4
theorem OpR.val' {o : Oper} {s : Sem Value} {v : PV} (he : execOp a.eval o = (do pure (.value (← s)))) (H : HR fid M h w) (hs : ∃ u, s.run P w = .ok u w ∧ VR fid M v u) : OpR fid P M w a o v h := by
 obtain ⟨u, h1, h2⟩ := hs
 exact OpR.val he (OkR.pure H h1 h2)
theorem OpR.pure {o : Oper} {v : PV} {c : Value} (he : execOp a.eval o = Pure.pure (.value c)) (H : HR fid M h w) (hv : VR fid M v c) : OpR fid P M w a o v h := by
 intro K Q hK
 unfold Oper.wp
 rw [he]
 exact hK c w M (.refl _ _) H hv
theorem OpR.unit {o : Oper} {s : Sem Unit} {v : PV} {h' : Heap} (he : execOp a.eval o = (do s; Pure.pure .skip)) (hs : ∃ w' M', s.run P w = .ok () w' ∧ Stp M w M' w' ∧ HR fid M' h' w') (hv : v = .junk) : OpR fid P M w a o v h' := by
 intro K Q hK
 obtain ⟨w', M', h1, h2, h3⟩ := hs
 unfold Oper.wp
 rw [he, Sem.run_bind, h1]
 subst hv
 exact hK undef w' M' h2 h3 (.junk _)
theorem storeHM_junk {sz : Option Nat} {x y v : PV} {h' : Heap} (hv : (storeHM sz x y).run h = some (v, h')) : v = .junk := by
 unfold storeHM at hv
 split at hv
 ·obtain ⟨b, h1, hb, hv⟩ := HM.run_bind_some hv
  split at hv
  ·split at hv
   ·obtain ⟨e0, he0, hv⟩ := run_set_some hv
    obtain ⟨rfl, rfl⟩ := HM.run_ret_some hv; rfl
   ·simp [HM.run] at hv
  ·simp [HM.run] at hv
 ·simp [HM.run] at hv

theorem enter_ok {C : CallF} (hC : CallOk P fid C) (hE : ∀ f args G r, C f args G = some r → Enters P (fid f)) {ro : List Bool} {f : Nat} {args0 : List PV} {s : Nat} {v : PV} {h' : Heap} {cargs : Array Value} {o : Oper}
  (hv : (callHM C ro f args0 s).run h = some (v, h')) (H : HR fid M h w) (hl : args0.length = cargs.size) (ha : ∀ (i : Nat) (e : PV) (u : Value), args0[i]? = some e → cargs[i]? = some u → VR fid M e u)
  (he : ∀ fn c, P.funcs[fid f]? = some fn → (fn.name == "runtime.NumGoroutine") = false → fn.body = some c → (execOp a.eval o).run P w = .ok (.enter (fid f) cargs) w) : OpR fid P M w a o v h' := by
 have hc := call_ok hC hv H hl ha
 have hsome : ∃ args G r, C f args G = some r := by
  unfold callHM at hv
  obtain ⟨args, h1, hro, hv2⟩ := HM.run_bind_some hv
  obtain ⟨bor, h2, hcol, hv3⟩ := HM.run_bind_some hv2
  split at hv3
  ·simp [HM.run] at hv3
  ·split at hv3
   ·simp [HM.run] at hv3
   ·rename_i r G hcf; exact ⟨_, _, _, hcf⟩
 obtain ⟨args, G, r, hcf⟩ := hsome
 obtain ⟨fn, c, g1, g2, g3⟩ := hE f args G r hcf
 intro K Q hK
 unfold Oper.wp
 rw [he fn c g1 g2 g3]
 refine Calls.mono hc ?_
 rintro e w' ⟨c, M', rfl, S, H', V⟩
 exact hK c w' M' S H' V
theorem run_enter {f : FuncId} {fn : Func} {c : Code} (hf : P.funcs[f]? = some fn) (hname : (fn.name == "runtime.NumGoroutine") = false) (hb : fn.body = some c) (args : Array Value) (w : World) :
  (callFunc f args).run P w = .ok (.enter f args) w := by
 have h1 : fn.name ≠ "runtime.NumGoroutine" := by simpa using hname
 simp [callFunc, hf, h1, hb]
end
end Gv

namespace Gv
open Go

section
variable {fid : Nat → FuncId} {P : Program} {M : Mp} {w : World} {h : Heap} {fr : List PV} {a : Act}

theorem parts_ok {pl : Nat → Option (Nat × Nat)} : ∀ {ps : List (Nat × Option Nat × PO)} {qs : List (Nat × Operand)}, chkParts fid pl ps qs = true → FrR fid M fr a.tmps →
  PartsR fid M pl (evParts (PO.ev fr) ps) (qs.map fun q => (q.1, a.eval q.2))
 | [], [], _, _ => .nil
 | [], _ :: _, h, _ => by simp [chkParts] at h
 | _ :: _, [], h, _ => by simp [chkParts] at h
 | (off, sz, x) :: ps, (i, y) :: qs, h, F => by
  simp only [chkParts, Bool.and_eq_true, beq_iff_eq] at h
  exact .cons _ _ _ _ _ _ _ (chkPO_ok h.1.2 F) h.1.1 (parts_ok h.2 F)
theorem inOrder_ok : ∀ {k : Nat} {qs : List (Nat × Operand)}, inOrder k qs = true → (qs.map fun q => (q.1, a.eval q.2)) = ((qs.map fun q => a.eval q.2).zipIdx k).map fun p => (p.2, p.1)
 | k, [], _ => rfl
 | k, (i, y) :: qs, h => by
  simp only [inOrder, Bool.and_eq_true, beq_iff_eq] at h
  simp only [List.map_cons, List.zipIdx_cons]
  rw [inOrder_ok h.2, h.1]
theorem freeAt_run {α : Type} {k : Nat → HM α} {v : α} {h' : Heap} : ∀ (n : Nat) {s : Nat}, (freeAt k s n).run h = some (v, h') → ∃ s', (k s').run h = some (v, h')
 | 0, s, hv => ⟨s, hv⟩
 | n + 1, s, hv => by
  simp only [freeAt, HM.run] at hv
  cases hg : h.get (.l s) with
  | none => rw [hg] at hv; cases hv
  | some e =>
   rw [hg] at hv
   simp only at hv
   split at hv
   ·exact ⟨s, hv⟩
   ·exact freeAt_run n hv
theorem isEq_eq {neg : Bool} {op : BinOp} (h : isEq neg op = true) : op = if neg then .neq else .eql := by
 cases op <;> cases neg <;> simp [isEq] at h <;> rfl

theorem op_ok {C : CallF} (hC : CallOk P fid C) (hE : ∀ f args G r, C f args G = some r → Enters P (fid f)) {RO : Nat → List Bool} {o : Oper} {op : IOp} {v : PV} {h' : Heap} (hc : chkOp P fid o op = true)
  (hv : (sem RO C (PO.ev fr) op).run h = some (v, h')) (H : HR fid M h w) (F : FrR fid M fr a.tmps) : OpR fid P M w a o v h' := by
 cases op with
 | mov x =>
  obtain ⟨rfl, rfl⟩ := HM.run_ret_some hv
  simp only [chkOp] at hc
  split at hc
  ·rename_i y ho; exact OpR.pure (by simp [execOp, ho]) H (chkPO_ok hc F)
  ·rename_i y ho; exact OpR.pure (by simp [execOp, ho]) H (chkPO_ok hc F)
  ·cases hc
 | pick c x y =>
  simp only [chkOp] at hc
  split at hc
  case h_2 => cases hc
  rename_i c' x' y' ho
  simp only [Bool.and_eq_true] at hc
  obtain ⟨rfl, t, h1, h2⟩ := pick_ok (P := P) hv (chkPO_ok hc.1.1 F) (chkPO_ok hc.1.2 F) (chkPO_ok hc.2 F)
  intro K Q hK
  unfold Oper.wp
  have : (execOp a.eval o).run P w = .ok (.value (if t then a.eval x' else a.eval y')) w := by
   simp only [execOp, ho, Sem.run_bind, h1, Result.andThen_ok, Sem.run_pure]
  rw [this]
  exact hK _ w M (.refl _ _) H h2
 | box sz x s =>
  simp only [chkOp] at hc
  split at hc
  ·rename_i t y ho
   exact OpR.val (s := Instr.box t (a.eval y)) (by simp only [execOp, ho]) (box_ok H hv (chkPO_ok hc F))
  ·rename_i t ho
   split at hc
   ·rename_i z
    exact OpR.val (by simp only [execOp, ho]) (alloc_ok H hv hc)
   ·cases hc
  ·cases hc
 | boxA n z s =>
  simp only [chkOp] at hc
  split at hc
  case h_2 => cases hc
  rename_i t ho
  exact OpR.val (by simp only [execOp, ho]) (boxA_ok H hv hc)
 | build z ps =>
  simp only [chkOp] at hc
  split at hc
  case h_2 => cases hc
  rename_i t qs ho
  simp only [Bool.and_eq_true] at hc
  obtain ⟨h1, h2⟩ := hc
  split at h2
  case h_2 => cases h2
  rename_i pl hpl
  obtain ⟨rfl, hb⟩ := build_ok (P := P) (w := w) hv h1 hpl (parts_ok h2 F)
  refine OpR.val' (s := Instr.build t (qs.map fun (i, x) => (i, a.eval x))) (by simp only [execOp, ho]) H ?_
  have e1 : (List.map (fun q : Nat × Operand => (q.1, a.eval q.2)) qs.toList).toArray = qs.map fun (i, x) => (i, a.eval x) := by
   apply Array.ext'; simp
  rw [e1] at hb; exact hb
 | buildSlice sz xs s =>
  simp only [chkOp] at hc
  split at hc
  case h_2 => cases hc
  rename_i t n qs ho
  simp only [Bool.and_eq_true, beq_iff_eq, decide_eq_true_eq] at hc
  obtain ⟨⟨⟨⟨h1, h2⟩, h3⟩, h4⟩, h5⟩ := hc
  split at h5
  case h_2 => cases h5
  rename_i e hu
  simp only [Bool.and_eq_true] at h5
  obtain ⟨h5, h6⟩ := h5
  split at h6
  case h_2 => cases h6
  rename_i i hi
  cases hz : i.zero with
  | none => rw [hz] at h6; cases h6
  | some zv =>
   obtain ⟨g1, g2⟩ := chkL_ok h3 F
   have hl : (List.map a.eval (qs.toList.map (·.2))).length = n := by rw [List.length_map, List.length_map, Array.length_toList]; exact h1.symm
   have hb := buildSlice_ok (P := P) (cs := (qs.toList.map (·.2)).map a.eval) H hv hu h5 hi hz (by rw [List.length_map]; exact g1) g2 (by rw [hl]; exact h4)
   rw [hl] at hb
   refine OpR.val (s := Instr.buildSlice t n (qs.map fun (i, x) => (i, a.eval x))) (by simp only [execOp, ho]) ?_
   have e1 : (((qs.toList.map (·.2)).map a.eval).zipIdx.map fun p => (p.2, p.1)).toArray = qs.map fun (i, x) => (i, a.eval x) := by
    have := inOrder_ok (a := a) h2
    rw [List.map_map]
    apply Array.ext'
    simp only [Array.toList_map]
    exact this.symm
   rw [e1] at hb; exact hb
 | load sz x =>
  simp only [chkOp] at hc
  split at hc
  case h_2 => cases hc
  rename_i t y ho
  simp only [Bool.and_eq_true] at hc
  obtain ⟨rfl, ad, h1, u, h2, h3⟩ := loadHM_ok hc.1 hv (chkPO_ok hc.2 F) H
  exact OpR.val' (s := Instr.loadAt t (a.eval y)) (by simp only [execOp, ho]) H ⟨u, by rw [h1]; simp only [Instr.loadAt, Instr.sureAddr, Sem.run_bind, Sem.run_pure, Result.andThen_ok]; exact h2, h3⟩
 | storeA m x y =>
  simp only [chkOp] at hc
  split at hc
  case h_2 => cases hc
  rename_i t p q ho
  simp only [Bool.and_eq_true] at hc
  exact OpR.unit (by simp only [execOp, ho]) (storeA_ok hc.1.1 hv H (chkPO_ok hc.1.2 F) (chkPO_ok hc.2 F)) (storeAHM_junk hv)
 | store sz x y =>
  simp only [chkOp] at hc
  split at hc
  case h_2 => cases hc
  rename_i t p q ho
  simp only [Bool.and_eq_true] at hc
  exact OpR.unit (by simp only [execOp, ho]) (store_ok hc.1.1 hv H (chkPO_ok hc.1.2 F) (chkPO_ok hc.2 F)) (storeHM_junk hv)
 | nilchk x =>
  simp only [chkOp] at hc
  split at hc
  case h_2 => cases hc
  rename_i y ho
  have hy := chkPO_ok hc F
  obtain ⟨rfl, rfl, hk⟩ := nilchk_ok hv hy
  refine OpR.pure (c := a.eval y) ?_ H hy
  rcases hk with ⟨ad, hk⟩ | ⟨f, vs, hk⟩ <;> simp only [execOp, ho, hk]
 | bin op x y =>
  simp only [chkOp] at hc
  split at hc
  case h_2 => cases hc
  rename_i op' t p q ty ho
  simp only [Bool.and_eq_true, beq_iff_eq] at hc
  obtain ⟨⟨rfl, h1⟩, h2⟩ := hc
  obtain ⟨hb, rfl⟩ := HM.run_ofO_some hv
  exact OpR.val' (by simp only [execOp, ho]) H (bin_ok hb (chkPO_ok h1 F) (chkPO_ok h2 F) t p q)
 | eqs neg ks x y =>
  simp only [chkOp] at hc
  split at hc
  case h_2 => cases hc
  rename_i op' t p q ty ho
  simp only [Bool.and_eq_true, Bool.not_eq_true'] at hc
  obtain ⟨⟨⟨⟨⟨h0, h1⟩, h2⟩, h3⟩, h4⟩, h5⟩ := hc
  split at h5
  case h_2 => cases h5
  rename_i fs hu
  have := isEq_eq h0; subst this
  obtain ⟨rfl, hb⟩ := eqs_ok (P := P) (w := w) hv (chkPO_ok h1 F) (chkPO_ok h2 F) hu h3 h4 p q
  exact OpR.val' (by simp only [execOp, ho]) H hb
 | eqb neg x y =>
  simp only [chkOp] at hc
  split at hc
  case h_2 => cases hc
  rename_i op' t p q ty ho
  simp only [Bool.and_eq_true] at hc
  obtain ⟨⟨⟨h0, h1⟩, h2⟩, h5⟩ := hc
  split at h5
  case h_2 => cases h5
  rename_i hu
  have := isEq_eq h0; subst this
  obtain ⟨hb, rfl⟩ := HM.run_ofO_some hv
  exact OpR.val' (by simp only [execOp, ho]) H (eqb_ok hb (chkPO_ok h1 F) (chkPO_ok h2 F) hu p q)
 | eqn k neg x y =>
  simp only [chkOp] at hc
  split at hc
  case h_2 => cases hc
  rename_i op' t p q ty ho
  simp only [Bool.and_eq_true] at hc
  obtain ⟨⟨⟨h0, h1⟩, h2⟩, h5⟩ := hc
  have := isEq_eq h0; subst this
  obtain ⟨hb, rfl⟩ := HM.run_ofO_some hv
  exact OpR.val' (by simp only [execOp, ho]) H (eqn_ok hb (chkPO_ok h1 F) (chkPO_ok h2 F) h5 p q)
 | un op x =>
  simp only [chkOp] at hc
  split at hc
  case h_2 => cases hc
  rename_i op' ty y ho
  simp only [Bool.and_eq_true, beq_iff_eq] at hc
  obtain ⟨rfl, h1⟩ := hc
  obtain ⟨hb, rfl⟩ := HM.run_ofO_some hv
  exact OpR.val' (by simp only [execOp, ho]) H (un_ok hb (chkPO_ok h1 F))
 | toInt k x =>
  simp only [chkOp] at hc
  split at hc
  case h_2 => cases hc
  rename_i src dst y ho
  simp only [Bool.and_eq_true, Option.isSome_iff_exists] at hc
  obtain ⟨⟨⟨d, h1⟩, h2⟩, h3⟩ := hc
  obtain ⟨rfl, hb⟩ := toInt_ok (P := P) (w := w) hv (chkPO_ok h3 F) h1 (isInt_inv h2)
  exact OpR.val' (by simp only [execOp, ho]) H hb
 | b2s x =>
  simp only [chkOp] at hc
  split at hc
  case h_2 => cases hc
  rename_i src dst y ho
  simp only [Bool.and_eq_true] at hc
  obtain ⟨e, h1, h2⟩ := isBytes_inv hc.1.1
  obtain ⟨rfl, hb⟩ := b2s_ok hv H (chkPO_ok hc.2 F) h1 h2 (isString_inv hc.1.2)
  exact OpR.val' (by simp only [execOp, ho]) H hb
 | s2b x s => simp [chkOp] at hc
 | slice sz x lo hi mx =>
  simp only [chkOp] at hc
  split at hc
  case h_2 => cases hc
  rename_i t y l hh m ho
  simp only [Bool.and_eq_true] at hc
  obtain ⟨⟨⟨⟨h1, h2⟩, h3⟩, h4⟩, h5⟩ := hc
  obtain ⟨hb, rfl⟩ := HM.run_ofO_some hv
  unfold slice2PV at hb
  split at hb
  case isFalse => cases hb
  rename_i hst
  have hx := chkPO_ok h2 F
  refine OpR.val' (s := Instr.sliceAt t (a.eval y) (l.map a.eval) (hh.map a.eval) (m.map a.eval)) (by simp only [execOp, ho]) H ?_
  by_cases hsz : sz = 0
  ·rw [if_pos hsz] at h1
   have hs := isString_inv h1
   subst hsz
   have hst' : (PO.ev fr x).isStr = true := by rw [hst]; rfl
   refine slice_ok hb hx (chkO_ok h3 F) (chkO_ok h4 F) (chkO_ok h5 F) (.inr hs) (fun _ _ => hs) (fun hn => ?_)
   exfalso
   cases hxx : PO.ev fr x <;> first | (rw [hxx] at hst'; cases hst'; done) | exact hn _ hxx
  ·rw [if_neg hsz] at h1
   obtain ⟨e, i, g1, g2, g3⟩ := isSliceOf_inv h1
   have hst' : (PO.ev fr x).isStr = false := by rw [hst]; simpa using hsz
   refine slice_ok hb hx (chkO_ok h3 F) (chkO_ok h4 F) (chkO_ok h5 F) (.inl ⟨e, i, g1, g2, g3⟩) (fun s hs => ?_) (fun _ => by rw [g1]; simp)
   rw [hs] at hst'; cases hst'
 | fieldAddr x off =>
  simp only [chkOp] at hc
  split at hc
  case h_2 => cases hc
  rename_i s y k ho
  simp only [Bool.and_eq_true] at hc
  obtain ⟨sz, h1⟩ := fieldAny_inv hc.1
  obtain ⟨hb, rfl⟩ := HM.run_ofO_some hv
  exact OpR.val' (by simp only [execOp, ho]) H (fieldAddr_ok hb (chkPO_ok hc.2 F) h1)
 | field sz x off =>
  simp only [chkOp] at hc
  split at hc
  case h_2 => cases hc
  rename_i s y k ho
  simp only [Bool.and_eq_true] at hc
  obtain ⟨rfl, hb⟩ := field_ok (P := P) (w := w) hv (chkPO_ok hc.2 F) hc.1
  exact OpR.val' (by simp only [execOp, ho]) H hb
 | indexAddr sz x i =>
  simp only [chkOp] at hc
  split at hc
  case h_2 => cases hc
  rename_i t y j ho
  simp only [Bool.and_eq_true, decide_eq_true_eq] at hc
  obtain ⟨⟨⟨h1, h2⟩, h3⟩, h4⟩ := hc
  obtain ⟨hb, rfl⟩ := HM.run_ofO_some hv
  exact OpR.val' (by simp only [execOp, ho]) H (indexAddr_ok hb (chkPO_ok h3 F) (chkPO_ok h4 F) (isSliceOf_inv h1) h2)
 | idxArr n sz x i =>
  simp only [chkOp] at hc
  split at hc
  case h_2 => cases hc
  rename_i t y j ho
  simp only [Bool.and_eq_true] at hc
  obtain ⟨⟨h1, h3⟩, h4⟩ := hc
  obtain ⟨hb, rfl⟩ := HM.run_ofO_some hv
  exact OpR.val' (by simp only [execOp, ho]) H (idxArr_ok hb (chkPO_ok h3 F) (chkPO_ok h4 F) (isArrOf_inv h1))
 | idxArrB n sz x i =>
  simp only [chkOp] at hc
  split at hc
  case h_2 => cases hc
  rename_i t y j ho
  simp only [Bool.and_eq_true] at hc
  obtain ⟨⟨h1, h3⟩, h4⟩ := hc
  obtain ⟨rfl, hb⟩ := idxArrB_ok (P := P) (w := w) H hv (chkPO_ok h3 F) (chkPO_ok h4 F) (isArrOf_inv h1)
  exact OpR.val' (by simp only [execOp, ho]) H hb
 | sliceArr n sz x lo hi =>
  simp only [chkOp] at hc
  split at hc
  case h_2 => cases hc
  rename_i t y l hh ho
  simp only [Bool.and_eq_true] at hc
  obtain ⟨⟨⟨h1, h2⟩, h3⟩, h4⟩ := hc
  obtain ⟨rfl, hb⟩ := sliceArr_ok (P := P) (w := w) H hv (chkPO_ok h2 F) (chkO_ok h3 F) (chkO_ok h4 F) (isArrOf_inv h1)
  exact OpR.val' (s := Instr.sliceAt t (a.eval y) (l.map a.eval) (hh.map a.eval) none) (by simp only [execOp, ho, Option.map_none]) H hb
 | extract x i =>
  simp only [chkOp] at hc
  split at hc
  case h_2 => cases hc
  rename_i y j ho
  simp only [Bool.and_eq_true, beq_iff_eq] at hc
  obtain ⟨rfl, h1⟩ := hc
  obtain ⟨rfl, hb⟩ := extract_ok (P := P) (w := w) hv (chkPO_ok h1 F)
  exact OpR.val' (by simp only [execOp, ho]) H hb
 | mkfn f cs =>
  simp only [chkOp] at hc
  split at hc
  case h_2 => cases hc
  rename_i g p q ho
  simp only [Bool.and_eq_true, beq_iff_eq] at hc
  obtain ⟨⟨rfl, h1⟩, h2⟩ := hc
  obtain ⟨rfl, rfl⟩ := HM.run_ret_some hv
  obtain ⟨g1, g2⟩ := chkL_ok h2 F
  have hp : p = #[] := Array.eq_empty_of_size_eq_zero h1
  subst hp
  refine OpR.val' (s := Instr.makeFunc (.func (fid f)) #[] (q.map a.eval)) (by simp only [execOp, ho]; simp) H ⟨_, rfl, ?_⟩
  refine .fn f _ (q.map a.eval) (by rw [g1]; simp) (fun i e u hi hu => g2 i e u hi ?_)
  rw [← hu]; simp [List.getElem?_map, Array.getElem?_map]
 | mkslice sz z n s =>
  simp only [chkOp] at hc
  split at hc
  case h_2 => cases hc
  rename_i t l c ho
  simp only [Bool.and_eq_true] at hc
  obtain ⟨⟨h1, h2⟩, h3⟩ := hc
  split at h3
  case h_2 => cases h3
  rename_i e hu
  simp only [Bool.and_eq_true] at h3
  obtain ⟨h3, h4⟩ := h3
  split at h4
  case h_2 => cases h4
  rename_i i hi
  simp only [Bool.and_eq_true, beq_iff_eq, decide_eq_true_eq] at h4
  obtain ⟨i', zv, k1, k2, k3⟩ := zeroOk_inv (fid := fid) h3
  rw [hi] at k1; cases k1
  have hn := chkPO_ok h1 F
  have hn2 := chkPO_ok h2 F
  have heq : a.eval l = a.eval c := by
   have hint : ∃ k z, PO.ev fr n = .int k z := by
    simp only [sem] at hv
    unfold mksliceHM at hv
    split at hv
    ·rename_i k z hz; exact ⟨k, z, hz⟩
    ·simp [HM.run] at hv
   obtain ⟨k, z, hz⟩ := hint
   rw [hz] at hn hn2
   rw [hn.int_inv, hn2.int_inv]
  have hb := mkslice_ok (P := P) H hv hn hu hi k2 h4.1 h4.2 k3
  refine OpR.val (s := Instr.makeSlice t (a.eval l) (a.eval c)) (by simp only [execOp, ho]) ?_
  rw [← heq]; exact hb
 | call f xs s =>
  simp only [chkOp] at hc
  split at hc
  case h_2 => cases hc
  rename_i c ho
  simp only [Bool.and_eq_true] at hc
  obtain ⟨h1, h2⟩ := hc
  split at h1
  case h_2 => cases h1
  rename_i g hg
  simp only [beq_iff_eq] at h1
  subst h1
  obtain ⟨g1, g2⟩ := chkL_ok h2 F
  refine enter_ok (cargs := c.args.map a.eval) hC hE hv H (by rw [g1]; simp) (fun i e u hi hu => g2 i e u hi (by rw [← hu]; simp [List.getElem?_map, Array.getElem?_map])) (fun fn cd k1 k2 k3 => ?_)
  have := run_enter (P := P) k1 k2 k3 (c.args.map a.eval) w
  simp only [execOp, ho, resolve, hg, Act.eval, Deferred.ofValue, Sem.run_bind, Sem.run_pure, Result.andThen_ok, invoke]
  rw [← this]
  congr 2; simp
 | callD f xs s n =>
  simp only [chkOp] at hc
  split at hc
  case h_2 => cases hc
  rename_i c ho
  simp only [Bool.and_eq_true] at hc
  obtain ⟨h1, h2⟩ := hc
  split at h1
  case h_2 => cases h1
  rename_i g hg
  simp only [beq_iff_eq] at h1
  subst h1
  obtain ⟨g1, g2⟩ := chkL_ok h2 F
  obtain ⟨s', hv'⟩ := freeAt_run n (s := s) hv
  refine enter_ok (cargs := c.args.map a.eval) hC hE hv' H (by rw [g1]; simp) (fun i e u hi hu => g2 i e u hi (by rw [← hu]; simp [List.getElem?_map, Array.getElem?_map])) (fun fn cd k1 k2 k3 => ?_)
  have := run_enter (P := P) k1 k2 k3 (c.args.map a.eval) w
  simp only [execOp, ho, resolve, hg, Act.eval, Deferred.ofValue, Sem.run_bind, Sem.run_pure, Result.andThen_ok, invoke]
  rw [← this]
  congr 2; simp
 | callv g xs s =>
  simp only [chkOp] at hc
  split at hc
  case h_2 => cases hc
  rename_i c ho
  simp only [Bool.and_eq_true] at hc
  obtain ⟨h1, h2⟩ := hc
  split at h1
  case h_2 => cases h1
  rename_i y hg
  obtain ⟨g1, g2⟩ := chkL_ok h2 F
  simp only [sem] at hv
  unfold callvHM at hv
  split at hv
  case h_2 => simp [HM.run] at hv
  rename_i f caps hfn
  have hy := chkPO_ok h1 F
  rw [hfn] at hy
  obtain ⟨vs, hvs, q1, q2⟩ := hy.fn_inv
  have hsz : (evL (PO.ev fr) xs).length = (c.args.map a.eval).size := by rw [g1]; simp
  refine enter_ok (cargs := c.args.map a.eval ++ vs) hC hE hv H (by rw [List.length_append, Array.size_append, hsz, q1]) (fun i e u hi hu => ?_) (fun fn cd k1 k2 k3 => ?_)
  ·rcases Nat.lt_or_ge i (evL (PO.ev fr) xs).length with z | z
   ·rw [List.getElem?_append_left z] at hi
    rw [Array.getElem?_append_left (by rw [← hsz]; exact z)] at hu
    exact g2 i e u hi (by rw [← hu]; simp [List.getElem?_map, Array.getElem?_map])
   ·rw [List.getElem?_append_right z] at hi
    rw [Array.getElem?_append_right (by rw [← hsz]; exact z), ← hsz] at hu
    exact q2 _ e u hi hu
  ·have := run_enter (P := P) k1 k2 k3 (c.args.map a.eval ++ vs) w
   simp only [execOp, ho, resolve, hg, hvs, Deferred.ofValue, Sem.run_bind, Sem.run_pure, Result.andThen_ok, invoke]
   rw [← this]
   congr 2; simp
 | append sz x y s =>
  simp only [chkOp] at hc
  split at hc
  case h_2 => cases hc
  rename_i c ho
  simp only [Bool.and_eq_true] at hc
  obtain ⟨h1, h2⟩ := hc
  split at h1
  case h_2 => cases h1
  rename_i hg
  split at h2
  case h_2 => cases h2
  rename_i t t2 p q hat har
  simp only [Bool.and_eq_true] at h2
  obtain ⟨⟨h2, h3⟩, h4⟩ := h2
  obtain ⟨e, i, z, d2, T⟩ := appTy_inv h2
  refine OpR.val (s := Builtin.append_ #[t, t2] o.type #[a.eval p, a.eval q]) ?_ (append_ok T H hv (chkPO_ok h3 F) (chkPO_ok h4 F))
  have e1 : c.argTypes = #[t, t2] := by rw [← Array.toArray_toList (xs := c.argTypes), hat]
  have e2 : c.args = #[p, q] := by rw [← Array.toArray_toList (xs := c.args), har]
  have e3 : Array.map a.eval #[p, q] = #[a.eval p, a.eval q] := by simp
  simp only [execOp, ho, resolve, hg, e1, e2, e3, invoke, builtin, pure_bind]
 | copy sz x y =>
  simp only [chkOp] at hc
  split at hc
  case h_2 => cases hc
  rename_i c ho
  simp only [Bool.and_eq_true] at hc
  obtain ⟨h1, h2⟩ := hc
  split at h1
  case h_2 => cases h1
  rename_i hg
  split at h2
  case h_2 => cases h2
  rename_i t t2 p q hat har
  simp only [Bool.and_eq_true] at h2
  obtain ⟨⟨h2, h3⟩, h4⟩ := h2
  obtain ⟨e, i, g1, g2, g3⟩ := isSliceOf_inv h2
  refine OpR.val (s := Builtin.copy_ #[t, t2] o.type #[a.eval p, a.eval q]) ?_ (copy_ok g1 g2 g3 H hv (chkPO_ok h3 F) (chkPO_ok h4 F))
  have e1 : c.argTypes = #[t, t2] := by rw [← Array.toArray_toList (xs := c.argTypes), hat]
  have e2 : c.args = #[p, q] := by rw [← Array.toArray_toList (xs := c.args), har]
  have e3 : Array.map a.eval #[p, q] = #[a.eval p, a.eval q] := by simp
  simp only [execOp, ho, resolve, hg, e1, e2, e3, invoke, builtin, pure_bind]
 | clear z x =>
  simp only [chkOp] at hc
  split at hc
  case h_2 => cases hc
  rename_i c ho
  simp only [Bool.and_eq_true] at hc
  obtain ⟨h1, h2⟩ := hc
  split at h1
  case h_2 => cases h1
  rename_i hg
  split at h2
  case h_2 => cases h2
  rename_i t p hat har
  simp only [Bool.and_eq_true] at h2
  obtain ⟨h2, h3⟩ := h2
  split at h2
  case h_2 => cases h2
  rename_i e hu
  obtain ⟨i, zv, k1, k2, k3⟩ := zeroOk_inv (fid := fid) h2
  refine OpR.val (s := Builtin.clear_ #[t] o.type #[a.eval p]) ?_ (clear_ok hu k1 k2 k3 H hv (chkPO_ok h3 F))
  have e1 : c.argTypes = #[t] := by rw [← Array.toArray_toList (xs := c.argTypes), hat]
  have e2 : c.args = #[p] := by rw [← Array.toArray_toList (xs := c.args), har]
  have e3 : Array.map a.eval #[p] = #[a.eval p] := by simp
  simp only [execOp, ho, resolve, hg, e1, e2, e3, invoke, builtin, pure_bind]
 | len x =>
  simp only [chkOp] at hc
  split at hc
  case h_2 => cases hc
  rename_i c ho
  simp only [Bool.and_eq_true] at hc
  obtain ⟨h1, h2⟩ := hc
  split at h1
  case h_2 => cases h1
  rename_i hg
  split at h2
  case h_2 => cases h2
  rename_i t p hat har
  simp only [Bool.and_eq_true] at h2
  obtain ⟨h2, h3⟩ := h2
  split at h2
  case h_2 => cases h2
  rename_i e hu
  obtain ⟨hb, rfl⟩ := HM.run_ofO_some hv
  refine OpR.val' (s := Builtin.len_ #[t] o.type #[a.eval p]) ?_ H (len_ok hb (chkPO_ok h3 F) hu)
  have e1 : c.argTypes = #[t] := by rw [← Array.toArray_toList (xs := c.argTypes), hat]
  have e2 : c.args = #[p] := by rw [← Array.toArray_toList (xs := c.args), har]
  have e3 : Array.map a.eval #[p] = #[a.eval p] := by simp
  simp only [execOp, ho, resolve, hg, e1, e2, e3, invoke, builtin, pure_bind]
 | lenS x =>
  simp only [chkOp] at hc
  split at hc
  case h_2 => cases hc
  rename_i c ho
  simp only [Bool.and_eq_true] at hc
  obtain ⟨h1, h2⟩ := hc
  split at h1
  case h_2 => cases h1
  rename_i hg
  split at h2
  case h_2 => cases h2
  rename_i t p hat har
  simp only [Bool.and_eq_true] at h2
  obtain ⟨h2, h3⟩ := h2
  obtain ⟨hb, rfl⟩ := HM.run_ofO_some hv
  refine OpR.val' (s := Builtin.len_ #[t] o.type #[a.eval p]) ?_ H (lenS_ok hb (chkPO_ok h3 F) (isString_inv h2))
  have e1 : c.argTypes = #[t] := by rw [← Array.toArray_toList (xs := c.argTypes), hat]
  have e2 : c.args = #[p] := by rw [← Array.toArray_toList (xs := c.args), har]
  have e3 : Array.map a.eval #[p] = #[a.eval p] := by simp
  simp only [execOp, ho, resolve, hg, e1, e2, e3, invoke, builtin, pure_bind]
 | mm b xs =>
  simp only [chkOp] at hc
  split at hc
  case h_2 => cases hc
  rename_i c ho
  simp only [Bool.and_eq_true] at hc
  obtain ⟨h1, h2⟩ := hc
  obtain ⟨g1, g2⟩ := chkL_ok h2 F
  simp only [sem] at hv
  cases hxs : evL (PO.ev fr) xs with
  | nil => rw [hxs] at hv; simp [mmHM, HM.run] at hv
  | cons y ys =>
   rw [hxs] at hv g1 g2
   simp only [mmHM] at hv
   obtain ⟨hb, rfl⟩ := HM.run_ofO_some hv
   cases hargs : c.args.toList with
   | nil => rw [hargs] at g1; simp at g1
   | cons p ps =>
    rw [hargs] at g1 g2
    obtain ⟨u, e1, e2⟩ := mmL_ok (P := P) (w := w) ys (ps.map a.eval) hb (g2 0 y _ rfl rfl) (by simpa using g1) (fun i e u hi hu => g2 (i + 1) e u (by simpa using hi) (by simpa using hu))
    have hl : (c.args.map a.eval).toList = a.eval p :: ps.map a.eval := by rw [Array.toList_map, hargs]; rfl
    split at h1
    ·rename_i hg
     subst h1
     refine OpR.val' (s := Builtin.max_ c.argTypes o.type (c.args.map a.eval)) ?_ H ⟨u, by unfold Builtin.max_; rw [hl]; exact e1, e2⟩
     simp only [execOp, ho, resolve, hg, invoke, builtin, pure_bind]
    ·rename_i hg
     have hbf : b = false := by simpa using h1
     subst hbf
     refine OpR.val' (s := Builtin.min_ c.argTypes o.type (c.args.map a.eval)) ?_ H ⟨u, by unfold Builtin.min_; rw [hl]; exact e1, e2⟩
     simp only [execOp, ho, resolve, hg, invoke, builtin, pure_bind]
    ·cases h1
 | sidx x i =>
  simp only [chkOp] at hc
  split at hc
  case h_2 => cases hc
  rename_i t y j ho
  simp only [Bool.and_eq_true] at hc
  obtain ⟨hb, rfl⟩ := HM.run_ofO_some hv
  exact OpR.val' (by simp only [execOp, ho]) H (sidx_ok hb (chkPO_ok hc.1.2 F) (chkPO_ok hc.2 F) (isString_inv hc.1.1))
 | same x =>
  simp only [chkOp] at hc
  split at hc
  case h_2 => cases hc
  rename_i src dst y ho
  simp only [Bool.and_eq_true, beq_iff_eq] at hc
  obtain ⟨⟨rfl, h1⟩, h2⟩ := hc
  obtain ⟨e, g1, g2⟩ := isBytes_inv h1
  exact OpR.val (by simp only [execOp, ho]) (same_ok hv H (chkPO_ok h2 F) g1 g2)
 | bad => simp [sem, HM.run] at hv
end
end Gv
