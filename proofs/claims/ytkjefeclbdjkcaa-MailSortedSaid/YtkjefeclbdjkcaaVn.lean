/- What this file proves: one part of the proof that the law answers true for every input, by an interpreter that is proved sound against the given model. -/
import Derived.Test.YtkjefeclbdjkcaaVc
import Derived.Lib.AppendZerosOnto
import Derived.KernelRfl
namespace Gv
open Go
theorem wp_copy_runI {P : Program} (w : World) {o : Oper} {a : Act} {K : Act → World → Prop} {Q : Exit → Act → World → Prop} (d s : Operand) (t t' : TypeId)
  (ho : o.op = .call { callee := .builtin .copy, args := #[d, s], argTypes := #[t, t'] }) (v u : Value) (hd : a.eval d = v) (hs : a.eval s = u) {v' : Value} {w' : World}
  (hr : (Builtin.copy_ #[t, t'] o.type #[v, u]).run P w = .ok v' w') (h : K (a.put o.dst v') w') : o.wp P a w K Q := by
 unfold Oper.wp execOp
 simp only [ho, resolve, invoke, builtin, Sem.run_bind, Sem.run_pure, Result.andThen_ok, List.map_toArray, List.map_cons, List.map_nil, hd, hs, hr]
 exact h
theorem step_copy_runI {P : Program} {ops : Array Oper} {o : Oper} {a : Act} {w : World} {K : Act → World → Prop} {Q : Exit → Act → World → Prop} {E : Prop}
  (hg : o.guard = none) (d x : Operand) (dT sT : TypeId) (hop : o.op = Op.call { callee := Callee.builtin Builtin.copy, args := #[d, x], argTypes := #[dT, sT] })
  (v u : Value) (hd : a.eval d = v) (hx : a.eval x = u) {v' : Value} {w' : World} (hr : (Builtin.copy_ #[dT, sT] o.type #[v, u]).run P w = .ok v' w') (hK : K (a.put o.dst v') w') :
  if Region.wanted o (yielded ops a.tmps) = true then Oper.wp P o a w K Q else E := by
 have hw : Region.wanted o (yielded ops a.tmps) = true := by simp [Region.wanted, hg]
 rw [if_pos hw]
 exact wp_copy_runI w d x dT sT hop v u hd hx hr hK

def InsRoom (P : Program) (f ov : FuncId) (T : TypeId) : Prop :=
 ∀ (b off n c i vb voff m vc : Nat) (w w1 w2 : World), i < n → 0 < m → n + m ≤ c → c ≤ 9223372036854775807 →
  (∀ lb cb, (callFunc ov #[.slice (some ⟨vb, voff, none⟩) m vc, .slice (some ⟨b, off + (i + m) * 6, none⟩) lb cb]).run P w = .ok (.value (.bool false)) w) →
  (∀ ty dc sc, (Builtin.copy_ #[T, T] ty #[.slice (some ⟨b, off + (i + m) * 6, none⟩) (n + m - (i + m)) dc, .slice (some ⟨b, off + i * 6, none⟩) (n + m - i) sc]).run P w.drew = .ok (goInt (n - i)) w1) →
  (∀ ty dc, (Builtin.copy_ #[T, T] ty #[.slice (some ⟨b, off + i * 6, none⟩) (n + m - i) dc, .slice (some ⟨vb, voff, none⟩) m vc]).run P w1 = .ok (goInt m) w2) →
  Calls P f #[.slice (some ⟨b, off, none⟩) n c, .int .i64 i, .slice (some ⟨vb, voff, none⟩) m vc] w fun e w' => e = .returned (.slice (some ⟨b, off, none⟩) (n + m) c) ∧ w' = w2
def InsGrow (P : Program) (f : FuncId) (T I : TypeId) : Prop :=
 ∀ (b off n c i vb voff m vc N G : Nat) (w w1 w2 w3 : World), i < n → 0 < m → n ≤ c → c < n + m → n + m < 2147483648 → n + m ≤ G → G ≤ 9223372036854775807 →
  (∀ ty, (Builtin.append_ #[T, I] ty #[.slice (some ⟨b, off, none⟩) i c, .int .i64 ((n : Int) + (m : Int) - (i : Int))]).run P w = .ok (.slice (some ⟨N, 0, none⟩) (n + m) G) w1) →
  (∀ ty dc, (Builtin.copy_ #[T, T] ty #[.slice (some ⟨N, i * 6, none⟩) (n + m - i) dc, .slice (some ⟨vb, voff, none⟩) m vc]).run P w1 = .ok (goInt m) w2) →
  (∀ ty dc sc, (Builtin.copy_ #[T, T] ty #[.slice (some ⟨N, (i + m) * 6, none⟩) (n + m - (i + m)) dc, .slice (some ⟨b, off + i * 6, none⟩) (n - i) sc]).run P w2.drew = .ok (goInt (n - i)) w3) →
  Calls P f #[.slice (some ⟨b, off, none⟩) n c, .int .i64 i, .slice (some ⟨vb, voff, none⟩) m vc] w fun e w' => e = .returned (.slice (some ⟨N, 0, none⟩) (n + m) G) ∧ w' = w3
end Gv

namespace Gv
open Go
section
variable {fid : Nat → FuncId} {P : Program} {M : Mp} {w : World} {h : Heap}
theorem HR.slots {A : List (Option Blk)} (H : HR fid M ⟨A, []⟩ w) (hcv : ∀ r, M.cv r = 0) (n : Nat) : HR fid M ⟨A, List.replicate n ⟨0, none⟩⟩ w := by
 have hgl : ∀ s e, (⟨A, List.replicate n ⟨0, none⟩⟩ : Heap).get (.l s) = some e → e = ⟨0, none⟩ := by
  intro s e he
  simp only [Heap.get, List.getElem?_replicate] at he
  split at he
  ·simpa using he.symm
  ·cases he
 refine ⟨fun r e he => ?_, fun r e v he hn => ?_, fun r e he hb => ?_, fun r v he => ?_, fun r e b loc he hb hl => ?_, H.inj, H.rd⟩
 ·cases r with
  | a i => exact H.cv (.a i) e he
  | l s => rw [hgl s e he]; exact hcv _
  | dead => simp [Heap.get] at he
 ·cases r with
  | a i => exact H.dom (.a i) e v he hn
  | l s => exact absurd (H.out (.l s) v rfl) hn
  | dead => simp [Heap.get] at he
 ·cases r with
  | a i => exact H.has (.a i) e he hb
  | l s => rw [hgl s e he] at hb; exact absurd rfl hb
  | dead => simp [Heap.get] at he
 ·cases r with
  | a i => exact H.out (.a i) v he
  | l s => exact H.out (.l s) v rfl
  | dead => exact H.out .dead v rfl
 ·cases r with
  | a i => exact H.blk (.a i) e b loc he hb hl
  | l s => rw [hgl s e he] at hb; cases hb
  | dead => simp [Heap.get] at he
theorem HR.world {w' : World} (H : HR fid M h w) (h1 : ∀ r v loc, M.io r v = some loc → w'.heap[loc.b]? = w.heap[loc.b]?) (h2 : ∀ b, M.rd b ≠ none → w'.heap[b]? = w.heap[b]?) : HR fid M h w' :=
 ⟨H.cv, H.dom, H.has, H.out, fun r e b loc a1 a2 a3 => by
  obtain ⟨c, t, lo, hi, B⟩ := H.blk r e b loc a1 a2 a3
  exact ⟨c, t, lo, hi, ⟨by rw [h1 _ _ _ a3]; exact B.heap, B.sz, B.size, B.free, B.lohi, B.fits, B.ro, B.rw_, B.cells⟩⟩, H.inj, fun b vs hb => by
  obtain ⟨t, fz, hh⟩ := H.rd b vs hb
  exact ⟨t, fz, by rw [h2 b (by rw [hb]; simp)]; exact hh⟩⟩
theorem map_ren_id {new : List (Ref × Nat × Blk)} : ∀ {bs : List (Option Blk)}, (∀ b, some b ∈ bs → plL b.es = true) → bs.map (Option.map (Blk.ren (finRen new))) = bs
 | [], _ => rfl
 | none :: bs, h => by rw [List.map_cons, map_ren_id fun b hb => h b (List.mem_cons_of_mem _ hb)]; rfl
 | some b :: bs, h => by
  rw [List.map_cons, map_ren_id fun b hb => h b (List.mem_cons_of_mem _ hb)]
  simp only [Option.map_some, Blk.ren, (plL_ren (h b (List.mem_cons_self ..)) _).1]
theorem ins_fin {M0 M2 : Mp} {w0 : World} {h2 : Heap} {bs : List (Option Blk)} {m v sz n room : Nat} {nb : Blk} {c : Value} (H2 : HR fid M2 h2 w) (S : Stp M0 w0 M2 w) (hbl : bs.length = m) (hbs : ∀ (k : Nat) (b : Option Blk), bs[k]? = some b → h2.get (.a k) = some ⟨0, b⟩)
  (hl : h2.get (.l 0) = some ⟨v, some nb⟩) (hp : plL nb.es = true) (hps : ∀ b, some b ∈ bs → plL b.es = true) (V : VR fid M2 (.tok (.l 0) v sz 0 n room false) c) :
  ∃ M', StpI M0 w0 M' w ∧ HR fid M' ⟨(bs ++ [some nb]).take m, ((bs ++ [some nb]).drop m).map fun b => ⟨0, b⟩⟩ w ∧ VR fid M' (.tok (.l 0) 0 sz 0 n room false) c ∧ ∀ i, M'.io (.a i) 0 = M0.io (.a i) 0 ∨ M'.io (.a i) 0 = none := by
 have e1 : (bs ++ [some nb]).take m = bs := List.take_left' hbl
 have e2 : ((bs ++ [some nb]).drop m).map (fun b => (⟨0, b⟩ : Ent)) = [⟨0, some nb⟩] := by rw [List.drop_left' hbl]; rfl
 have H3 := fin_ok (m := m) (bs := bs) (new := [(.l 0, v, nb)]) H2 hbl hbs (fun x hx => by simp only [List.mem_singleton] at hx; subst hx; exact hl) (List.pairwise_singleton ..) (fun x hx => by simp only [List.mem_singleton] at hx; subst hx; exact ⟨0, rfl⟩)
 rw [map_ren_id hps] at H3
 have hnr : nb.ren (finRen [(.l 0, v, nb)]) = nb := by simp only [Blk.ren, (plL_ren hp _).1]
 simp only [List.map_cons, List.map_nil, hnr] at H3
 refine ⟨finM M2 m [(.l 0, v, nb)], ⟨S.rd, S.os, S.tape, S.output, S.size, S.frame, fun b hb => S.own b (fin_own hb), S.rdn⟩, by rw [e1, e2]; exact H3, ?_, fun i => ?_⟩
 ·have := V.ren (fin_ren (m := m) (new := [(.l 0, v, nb)]))
  simpa [ren, finRen, idxOf] using this
 ·by_cases hi : i < m
  ·have : (finM M2 m [(.l 0, v, nb)]).io (.a i) 0 = M2.io (.a i) 0 := by show (if i < m ∧ (0 : Nat) = 0 then M2.io (.a i) 0 else none) = _; rw [if_pos ⟨hi, rfl⟩]
   rw [this]; exact S.le.io (.a i) 0 (Nat.zero_le _)
  ·right; show (if i < m ∧ (0 : Nat) = 0 then M2.io (.a i) 0 else none) = none; rw [if_neg (fun q => hi q.1)]
theorem block_free {c : Array Value} {t : TypeId} {lo hi : Nat} {loc : Loc} {b : Blk} (B : BlkAt fid M w loc b c t lo hi) (hs : b.sz ≠ 1) {o : Nat} (ho : o ≤ c.size) : w.frozen? ⟨loc.b, o, none⟩ = false := by
 simp only [World.frozen?, B.heap]
 have h1 := B.lohi.2.1 hs
 rcases Nat.lt_or_ge o c.size with z | z
 ·have := B.free o z
  simp only [Bool.and_eq_false_iff, decide_eq_false_iff_not]
  omega
 ·simp only [Bool.and_eq_false_iff, decide_eq_false_iff_not]
  omega
theorem block_shape {c : Array Value} {t : TypeId} {lo hi : Nat} {loc : Loc} {b : Blk} (B : BlkAt fid M w loc b c t lo hi) : w.shape? loc.b = some (t, c.size) := by
 simp only [World.shape?, B.heap]
theorem firstCells_len (sz k : Nat) (a : Option Addr) (l l' cp cp' : Nat) : Builtin.firstCells sz k (.slice a l cp) = Builtin.firstCells sz k (.slice a l' cp') := by cases a <;> rfl
end
def insMid : List PV → List Blk → Option (PV × List (Option Blk))
 | [.tok (.a p) 0 sz off len room c0, .int .i64 i, .tok (.a q) 0 sz2 off2 m room2 c2], G =>
  match G[p]?, G[q]? with
  | some b, some c => if (p ≠ q ∧ b.ro = false ∧ b.sz = 6 ∧ c.sz = 6 ∧ sz = 6 ∧ sz2 = 6) ∧ (0 ≤ i ∧ i < len ∧ 0 < m ∧ off + len ≤ b.es.length ∧ off2 + m ≤ c.es.length ∧ len + m < maxNew) ∧ (G.all fun b => plL b.es) = true
    then some (.tok (.l 0) 0 6 0 (len + m) (len + m) false, (G.map some).set p none ++ [some ⟨6, ((b.es.drop off).take len).take i.toNat ++ (c.es.drop off2).take m ++ ((b.es.drop off).take len).drop i.toNat, false⟩]) else none
  | _, _ => none
 | _, _ => none
end Gv

namespace Gv
open Go
theorem cells_insert {fid : Nat → FuncId} {M : Mp} {c : Array Value} {base i sz : Nat} {W V : List PV} {n1 n2 : List Value} (hi : i ≤ W.length)
  (h0 : CellsAt fid M c base sz (W.take i)) (hn2 : NewsR fid M sz V n2) (hn1 : NewsR fid M sz (W.drop i) n1)
  (g2 : ∀ (k : Nat) (u : Value), n2[k]? = some u → c[base + i * sz + k]? = some u) (g1 : ∀ (k : Nat) (u : Value), n1[k]? = some u → c[base + (i + V.length) * sz + k]? = some u) :
  CellsAt fid M c base sz (W.take i ++ V ++ W.drop i) := by
 have hl : (W.take i).length = i := by rw [List.length_take]; omega
 have a := cells_append hn2 h0 (by rw [hl]; exact g2)
 exact cells_append hn1 a (by rw [List.length_append, hl]; exact g1)
theorem insMid_ok {P : Program} {fid : Nat → FuncId} {f : Nat} {g ov : FuncId} {T I e : TypeId} {inf : TypeInfo} {zv : Value} {kI : IntKind} (hg : fid f = g) (hu : P.underlying T = some (.slice e)) (huI : P.underlying I = some (.int kI)) (hi : P.info? e = some inf) (hz : inf.size = 6) (hzv : inf.zero = some zv)
  (hzs : zv.cells.size = 6) (hb0 : inf.bytes ≠ 0) (hbb : inf.bytes ≤ 32768) (hR : InsRoom P g ov T) (hG : InsGrow P g T I)
  (hov : ∀ (w : World) (a b : Addr) (la ca lb cb : Nat), a.block ≠ b.block → (∃ tA kA, w.shape? a.block = some (tA, kA) ∧ w.frozen? { block := a.block, off := kA } = false) → (∃ tB kB, w.shape? b.block = some (tB, kB) ∧ kB ≠ 0) → w.frozen? a = false →
   (callFunc ov #[.slice (some a) la ca, .slice (some b) lb cb]).run P w = .ok (.value (.bool false)) w) :
  CallOk P fid (fun k args G => if k = f then insMid args G else none) := by
 intro f' args G0 r G M w cargs hx H hcv hl ha
 simp only at hx
 split at hx
 case isFalse => cases hx
 rename_i hf
 subst hf
 rw [hg]
 unfold insMid at hx
 split at hx
 case h_2 => cases hx
 rename_i p sz off len room c0 i q sz2 off2 m room2 c2
 split at hx
 case h_2 => cases hx
 rename_i b c hb hc
 split at hx
 case isFalse => cases hx
 rename_i hcond
 obtain ⟨⟨hpq, hro, hbs, hcs, rfl, rfl⟩, ⟨hi0, hi1, hm0, hbl, hcl, hmax⟩, hpl⟩ := hcond
 simp only [Option.some.injEq, Prod.mk.injEq] at hx
 obtain ⟨rfl, rfl⟩ := hx
 obtain ⟨v0, v1, v2, rfl⟩ : ∃ v0 v1 v2, cargs = #[v0, v1, v2] := by
  obtain ⟨l⟩ := cargs
  match l, hl with
  | [a, b, c], _ => exact ⟨a, b, c, rfl⟩
 have V0 := ha 0 _ v0 rfl rfl
 have V1 := ha 1 _ v1 rfl rfl
 have V2 := ha 2 _ v2 rfl rfl
 have e1 := V1.int_inv
 subst e1
 obtain ⟨n, rfl⟩ : ∃ n : Nat, i = n := ⟨i.toNat, by omega⟩
 simp only [Int.toNat_natCast] at *
 have hi1 : n < len := by omega
 have hpb : plL b.es = true := List.all_eq_true.1 hpl b (List.mem_of_getElem? hb)
 have hpc : plL c.es = true := List.all_eq_true.1 hpl c (List.mem_of_getElem? hc)
 -- where they lie
 have Hs := H.slots hcv 1
 generalize hh0 : (⟨G0.map some, List.replicate 1 ⟨0, none⟩⟩ : Heap) = h0 at Hs
 have gp : h0.get (.a p) = some ⟨0, some b⟩ := by rw [← hh0]; simp [Heap.get, List.getElem?_map, hb]
 have gq : h0.get (.a q) = some ⟨0, some c⟩ := by rw [← hh0]; simp [Heap.get, List.getElem?_map, hc]
 have gl : h0.get (.l 0) = some ⟨0, none⟩ := by rw [← hh0]; rfl
 obtain ⟨a, cap, rfl, hv0, k2, k3, k4, k5⟩ := V0.tok_inv
 obtain ⟨a2, cap2, rfl, hv2, j2, j3, j4, j5⟩ := V2.tok_inv
 obtain ⟨loc, ca, ty, lo, hi', hlp, B⟩ := Hs.live gp
 obtain ⟨loc2, cb, ty2, lo2, hi2, hlq, B2⟩ := Hs.live gq
 obtain ⟨q1, q2⟩ := k5 loc hlp
 obtain ⟨q3, q4⟩ := j5 loc2 hlq
 rcases q2 with q2 | ⟨rfl, q2⟩
 ·omega
 rcases q4 with q4 | ⟨rfl, q4⟩
 ·omega
 have hne : loc2.b ≠ loc.b := fun e => hpq (by have := Hs.inj _ _ _ _ _ _ hlp hlq e.symm; cases this; rfl)
 have hszc := B.size
 have hbig := B.lohi.2.2
 rw [hbs] at hbig
 have hcap63 : cap ≤ 9223372036854775807 := by omega
 -- elements
 generalize hW : (b.es.drop off).take len = W
 generalize hV : (c.es.drop off2).take m = V
 have hWl : W.length = len := by rw [← hW]; simp; omega
 have hVl : V.length = m := by rw [← hV]; simp; omega
 have hWs : ∀ (k : Nat) (x : PV), W[k]? = some x → x.cells.length = 6 := fun k x hk => by
  rw [← hW, List.getElem?_take] at hk
  split at hk
  ·rw [List.getElem?_drop] at hk
   have := (B.cells _ x hk).1; rw [hbs] at this; exact this
  ·cases hk
 have hVs : ∀ (k : Nat) (x : PV), V[k]? = some x → x.cells.length = 6 := fun k x hk => by
  rw [← hV, List.getElem?_take] at hk
  split at hk
  ·rw [List.getElem?_drop] at hk
   have := (B2.cells _ x hk).1; rw [hcs] at this; exact this
  ·cases hk
 have hpW : plL W = true := by rw [← hW]; exact plL_take (plL_drop hpb _) _
 have hpV : plL V = true := by rw [← hV]; exact plL_take (plL_drop hpc _) _
 have hpN : plL (W.take n ++ V ++ W.drop n) = true := by rw [plL_app, plL_app, plL_take hpW, hpV, plL_drop hpW]; rfl
 have hpS : ∀ x, some x ∈ (G0.map some).set p none → plL x.es = true := fun x hx => by
  rcases List.mem_or_eq_of_mem_set hx with h | h
  ·obtain ⟨y, hy, e⟩ := List.mem_map.1 h
   cases e; exact List.all_eq_true.1 hpl _ hy
  ·cases h
 -- what is moved
 have VW : VR fid M (.tok (.a p) 0 6 (off + n) (len - n) (len - n) c0) (.slice (some ⟨loc.b, loc.base + off * 6 + n * 6, none⟩) (len - n) (cap - n)) := by
  refine .tok _ _ _ _ _ _ _ _ _ hv0 (Nat.le_refl _) (by omega) (fun hc => by have := k4 hc; omega) (fun loc' hl' => ?_)
  rw [hlp] at hl'; cases hl'
  exact ⟨q1, .inr ⟨by congr 1; omega, by omega⟩⟩
 have heW : (elems (.tok (.a p) 0 6 (off + n) (len - n) (len - n) c0)).run h0 = some (W.drop n, h0) := by
  simp only [elems]
  rw [if_neg (by omega)]
  rw [HM.run_bind, HM.runT_run (liveBlk_runT gp)]
  simp only
  rw [if_pos ⟨by omega, hbs⟩]
  simp only [HM.run, Option.some.injEq, Prod.mk.injEq, and_true]
  rw [← hW, List.drop_take, List.drop_drop]
 obtain ⟨_, SW⟩ := elems_ok heW Hs VW
 have hWds : ∀ (k : Nat) (x : PV), (W.drop n)[k]? = some x → x.cells.length = 6 := fun k x hk => hWs _ x (by rw [List.getElem?_drop] at hk; exact hk)
 have hWdl : (W.drop n).length = len - n := by rw [List.length_drop, hWl]
 obtain ⟨_, n1, f1, f2, f3, f4⟩ := firstCells_run (P := P) SW hWds (len - n) (by omega)
 have N1 : NewsR fid M 6 (W.drop n) n1 := ⟨by rw [hWdl]; exact f2, fun k x hk => ⟨hWds k x hk, fun j y hj => f4 k x j y (by rw [← hWdl]; exact getElem?_lt hk) hk hj⟩, f3⟩
 have heV : ∀ {h1 : Heap}, h1.get (.a q) = some ⟨0, some c⟩ → (elems (.tok (.a q) 0 6 off2 m room2 c2)).run h1 = some (V, h1) := fun {h1} g1 => by
  simp only [elems]
  rw [if_neg (by omega)]
  rw [HM.run_bind, HM.runT_run (liveBlk_runT g1)]
  simp only
  rw [if_pos ⟨by omega, hcs⟩]
  simp only [HM.run, hV]
 -- the old list is given up
 obtain ⟨M1, hM1, H1, S1, io1, self1⟩ : ∃ M1, M.at (.a p) 0 none M.rd = M1 ∧ HR fid M1 (h0.put (.a p) ⟨0, none⟩) w ∧ Stp M w M1 w ∧ (∀ r', r' ≠ .a p → M1.io r' = M.io r') ∧ (∀ v, M1.io (.a p) v = none) := by
  obtain ⟨q1, q2, q3, q4⟩ := Hs.drop gp
  exact ⟨_, rfl, q1, q2, q3, q4⟩
 have gq1 : (h0.put (.a p) ⟨0, none⟩).get (.a q) = some ⟨0, some c⟩ := by rw [Heap.get_put_other (by intro e; cases e; exact hpq rfl)]; exact gq
 have gl1 : (h0.put (.a p) ⟨0, none⟩).get (.l 0) = some ⟨0, none⟩ := by rw [Heap.get_put_other (by intro e; cases e)]; exact gl
 have hrd1 : M1.rd = M.rd := by rw [← hM1]; rfl
 have V2' := V2.mono S1.le
 have hbsl : ((G0.map some).set p none).length = G0.length := by simp
 have hplen : p < G0.length := getElem?_lt hb
 by_cases hroom : len + m ≤ cap
 ·-- there is room
  have hb2 : loc.base + off * 6 + (n + m) * 6 + n1.length ≤ ca.size := by rw [f2]; omega
  let w1 := setB w.drew loc.b (.cells (splA ca (loc.base + off * 6 + (n + m) * 6) n1) ty (lo, hi'))
  have hlt := B.lt
  have hw1 : w1.heap[loc.b]? = some (.cells (splA ca (loc.base + off * 6 + (n + m) * 6) n1) ty (lo, hi')) := setB_same hlt
  have hown : ∀ r v l3, M1.io r v = some l3 → l3.b ≠ loc.b := fun r v l3 h3 e3 => by
   by_cases hr : r = .a p
   ·subst hr; rw [self1] at h3; cases h3
   ·rw [io1 r hr] at h3; exact hr (Hs.inj _ _ _ _ _ _ h3 hlp e3)
  have hrdn : M.rd loc.b = none := B.rw_ hro
  have H1w : HR fid M1 (h0.put (.a p) ⟨0, none⟩) w1 := HR.world H1 (fun r v l3 h3 => setB_other (hown r v l3 h3)) (fun k hk => setB_other (by rintro rfl; rw [hrd1, hrdn] at hk; exact hk rfl))
  obtain ⟨_, SV⟩ := elems_ok (heV gq1) H1w V2'
  obtain ⟨hlV, n2, g1, g2, g3, g4⟩ := firstCells_run (P := P) SV hVs m (by omega)
  have N2 : NewsR fid M1 6 V n2 := ⟨by rw [hVl]; exact g2, fun k x hk => ⟨hVs k x hk, fun j y hj => g4 k x j y (by rw [← hVl]; exact getElem?_lt hk) hk hj⟩, g3⟩
  have hs1 : (splA ca (loc.base + off * 6 + (n + m) * 6) n1).size = ca.size := splA_size hb2
  have hb3 : loc.base + off * 6 + n * 6 + n2.length ≤ (splA ca (loc.base + off * 6 + (n + m) * 6) n1).size := by rw [g2, hs1]; omega
  let w2 := setB w1 loc.b (.cells (splA (splA ca (loc.base + off * 6 + (n + m) * 6) n1) (loc.base + off * 6 + n * 6) n2) ty (lo, hi'))
  have hw2 : w2.heap[loc.b]? = some (.cells (splA (splA ca (loc.base + off * 6 + (n + m) * 6) n1) (loc.base + off * 6 + n * 6) n2) ty (lo, hi')) := setB_same (by show loc.b < (w.drew.heap.setIfInBounds _ _).size; simpa using hlt)
  have c1 : ∀ ty' dc sc, (Builtin.copy_ #[T, T] ty' #[.slice (some ⟨loc.b, loc.base + off * 6 + (n + m) * 6, none⟩) (len + m - (n + m)) dc, .slice (some ⟨loc.b, loc.base + off * 6 + n * 6, none⟩) (len + m - n) sc]).run P w.drew = .ok (goInt (len - n)) w1 := fun ty' dc sc => by
   have hst := run_stores (P := P) loc.b (loc.base + off * 6 + (n + m) * 6) ty lo hi' n1 0 ca w.drew B.heap (by omega) B.free f3
   rw [Nat.add_zero] at hst
   have hmin : Nat.min (len + m - n) (len + m - (n + m)) = len - n := by simp only [Nat.min_def]; split <;> omega
   have := run_copyB (P := P) (w := w.drew) (t2 := T) (ty := ty') (base := some ⟨loc.b, loc.base + off * 6 + (n + m) * 6, none⟩) (dLen := len + m - (n + m)) (dCap := dc) (m := len + m - n) (src := .slice (some ⟨loc.b, loc.base + off * 6 + n * 6, none⟩) (len + m - n) sc) (news := n1) hu hi (fun w' => rfl) (by
    rw [hmin, hz, firstCells_len 6 _ _ _ (len - n) _ (cap - n)]; exact f1 _ rfl) hst
   rw [hmin] at this
   rw [this]; congr 2; omega
  have c2' : ∀ ty' dc, (Builtin.copy_ #[T, T] ty' #[.slice (some ⟨loc.b, loc.base + off * 6 + n * 6, none⟩) (len + m - n) dc, .slice (some ⟨loc2.b, loc2.base + off2 * 6, none⟩) m cap2]).run P w1 = .ok (goInt m) w2 := fun ty' dc => by
   have hst := run_stores (P := P) loc.b (loc.base + off * 6 + n * 6) ty lo hi' n2 0 _ w1 hw1 (by omega) (by rw [hs1]; exact B.free) g3
   rw [Nat.add_zero] at hst
   have hmin : Nat.min m (len + m - n) = m := by simp only [Nat.min_def]; split <;> omega
   have := run_copyB (P := P) (w := w1) (t2 := T) (ty := ty') (base := some ⟨loc.b, loc.base + off * 6 + n * 6, none⟩) (dLen := len + m - n) (dCap := dc) (m := m) (src := .slice (some ⟨loc2.b, loc2.base + off2 * 6, none⟩) m cap2) (news := n2) hu hi (fun w' => rfl) (by
    rw [hmin, hz]; exact g1 _ rfl) hst
   rw [hmin] at this
   exact this
  refine Calls.mono (hR loc.b (loc.base + off * 6) len cap n loc2.b (loc2.base + off2 * 6) m cap2 w w1 w2 hi1 hm0 hroom hcap63 (fun lb cb' => hov w _ _ _ _ _ _ hne ⟨ty2, cb.size, block_shape B2, block_free B2 (by omega) (Nat.le_refl _)⟩ ⟨ty, ca.size, block_shape B, by omega⟩ (block_free B2 (by omega) (by
   have := B2.size; omega))) c1 c2') ?_
  rintro ev w' ⟨rfl, rfl⟩
  have H1x : HR fid M1 (h0.put (.a p) ⟨0, none⟩) w2 := HR.world H1w (fun r v l3 h3 => setB_other (hown r v l3 h3)) (fun k hk => setB_other (by rintro rfl; rw [hrd1, hrdn] at hk; exact hk rfl))
  have hs2 : (splA (splA ca (loc.base + off * 6 + (n + m) * 6) n1) (loc.base + off * 6 + n * 6) n2).size = ca.size := by rw [splA_size hb3, hs1]
  obtain ⟨H2, le2, l2, cv2, io2, all2⟩ := H1x.take gl1 (loc := ⟨loc.b, loc.base + off * 6, 6, loc.size⟩) (b := ⟨6, W.take n ++ V ++ W.drop n, false⟩) (fun r v l3 hr h3 => hown r v l3 h3) (fun M' le hrd => by
   refine ⟨_, ty, lo, hi', ⟨hw2, rfl, by rw [hs2]; exact B.size, fun k hk => B.free k (by rw [hs2] at hk; exact hk), ⟨B.lohi.1, fun q => by rw [hs2]; exact B.lohi.2.1 (by omega), by rw [hs2]; exact hbig⟩, ?_, (fun q => by cases q), fun _ => by rw [hrd, hrd1]; exact hrdn, ?_⟩⟩
   ·show loc.base + off * 6 + (W.take n ++ V ++ W.drop n).length * 6 ≤ _
    rw [hs2]
    simp only [List.length_append, List.length_take, hWl, hVl, hWdl]
    omega
   ·refine cells_insert (by omega) ?_ (N2.mono le) ((N1.mono S1.le).mono le) (fun k u hk => ?_) (fun k u hk => ?_)
    ·intro k x hk
     have hkn : k < n := by
      have := getElem?_lt hk; rw [List.length_take] at this; omega
     have hkW : W[k]? = some x := by rw [List.getElem?_take, if_pos hkn] at hk; exact hk
     refine ⟨hWs k x hkW, fun j y hj => ?_⟩
     have hkb : b.es[off + k]? = some x := by
      rw [← hW, List.getElem?_take, if_pos (by omega), List.getElem?_drop] at hkW; exact hkW
     obtain ⟨z1, z2⟩ := B.cells _ x hkb
     obtain ⟨z3, u, z4, z5⟩ := z2 j y hj
     rw [hbs] at z1 z4
     have hj6 : j < 6 := by rw [← z1]; exact getElem?_lt hj
     refine ⟨z3, u, ?_, (z5.mono S1.le).mono le⟩
     show (splA (splA ca (loc.base + off * 6 + (n + m) * 6) n1) (loc.base + off * 6 + n * 6) n2)[loc.base + off * 6 + k * 6 + j]? = some u
     rw [splA_get hb3, if_neg (by omega), splA_get hb2, if_neg (by omega), ← z4]
     congr 1; omega
    ·have hk2 := getElem?_lt hk
     show (splA (splA ca (loc.base + off * 6 + (n + m) * 6) n1) (loc.base + off * 6 + n * 6) n2)[loc.base + off * 6 + n * 6 + k]? = some u
     rw [splA_get hb3, if_pos ⟨by omega, by omega⟩, ← hk]
     congr 1; omega
    ·have hk2 := getElem?_lt hk
     rw [hVl]
     show (splA (splA ca (loc.base + off * 6 + (n + m) * 6) n1) (loc.base + off * 6 + n * 6) n2)[loc.base + off * 6 + (n + m) * 6 + k]? = some u
     rw [splA_get hb3, if_neg (by rw [g2]; omega), splA_get hb2, if_pos ⟨by omega, by omega⟩, ← hk]
     congr 1; omega)
  have SS : Stp M w (M1.at (.l 0) 1 (some ⟨loc.b, loc.base + off * 6, 6, loc.size⟩) M1.rd) w2 := by
   refine ⟨⟨by show RdLe M.rd M1.rd; rw [hrd1]; exact .refl _, rfl, rfl, rfl, by show w.heap.size ≤ (((w.drew.heap.setIfInBounds _ _)).setIfInBounds _ _).size; simp, fun k hk hn => ?_, fun k hk => ?_, fun k hk => ?_⟩, S1.le.trans le2⟩
   ·have hkl : k ≠ loc.b := by rintro rfl; exact hn (own_of hlp)
    show (setB w1 loc.b _).heap[k]? = _
    rw [setB_other hkl]
    show (setB w.drew loc.b _).heap[k]? = _
    rw [setB_other hkl]; rfl
   ·obtain ⟨r, v, l3, h3, rfl⟩ := hk
    by_cases hr : r = .l 0
    ·subst hr; rw [all2 _ _ h3]; exact .inl ⟨_, _, loc, hlp, rfl⟩
    ·have h4 := (congrFun (io2 r hr) v).symm.trans h3
     by_cases hq : r = .a p
     ·subst hq; have := (self1 v).symm.trans h4; cases this
     ·exact .inl (own_of ((congrFun (io1 r hq) v).symm.trans h4))
   ·left; have : M1.rd k ≠ none := hk; rw [hrd1] at this; exact this
  obtain ⟨M', z1, z2, z3, z4⟩ := ins_fin (n := len + m) (room := len + m) (sz := 6) (c := .slice (some ⟨loc.b, loc.base + off * 6, none⟩) (len + m) cap) H2 SS hbsl (fun k x hk => by
   rw [Heap.get_put_other (by intro e; cases e), ← hh0]
   rw [List.getElem?_set] at hk
   split at hk
   ·rename_i hpk
    subst hpk
    split at hk
    ·simp only [Option.some.injEq] at hk; subst hk
     simp [Heap.put, Heap.get, hplen]
    ·cases hk
   ·rename_i hpk
    rw [Heap.get_put_other (by intro e; cases e; exact hpk rfl)]
    simp only [Heap.get, hk]) (by exact Heap.get_put_same gl1 (by intro i hi; cases hi)) hpN hpS (.tok _ _ _ _ _ _ _ _ _ cv2 (Nat.le_refl _) hroom (fun q => by cases q) (fun l3 h3 => by
    rw [all2 _ _ h3]
    exact ⟨rfl, .inr ⟨by simp, by show loc.base + off * 6 + 0 * 6 + cap * 6 ≤ loc.size; omega⟩⟩))
  exact ⟨_, M', rfl, z1, z2, z3, z4⟩
 ·-- there is none
  have hpa : VR fid M (.tok (.a p) 0 6 off n n c0) (.slice (some ⟨loc.b, loc.base + off * 6, none⟩) n cap) := by
   refine .tok _ _ _ _ _ _ _ _ _ hv0 (Nat.le_refl _) (by omega) k4 (fun loc' hl' => ?_)
   rw [hlp] at hl'; cases hl'
   exact ⟨q1, .inr ⟨rfl, q2⟩⟩
  have heO : (elems (.tok (.a p) 0 6 off n n c0)).run h0 = some (W.take n, h0) := by
   simp only [elems]
   by_cases hn0 : n = 0
   ·subst hn0; simp [HM.run]
   ·rw [if_neg hn0, HM.run_bind, HM.runT_run (liveBlk_runT gp)]
    simp only
    rw [if_pos ⟨by omega, hbs⟩]
    simp only [HM.run, Option.some.injEq, Prod.mk.injEq, and_true]
    rw [← hW, List.take_take, Nat.min_eq_left (by omega)]
  obtain ⟨_, SO⟩ := elems_ok heO Hs hpa
  have hWt : ∀ (k : Nat) (x : PV), (W.take n)[k]? = some x → x.cells.length = 6 := fun k x hk => by
   rw [List.getElem?_take] at hk
   split at hk
   ·exact hWs _ x hk
   ·cases hk
  have hWtl : (W.take n).length = n := by rw [List.length_take]; omega
  obtain ⟨_, n0, o1, o2, o3, o4⟩ := firstCells_run (P := P) SO hWt n (by omega)
  have N0 : NewsR fid M 6 (W.take n) n0 := ⟨by rw [hWtl]; exact o2, fun k x hk => ⟨hWt k x hk, fun j y hj => o4 k x j y (by rw [← hWtl]; exact getElem?_lt hk) hk hj⟩, o3⟩
  have hbm : (n + (len + m - n)) * inf.bytes ≤ 140737488355328 := by
   have : (n + (len + m - n)) * inf.bytes ≤ 2147483648 * 32768 := Nat.mul_le_mul (by unfold maxNew at hmax; omega) hbb
   omega
  have hkb : (len + m - n) * inf.bytes ≤ 281474976710656 := by
   have : (len + m - n) * inf.bytes ≤ (n + (len + m - n)) * inf.bytes := Nat.mul_le_mul_right _ (by omega)
   omega
  have hrow := fun ty' => Lib.run_append_grow_zeros w T I ty' e inf zv .i64 kI hu huI hi hzv (some ⟨loc.b, loc.base + off * 6, none⟩) n cap n0 (by rw [hz]; exact o1 _ rfl) (len + m - n) (by omega) (by omega) (by omega) (by unfold maxNew at hmax; omega) hkb (growslice_fits (by omega) hbm)
  rw [show n + (len + m - n) = len + m by omega] at hrow
  have hGge := grownCap_ge w (len + m) cap e
  have hG63 : grownCap w (len + m) cap e ≤ 9223372036854775807 := by
   have := grownCap_le_maxLen w (len + m) cap e (by unfold maxLen maxNew at *; omega)
   unfold maxLen at this; omega
  generalize grownCap w (len + m) cap e = GC at *
  generalize hROW : n0.toArray ++ Builtin.zeroCells zv.cells (len + m - n) ++ Builtin.zeroCells zv.cells (GC - (len + m)) = ROW at hrow
  have hRs : ROW.size = GC * 6 := by
   rw [← hROW]
   simp only [Array.size_append, List.size_toArray, size_zeroCells, hzs, o2]
   omega
  let w1 := w.drew.alloc (.cells ROW e)
  have hw1 : w1.heap[w.heap.size]? = some (.cells ROW e (0, 0)) := by show (w.heap.push _)[w.heap.size]? = _; simp
  have hold1 : ∀ k, k < w.heap.size → w1.heap[k]? = w.heap[k]? := fun k hk => RowKit.Below.heap_alloc _ _ _ hk
  have hs1 : w1.heap.size = w.heap.size + 1 := by show (w.heap.push _).size = _; simp
  have H1w : HR fid M1 (h0.put (.a p) ⟨0, none⟩) w1 := HR.world H1 (fun r v l3 h3 => hold1 _ (H1.own_lt (own_of h3))) (fun k hk => hold1 _ (H1.rd.lt hk))
  obtain ⟨_, SV⟩ := elems_ok (heV gq1) H1w V2'
  obtain ⟨hlV, n2, g1, g2, g3, g4⟩ := firstCells_run (P := P) SV hVs m (by omega)
  have N2 : NewsR fid M1 6 V n2 := ⟨by rw [hVl]; exact g2, fun k x hk => ⟨hVs k x hk, fun j y hj => g4 k x j y (by rw [← hVl]; exact getElem?_lt hk) hk hj⟩, g3⟩
  have hb3 : 0 + n * 6 + n2.length ≤ ROW.size := by rw [g2, hRs]; omega
  let w2 := setB w1 w.heap.size (.cells (splA ROW (0 + n * 6) n2) e (0, 0))
  have hw2 : w2.heap[w.heap.size]? = some (.cells (splA ROW (0 + n * 6) n2) e (0, 0)) := setB_same (by omega)
  have hs2 : w2.heap.size = w.heap.size + 1 := by show (w1.heap.setIfInBounds _ _).size = _; simp [hs1]
  have hold2 : ∀ k, k < w.heap.size → w2.heap[k]? = w.heap[k]? := fun k hk => by
   show (setB w1 w.heap.size _).heap[k]? = _
   rw [setB_other (by omega)]; exact hold1 k hk
  have Hw2 : HR fid M h0 w2.drew := HR.world Hs (fun r v l3 h3 => hold2 _ (Hs.own_lt (own_of h3))) (fun k hk => hold2 _ (Hs.rd.lt hk))
  obtain ⟨_, SW2⟩ := elems_ok heW Hw2 VW
  obtain ⟨_, n1, f1, f2, f3, f4⟩ := firstCells_run (P := P) SW2 hWds (len - n) (by omega)
  have N1 : NewsR fid M 6 (W.drop n) n1 := ⟨by rw [hWdl]; exact f2, fun k x hk => ⟨hWds k x hk, fun j y hj => f4 k x j y (by rw [← hWdl]; exact getElem?_lt hk) hk hj⟩, f3⟩
  have hss : (splA ROW (0 + n * 6) n2).size = ROW.size := splA_size hb3
  have hb4 : 0 + (n + m) * 6 + n1.length ≤ (splA ROW (0 + n * 6) n2).size := by rw [hss, f2, hRs]; omega
  let w3 := setB w2.drew w.heap.size (.cells (splA (splA ROW (0 + n * 6) n2) (0 + (n + m) * 6) n1) e (0, 0))
  have hw3 : w3.heap[w.heap.size]? = some (.cells (splA (splA ROW (0 + n * 6) n2) (0 + (n + m) * 6) n1) e (0, 0)) := setB_same (by show _ < w2.heap.size; omega)
  have hs3 : w3.heap.size = w.heap.size + 1 := by show (w2.heap.setIfInBounds _ _).size = _; simp [hs2]
  have hold3 : ∀ k, k < w.heap.size → w3.heap[k]? = w.heap[k]? := fun k hk => by
   show (setB w2.drew w.heap.size _).heap[k]? = _
   rw [setB_other (by omega)]; exact hold2 k hk
  have c1 : ∀ ty' dc, (Builtin.copy_ #[T, T] ty' #[.slice (some ⟨w.heap.size, n * 6, none⟩) (len + m - n) dc, .slice (some ⟨loc2.b, loc2.base + off2 * 6, none⟩) m cap2]).run P w1 = .ok (goInt m) w2 := fun ty' dc => by
   have hst := run_stores (P := P) w.heap.size (0 + n * 6) e 0 0 n2 0 _ w1 hw1 (by omega) (fun k _ => by omega) g3
   rw [Nat.add_zero] at hst
   have hmin : Nat.min m (len + m - n) = m := by simp only [Nat.min_def]; split <;> omega
   have := run_copyB (P := P) (w := w1) (t2 := T) (ty := ty') (base := some ⟨w.heap.size, 0 + n * 6, none⟩) (dLen := len + m - n) (dCap := dc) (m := m) (src := .slice (some ⟨loc2.b, loc2.base + off2 * 6, none⟩) m cap2) (news := n2) hu hi (fun w' => rfl) (by
    rw [hmin, hz]; exact g1 _ rfl) hst
   rw [hmin, show (⟨w.heap.size, 0 + n * 6, none⟩ : Addr) = ⟨w.heap.size, n * 6, none⟩ by rw [Nat.zero_add]] at this
   exact this
  have c2' : ∀ ty' dc sc, (Builtin.copy_ #[T, T] ty' #[.slice (some ⟨w.heap.size, (n + m) * 6, none⟩) (len + m - (n + m)) dc, .slice (some ⟨loc.b, loc.base + off * 6 + n * 6, none⟩) (len - n) sc]).run P w2.drew = .ok (goInt (len - n)) w3 := fun ty' dc sc => by
   have hst := run_stores (P := P) w.heap.size (0 + (n + m) * 6) e 0 0 n1 0 _ w2.drew hw2 (by omega) (fun k _ => by omega) f3
   rw [Nat.add_zero] at hst
   have hmin : Nat.min (len - n) (len + m - (n + m)) = len - n := by simp only [Nat.min_def]; split <;> omega
   have := run_copyB (P := P) (w := w2.drew) (t2 := T) (ty := ty') (base := some ⟨w.heap.size, 0 + (n + m) * 6, none⟩) (dLen := len + m - (n + m)) (dCap := dc) (m := len - n) (src := .slice (some ⟨loc.b, loc.base + off * 6 + n * 6, none⟩) (len - n) sc) (news := n1) hu hi (fun w' => rfl) (by
    rw [hmin, hz, firstCells_len 6 _ _ _ (len - n) _ (cap - n)]; exact f1 _ rfl) hst
   rw [hmin, show (⟨w.heap.size, 0 + (n + m) * 6, none⟩ : Addr) = ⟨w.heap.size, (n + m) * 6, none⟩ by rw [Nat.zero_add]] at this
   rw [this]; congr 2; omega
  refine Calls.mono (hG loc.b (loc.base + off * 6) len cap n loc2.b (loc2.base + off2 * 6) m cap2 w.heap.size GC w w1 w2 w3 hi1 hm0 (by omega) (by omega) (by unfold maxNew at hmax; omega) hGge hG63 (fun ty' => ?_) c1 c2') ?_
  ·have hkk : (len : Int) + (m : Int) - (n : Int) = ((len + m - n : Nat) : Int) := by omega
   rw [hkk]
   exact hrow ty'
  rintro ev w' ⟨rfl, rfl⟩
  have H1x : HR fid M1 (h0.put (.a p) ⟨0, none⟩) w3 := HR.world H1 (fun r v l3 h3 => hold3 _ (H1.own_lt (own_of h3))) (fun k hk => hold3 _ (H1.rd.lt hk))
  have hs4 : (splA (splA ROW (0 + n * 6) n2) (0 + (n + m) * 6) n1).size = GC * 6 := by rw [splA_size hb4, hss, hRs]
  have hrdN : M1.rd w.heap.size = none := by
   cases hr : M1.rd w.heap.size with
   | none => rfl
   | some vs => have := H1.rd.lt (b := w.heap.size) (by rw [hr]; simp); omega
  obtain ⟨H2, le2, l2, cv2, io2, all2⟩ := H1x.take gl1 (loc := ⟨w.heap.size, 0, 6, GC * 6⟩) (b := ⟨6, W.take n ++ V ++ W.drop n, false⟩) (fun r v l3 hr h3 e3 => by have := H1.own_lt (own_of h3); simp only at e3; omega) (fun M' le hrd => by
   refine ⟨_, e, 0, 0, ⟨hw3, rfl, hs4, fun k hk => by omega, ⟨Nat.le_refl _, fun _ => Nat.zero_le _, by rw [hs4]; exact Nat.mul_le_mul_right _ hG63⟩, ?_, (fun q => by cases q), fun _ => by rw [hrd]; exact hrdN, ?_⟩⟩
   ·show 0 + (W.take n ++ V ++ W.drop n).length * 6 ≤ _
    rw [hs4]
    simp only [List.length_append, List.length_take, hWl, hVl, hWdl]
    omega
   ·refine cells_insert (by omega) ?_ (N2.mono le) ((N1.mono S1.le).mono le) (fun k u hk => ?_) (fun k u hk => ?_)
    ·intro k x hk
     have hkn : k < n := by
      have := getElem?_lt hk; rw [List.length_take] at this; omega
     obtain ⟨z1, z2⟩ := N0.cells k x hk
     refine ⟨z1, fun j y hj => ?_⟩
     obtain ⟨z3, u, z4, z5⟩ := z2 j y hj
     have hj6 : j < 6 := by rw [← z1]; exact getElem?_lt hj
     refine ⟨z3, u, ?_, (z5.mono S1.le).mono le⟩
     show (splA (splA ROW (0 + n * 6) n2) (0 + (n + m) * 6) n1)[0 + k * 6 + j]? = some u
     rw [splA_get hb4, if_neg (by omega), splA_get hb3, if_neg (by omega), ← hROW, Array.append_assoc, Array.getElem?_append_left (by simp only [List.size_toArray, o2]; omega), List.getElem?_toArray, ← z4]
     congr 1; omega
    ·have hk2 := getElem?_lt hk
     show (splA (splA ROW (0 + n * 6) n2) (0 + (n + m) * 6) n1)[0 + n * 6 + k]? = some u
     rw [splA_get hb4, if_neg (by rw [g2] at hk2; omega), splA_get hb3, if_pos ⟨by omega, by omega⟩, ← hk]
     congr 1; omega
    ·have hk2 := getElem?_lt hk
     rw [hVl]
     show (splA (splA ROW (0 + n * 6) n2) (0 + (n + m) * 6) n1)[0 + (n + m) * 6 + k]? = some u
     rw [splA_get hb4, if_pos ⟨by omega, by omega⟩, ← hk]
     congr 1; omega)
  have SS : Stp M w (M1.at (.l 0) 1 (some ⟨w.heap.size, 0, 6, GC * 6⟩) M1.rd) w3 := by
   refine ⟨⟨by show RdLe M.rd M1.rd; rw [hrd1]; exact .refl _, rfl, rfl, rfl, by omega, fun k hk hn => hold3 k hk, fun k hk => ?_, fun k hk => ?_⟩, S1.le.trans le2⟩
   ·obtain ⟨r, v, l3, h3, rfl⟩ := hk
    by_cases hr : r = .l 0
    ·subst hr; rw [all2 _ _ h3]; exact .inr (Nat.le_refl _)
    ·have h4 := (congrFun (io2 r hr) v).symm.trans h3
     by_cases hq : r = .a p
     ·subst hq; have := (self1 v).symm.trans h4; cases this
     ·exact .inl (own_of ((congrFun (io1 r hq) v).symm.trans h4))
   ·left; have : M1.rd k ≠ none := hk; rw [hrd1] at this; exact this
  obtain ⟨M', z1, z2, z3, z4⟩ := ins_fin (n := len + m) (room := len + m) (sz := 6) (c := .slice (some ⟨w.heap.size, 0, none⟩) (len + m) GC) H2 SS hbsl (fun k x hk => by
   rw [Heap.get_put_other (by intro e; cases e), ← hh0]
   rw [List.getElem?_set] at hk
   split at hk
   ·rename_i hpk
    subst hpk
    split at hk
    ·simp only [Option.some.injEq] at hk; subst hk
     simp [Heap.put, Heap.get, hplen]
    ·cases hk
   ·rename_i hpk
    rw [Heap.get_put_other (by intro e; cases e; exact hpk rfl)]
    simp only [Heap.get, hk]) (by exact Heap.get_put_same gl1 (by intro i hi; cases hi)) hpN hpS (.tok _ _ _ _ _ _ _ _ _ cv2 (Nat.le_refl _) hGge (fun q => by cases q) (fun l3 h3 => by
    rw [all2 _ _ h3]
    exact ⟨rfl, .inr ⟨by simp, by show 0 + 0 * 6 + GC * 6 ≤ GC * 6; omega⟩⟩))
  exact ⟨_, M', rfl, z1, z2, z3, z4⟩
end Gv

namespace Gv
open Go
abbrev iI (n : Int) : PO := .c (.int .i64 n)
abbrev io (d : Nat) (x : IOp) : IOper := ⟨some d, x, none, []⟩
abbrev N' (n : Int) : X := .int .i64 n
def fIns : IFun := ⟨95, 2, false, [], [.tmp 6],
 (.seq
 (.reg [io 6 (.mov (.c .nils))] false)
 (.seq
  (.reg [io 10 (.mov (.t 0)), io 11 (.mov (.t 1)), io 12 (.slice 6 (.t 10) (some (.t 11)) none none)] false)
  (.seq
  (.reg [io 13 (.mov (.t 2)), io 14 (.len (.t 13)), io 7 (.mov (.t 14))] false)
  (.seq
   (.seq
   (.reg [io 15 (.mov (.t 7)), io 16 (.bin .eql (.t 15) (iI 0))] false)
   (.cond (.t 16)
    (.seq
    (.reg [io 17 (.mov (.t 0)), io 6 (.mov (.t 17))] false)
    .ret)
    .skip))
   (.seq
   (.reg [io 18 (.mov (.t 0)), io 19 (.len (.t 18)), io 8 (.mov (.t 19))] false)
   (.seq
    (.seq
    (.reg [io 20 (.mov (.t 1)), io 21 (.mov (.t 8)), io 22 (.bin .eql (.t 20) (.t 21))] false)
    (.cond (.t 22)
     (.seq
     (.reg [io 23 (.mov (.t 0)), io 24 (.mov (.t 2)), io 25 (.append 6 (.t 23) (.t 24) 0), io 6 (.mov (.t 25))] false)
     .ret)
     .skip))
    (.seq
    (.seq
     (.reg [io 26 (.mov (.t 8)), io 27 (.mov (.t 7)), io 28 (.bin .add (.t 26) (.t 27)), io 29 (.mov (.t 0)), io 30 (.bad), io 31 (.bin .gtr (.t 28) (.t 30))] false)
     (.cond (.t 31)
     (.seq
      (.reg [io 32 (.mov (.t 0)), io 33 (.mov (.t 1)), io 34 (.slice 6 (.t 32) none (some (.t 33)) none), io 35 (.mov (.t 8)), io 36 (.mov (.t 7)), io 37 (.bin .add (.t 35) (.t 36)), io 38 (.mov (.t 1)), io 39 (.bin .sub (.t 37) (.t 38)), io 40 (.bad), io 9 (.mov (.t 40))] false)
      (.seq
      (.reg [io 41 (.mov (.t 9)), io 42 (.mov (.t 1)), io 43 (.slice 6 (.t 41) (some (.t 42)) none none), io 44 (.mov (.t 2)), io 45 (.copy 6 (.t 43) (.t 44))] false)
      (.seq
       (.reg [⟨(some 46), .mov (.t 9), none, []⟩, ⟨(some 47), .mov (.t 1), none, []⟩, ⟨(some 48), .mov (.t 7), none, []⟩, ⟨(some 49), .bin .add (.t 47) (.t 48), none, [1, 2]⟩, ⟨(some 50), .slice 6 (.t 46) (some (.t 49)) none none, none, [0, 1, 2, 3]⟩, ⟨(some 51), .mov (.t 0), none, []⟩, ⟨(some 52), .mov (.t 1), none, []⟩, ⟨(some 53), .slice 6 (.t 51) (some (.t 52)) none none, none, [5, 6]⟩, ⟨(some 54), .copy 6 (.t 50) (.t 53), none, [0, 1, 2, 3, 4, 5, 6, 7]⟩] true)
       (.seq
       (.reg [io 55 (.mov (.t 9)), io 6 (.mov (.t 55))] false)
       .ret))))
     .skip))
    (.seq
     (.reg [io 56 (.mov (.t 0)), io 57 (.mov (.t 8)), io 58 (.mov (.t 7)), io 59 (.bin .add (.t 57) (.t 58)), io 60 (.slice 6 (.t 56) none (some (.t 59)) none), io 0 (.mov (.t 60))] false)
     (.seq
     (.seq
      (.reg [io 61 (.mov (.t 2)), io 62 (.mov (.t 0)), io 63 (.mov (.t 1)), io 64 (.mov (.t 7)), io 65 (.bin .add (.t 63) (.t 64)), io 66 (.slice 6 (.t 62) (some (.t 65)) none none), io 67 (.call 97 [(.t 61), (.t 66)] 1), io 68 (.un .not (.t 67))] false)
      (.cond (.t 68)
      (.seq
       (.reg [⟨(some 69), .mov (.t 0), none, []⟩, ⟨(some 70), .mov (.t 1), none, []⟩, ⟨(some 71), .mov (.t 7), none, []⟩, ⟨(some 72), .bin .add (.t 70) (.t 71), none, [1, 2]⟩, ⟨(some 73), .slice 6 (.t 69) (some (.t 72)) none none, none, [0, 1, 2, 3]⟩, ⟨(some 74), .mov (.t 0), none, []⟩, ⟨(some 75), .mov (.t 1), none, []⟩, ⟨(some 76), .slice 6 (.t 74) (some (.t 75)) none none, none, [5, 6]⟩, ⟨(some 77), .copy 6 (.t 73) (.t 76), none, [0, 1, 2, 3, 4, 5, 6, 7]⟩] true)
       (.seq
       (.reg [io 78 (.mov (.t 0)), io 79 (.mov (.t 1)), io 80 (.slice 6 (.t 78) (some (.t 79)) none none), io 81 (.mov (.t 2)), io 82 (.copy 6 (.t 80) (.t 81))] false)
       (.seq
        (.reg [io 83 (.mov (.t 0)), io 6 (.mov (.t 83))] false)
        .ret)))
      .skip))
     (.seq
      (.reg [io 84 (.mov (.t 0)), io 85 (.mov (.t 8)), io 86 (.slice 6 (.t 84) (some (.t 85)) none none), io 87 (.mov (.t 2)), io 88 (.copy 6 (.t 86) (.t 87))] false)
      (.seq
      (.reg [io 89 (.mov (.t 0)), io 90 (.mov (.t 1)), io 91 (.slice 6 (.t 89) (some (.t 90)) none none), io 92 (.mov (.t 7)), io 93 (.call 98 [(.t 91), (.t 92)] 1)] false)
      (.seq
       (.reg [io 94 (.mov (.t 0)), io 6 (.mov (.t 94))] false)
       .ret)))))))))))), none⟩

def oneF (f : Nat) (F : IFun) : Nat → Option IFun := fun k => if k = f then some F else none
open Classical in
noncomputable def callW (f : Nat) (F : IFun) (args : List PV) (G : List Blk) : Option (PV × List (Option Blk)) :=
 if h : ∃ r n, callE (oneF f F) n f args G = some r then some (choose h) else none
noncomputable def orW (f : Nat) (F : IFun) (g : List PV → List Blk → Option (PV × List (Option Blk))) (args : List PV) (G : List Blk) : Option (PV × List (Option Blk)) :=
 match g args G with | some r => some r | none => callW f F args G
theorem callW_of {f n : Nat} {F : IFun} {args : List PV} {G : List Blk} {r : PV × List (Option Blk)} (h : callE (oneF f F) n f args G = some r) : callW f F args G = some r := by
 unfold callW
 have hex : ∃ r n, callE (oneF f F) n f args G = some r := ⟨r, n, h⟩
 rw [dif_pos hex]
 obtain ⟨m, hm⟩ := Classical.choose_spec hex
 generalize Classical.choose hex = r2 at hm ⊢
 have a := callE_mono (Nat.le_max_left n m) _ _ _ _ h
 have b := callE_mono (Nat.le_max_right n m) _ _ _ _ hm
 rw [a] at b; exact b.symm
theorem callW_inv {f : Nat} {F : IFun} {args : List PV} {G : List Blk} {r : PV × List (Option Blk)} (h : callW f F args G = some r) : ∃ n, callE (oneF f F) n f args G = some r := by
 unfold callW at h
 split at h
 ·rename_i hex
  cases h
  exact Classical.choose_spec hex
 ·cases h
theorem orW_ok {P : Program} {fid : Nat → FuncId} {f : Nat} {F : IFun} {g : List PV → List Blk → Option (PV × List (Option Blk))} (hF : F.intr = none) (hc : chkFun P fid f F = true) (hm : P.follows .mixedOrders = true) (hg : CallOk P fid (fun k args G => if k = f then g args G else none)) :
  CallOk P fid (fun k args G => if k = f then orW f F g args G else none) := by
 intro f' args G r G' M w cargs hx H hcv hl ha
 simp only at hx
 split at hx
 case isFalse => cases hx
 rename_i hf
 subst hf
 unfold orW at hx
 split at hx
 ·rename_i r2 h2
  cases hx
  exact hg f' args G r G' M w cargs (by simp only [if_true]; exact h2) H hcv hl ha
 ·obtain ⟨n, hn⟩ := callW_inv hx
  have hT : TabOk P fid (oneF f' F) := ⟨fun k F' hk hi => (by
    unfold oneF at hk
    split at hk
    ·rename_i e; subst e; cases hk; exact hc
    ·cases hk), fun k F' g' hk hi => (by
    unfold oneF at hk
    split at hk
    ·cases hk; rw [hF] at hi; cases hi
    ·cases hk), hm⟩
  exact (sound hT n).2.2 f' args G r G' M w cargs hn H hcv hl ha
def setT (FT : Nat → Option IFun) (f : Nat) (F : IFun) : Nat → Option IFun := fun k => if k = f then some F else FT k
theorem TabOk.set {P : Program} {fid : Nat → FuncId} {FT : Nat → Option IFun} (h : TabOk P fid FT) {f : Nat} {F : IFun} {g : List PV → List Blk → Option (PV × List (Option Blk))} (hi : F.intr = some g) (hg : CallOk P fid (fun k args G => if k = f then g args G else none)) (he : Enters P (fid f)) : TabOk P fid (setT FT f F) :=
 ⟨fun k F' hk hn => (by
  unfold setT at hk
  split at hk
  ·cases hk; rw [hi] at hn; cases hn
  ·exact h.walk k F' hk hn), fun k F' g' hk hn => (by
  unfold setT at hk
  split at hk
  ·rename_i e; subst e; cases hk; rw [hi] at hn; cases hn; exact ⟨hg, he⟩
  ·exact h.intr k F' g' hk hn), h.mixed⟩
noncomputable def insF : IFun := ⟨0, 0, false, [], [], .skip, some (orW 76 fIns insMid)⟩
def sigIns : Sig := ⟨[(.O 6 true), .F, (.O 6 true)], (.O 6 true), false⟩
def vIns : VFun := ⟨sigIns, [], .seq (.st [.asg [.pos (.v 2), .bin .eql (.v 1) (N' 0)] []]) (.ret (.app 6 (.app 6 (.slice 6 (.v 0) .nl (.v 1) .nl) (.v 2)) (.slice 6 (.v 0) (.v 1) .nl .nl)) [])⟩
def cIns : VC :=
 (.seq
 (.st [.asg [(.slice 6 (.v 0) (.v 1) .nl .nl)] [], .asg [] [(7, (.len (.v 2)))]])
 (.seq
  (.seq
  (.st [.asg [(.bin .eql (.v 7) (N' 0))] []])
  (.cond (.bin .eql (.v 7) (N' 0))
   (.seq
   (.st [.asg [] [(6, (.v 0))]])
   (.ret (.v 6) []))
   .skip))
  (.seq
  (.st [.asg [] [(8, (.len (.v 0)))]])
  (.seq
   (.seq
   (.st [.asg [(.bin .eql (.v 1) (.v 8))] []])
   (.cond (.bin .eql (.v 1) (.v 8))
    (.seq
    (.st [.asg [] [(6, (.app 6 (.v 0) (.v 2)))]])
    (.ret (.v 6) []))
    .skip))
   (.st [.asg [(.pos (.lst .nl))] []])))))
theorem mkIns : mkV (fun _ => none) (roFT (oneF 76 fIns)) fIns sigIns = some cIns := by kernel_rfl
theorem ins_end {es ys : List PV} {c1 c2 : Bool} (hy : ys ≠ []) (hs : sized 6 ys = true) (hm : es.length + ys.length < maxNew) (hz : lstSz es 6 = true) {env : Env} (h0 : env 0 = .lst es c1) (h1 : env 1 = .int .i64 es.length) (h2 : env 2 = .lst ys c2) :
  den (fun _ _ => none) (fun _ _ _ => false) cIns env = some (.ret (.lst (es ++ ys) false) []) := by
 have hy0 : ((ys.length : Int) == 0) = false := by
  cases ys with
  | nil => exact absurd rfl hy
  | cons => simp; omega
 have h3 : sliceV 6 (.lst es c1) (.int .i64 es.length) (.tup []) (.tup []) = some (nrm (.lst (es.drop es.length) false)) := by
  simp [sliceV, optV, sliceLst, optNat, asNat, hz]
 have h4 : binI .eql .i64 (ys.length : Int) .i64 0 = some (.bool false) := by simp only [binI, hy0]; rfl
 have h5 : binI .eql .i64 (es.length : Int) .i64 (es.length : Int) = some (.bool true) := by simp [binI]
 simp only [den, runVS, VS.run, allGood, bindAll, evAll, X.ev, obind_some, Option.isSome_some, Bool.and_true, ↓reduceIte, Env.set_at, Nat.reduceEqDiff, reduceCtorEq, bin, cIns, N', h0, h1, h2, h3, h4, h5, lenV, appV, hs, hm, and_self]
theorem vIns_inv {C : CallV} {V : Nat → List PV → List PV → Bool} {x0 x1 x2 x : PV} {os : List PV} (hd : den C V vIns.body (Env.ofArgs [x0, x1, x2]) = some (.ret x os)) :
  ∃ es c ys c' n, x0 = .lst es c ∧ x1 = .int .i64 n ∧ x2 = .lst ys c' ∧ ys ≠ [] ∧ 0 ≤ n ∧ n ≤ es.length ∧ lstSz es 6 = true ∧ sized 6 ys = true ∧ es.length + ys.length < maxNew ∧ x = .lst (nrmL (es.take n.toNat) ++ ys ++ nrmL (es.drop n.toNat)) false ∧ os = [] := by
 have e0 : Env.ofArgs [x0, x1, x2] 0 = x0 := rfl
 have e1 : Env.ofArgs [x0, x1, x2] 1 = x1 := rfl
 have e2 : Env.ofArgs [x0, x1, x2] 2 = x2 := rfl
 generalize Env.ofArgs [x0, x1, x2] = env at *
 simp only [vIns, den, runVS, VS.run, allGood, X.ev, e1, e2, bindAll, evAll, obind_some] at hd
 cases x2 <;> simp only [posV, Option.isSome_none, Bool.false_and, Bool.false_eq_true, if_false, obind_none] at hd <;> try (cases hd; done)
 rename_i ys c'
 cases ys with
 | nil => simp [] at hd
 | cons y ys =>
 cases x1 <;> simp [Gv.bin] at hd
 rename_i k n
 cases hk : binI .eql k n .i64 0 with
 | none => rw [hk] at hd; simp at hd
 | some z =>
 have hk64 : k = .i64 := by
  simp only [binI] at hk
  split at hk
  ·cases hk
  ·rename_i h; exact Decidable.not_not.1 h
 subst hk64
 rw [hk] at hd
 simp only [Option.isSome_some, if_true, obind_some, e0, e1, e2] at hd
 have hx0 : ∃ es c, x0 = .lst es c := by
  cases x0 <;> first | exact ⟨_, _, rfl⟩ | (exfalso; simp [sliceV, optV] at hd)
 obtain ⟨es, c, rfl⟩ := hx0
 simp only [sliceV, optV, Option.isSome_none, Bool.false_and, Bool.false_eq_true, or_false, Nat.reduceEqDiff, if_false] at hd
 cases h1 : sliceLst 6 es false none (some (.int .i64 n)) none with
 | none => rw [h1] at hd; simp at hd
 | some s1 =>
 cases h2 : sliceLst 6 es false (some (.int .i64 n)) none none with
 | none =>
  exfalso
  rw [h1, h2] at hd
  cases h3 : appV 6 (nrm s1) (.lst (y :: ys) c') <;> simp [h3] at hd
 | some s2 =>
 rw [h1, h2] at hd
 simp only [sliceLst, optNat, asNat] at h1 h2
 by_cases hn : 0 ≤ n
 case neg => rw [if_neg hn] at h1; cases h1
 rw [if_pos hn] at h1 h2
 simp only at h1 h2
 split at h1
 case isFalse => cases h1
 rename_i g1
 split at h2
 case isFalse => cases h2
 rename_i g2
 cases h1; cases h2
 simp only [Option.map_some, obind_some, nrm, appV] at hd
 split at hd
 case isFalse => simp at hd
 rename_i g3
 simp only [obind_some] at hd
 split at hd
 case isFalse => simp at hd
 rename_i g4
 simp only [obind_some, Option.some.injEq, VEx.ret.injEq] at hd
 have hnl : ∀ l : List PV, (nrmL l).length = l.length := nrmL_length
 simp only [List.length_append, hnl, List.length_take, List.length_drop] at g3 g4
 refine ⟨es, c, y :: ys, c', n, rfl, rfl, rfl, by simp, hn, by omega, g1.2.2.2, g3.1, by simp only [List.length_cons] at *; omega, ?_, hd.2.symm⟩
 rw [← hd.1]
 simp [List.take_of_length_le]
theorem ins_ent {FT : Nat → Option IFun} {sgs : Nat → Option Sig} : EntOk (setT FT 76 insF) sgs 76 vIns := by
 refine .inr ⟨by kernel_rfl, fun C V xs x os hd hl _ => ?_⟩
 match xs, hl with
 | [x0, x1, x2], _ =>
 obtain ⟨es, c, ys, c', n, rfl, rfl, rfl, hy, hn0, hn1, hz, hs, hm, rfl, rfl⟩ := vIns_inv hd
 obtain ⟨k, rfl⟩ : ∃ k : Nat, n = k := ⟨n.toNat, by omega⟩
 simp only [Int.toNat_natCast]
 have hFT : setT FT 76 insF 76 = some insF := by simp [setT]
 intro args G P kr uP loc hG
 match args, kr with
 | [v0, v1, v2], kr =>
 have kr' := kr
 obtain ⟨⟨t0, w0⟩, ⟨p1, e1⟩, ⟨t2, w2⟩, _⟩ := kr'
 have w0 := w0 rfl
 have w2 := w2 rfl
 have e1 : v1 = .int .i64 k := by
  cases v1 <;> simp [nrm] at e1
  obtain ⟨rfl, rfl⟩ := e1; rfl
 subst e1
 have hidem : ∀ {l : List PV}, (∃ m, l = nrmL m) → nrmL l = l := fun ⟨m, e⟩ => by subst e; exact nrmL_nrmL m
 have hes : nrmL es = es := by
  rcases t0 with ⟨_, e⟩ | ⟨r, ver, off, len, room, c0, b, _, _, _, _, _, _, _, _, e⟩
  ·cases e; rfl
  ·cases e; exact hidem ⟨_, rfl⟩
 have hkl : k ≤ es.length := by omega
 rw [nrmL_take, nrmL_drop, hes]
 have hgA : ∀ {q : Ref} {i : Nat} {e : Ent}, P i q → (HA G).get q = some e → ∃ p b, q = .a p ∧ G[p]? = some b ∧ e = ⟨0, some b⟩ := fun {q i e} h1 h2 => by
  obtain ⟨p, rfl, hp⟩ := loc i q h1
  simp only [HA, Heap.get, List.getElem?_map] at h2
  have hb := List.getElem?_eq_getElem hp
  rw [hb] at h2
  simp only [Option.map_some, Option.some.injEq] at h2
  exact ⟨p, _, rfl, hb, h2.symm⟩
 rcases t2 with ⟨_, e2⟩ | ⟨r2, ver2, off2, m, room2, c2, b2, hT2, hP2, hget2, hsz2, ho2, hr2, hpl2, hcl2, e2⟩
 ·cases e2; exact absurd rfl hy
 obtain ⟨q, b2', rfl, hGq, eb2⟩ := hgA hP2 hget2
 simp only [Ent.mk.injEq, Option.some.injEq] at eb2
 obtain ⟨rfl, rfl⟩ := eb2
 by_cases hk : k = es.length
 ·-- at the end
  subst hk
  have hC : CallsOk (oneF 76 fIns) (fun _ => none) (fun _ _ => none) (fun _ _ _ => false) := ⟨fun f xs r os h => (by cases h), fun k vs caps h => (by cases h)⟩
  have hctr := mkV_ok (xs := [.lst es c, .int .i64 es.length, .lst ys c']) hC (show oneF 76 fIns 76 = some fIns from rfl) mkIns (ins_end hy hs hm hz rfl rfl rfl) (fun h => by cases h)
  obtain ⟨n, rE, G', h1, h2, h3⟩ := hctr _ G P kr uP loc hG
  have hmid : insMid [v0, .int .i64 es.length, v2] G = none := by
   rcases t0 with ⟨hn, _⟩ | ⟨r, ver, off, len, room, c0, b, hT, hP, hget, _, ho, _, _, _, e⟩
   ·rcases hn with rfl | rfl <;> rfl
   ·obtain ⟨p, b', rfl, hGp, eb⟩ := hgA hP hget
    simp only [Ent.mk.injEq, Option.some.injEq] at eb
    obtain ⟨rfl, rfl⟩ := eb
    subst hT; subst hT2
    have hlen : es.length = len := by
     simp only [PV.lst.injEq] at e
     rw [e.1, nrmL_length]; simp; omega
    simp only [insMid, hGp, hGq]
    rw [if_neg]
    intro hc
    have := hc.2.1.2.1
    omega
  have e3 : List.take es.length es ++ ys ++ List.drop es.length es = es ++ ys := by simp
  rw [e3]
  refine ⟨1, rE, G', ?_, h2, h3⟩
  rw [callE.eq_def]; simp only
  rw [hFT]
  simp only [insF, orW, hmid]
  exact callW_of h1
 ·-- ahead of it
  have hcall : ∀ {r : PV × List (Option Blk)}, insMid [v0, .int .i64 k, v2] G = some r → callE (setT FT 76 insF) 1 76 [v0, .int .i64 k, v2] G = some r := fun {r} h => by
   rw [callE.eq_def]; simp only
   rw [hFT]
   simp only [insF, orW, h]
  rcases t0 with ⟨_, e⟩ | ⟨r, ver, off, len, room, c0, b, hT, hP, hget, hsz, ho, hr, hpl, hcl, e⟩
  ·cases e; simp at hkl; simp at hk; omega
  obtain ⟨p, b', rfl, hGp, eb⟩ := hgA hP hget
  simp only [Ent.mk.injEq, Option.some.injEq] at eb
  obtain ⟨rfl, rfl⟩ := eb
  simp only [PV.lst.injEq] at e e2
  obtain ⟨rfl, rfl⟩ := e
  obtain ⟨rfl, rfl⟩ := e2
  subst hT; subst hT2
  have hne : p ≠ q := by
   rintro rfl
   have := uP _ _ _ hP hP2
   simp [K.n] at this
  have hro : b.ro = false := by
   rcases w0 with hn | ⟨r3, v3, s3, o3, l3, m3, b3, e3, g3, q3, _⟩
   ·rcases hn with hn | hn <;> cases hn
   ·cases e3; rw [hget] at g3; cases g3; exact q3
  have hWl : ((b.es.drop off).take len).length = len := by simp; omega
  have hVl : ((b2.es.drop off2).take m).length = m := by simp; omega
  simp only [nrmL_length, hWl, hVl] at hkl hk hm
  have hm0 : 0 < m := by
   rcases Nat.eq_zero_or_pos m with z | z
   ·subst z; exact absurd (by simp [nrmL]) hy
   ·exact z
  have hpb : plL b.es = true := hpl
  have hall : (G.all fun b => plL b.es) = true := by
   rw [List.all_eq_true]
   intro x hx
   obtain ⟨j, hj⟩ := List.mem_iff_getElem?.1 hx
   have := hG j x hj
   simp only [vIns, sigIns, KBs, KB, hget, hget2, List.append_nil, List.nil_append, List.cons_append, List.mem_cons, Prod.mk.injEq, List.not_mem_nil, or_false] at this
   rcases this with ⟨_, _, rfl⟩ | ⟨_, _, rfl⟩
   ·exact hpl
   ·exact hpl2
  have hmid : insMid [.tok (.a p) 0 6 off len room c0, .int .i64 k, .tok (.a q) 0 6 off2 m room2 c2] G = some (.tok (.l 0) 0 6 0 (len + m) (len + m) false, (G.map some).set p none ++ [some ⟨6, ((b.es.drop off).take len).take k ++ (b2.es.drop off2).take m ++ ((b.es.drop off).take len).drop k, false⟩]) := by
   simp only [insMid, hGp, hGq, Int.toNat_natCast]
   rw [if_pos]
   exact ⟨⟨hne, hro, hsz, hsz2, trivial, trivial⟩, ⟨by omega, by omega, hm0, ho, ho2, hm⟩, hall⟩
  refine ⟨1, _, _, hcall hmid, ?_, fun _ h => by cases h⟩
  have hbsl : ((G.map some).set p none).length = G.length := by simp
  have hdrop : ((G.map some).set p none ++ [some (⟨6, ((b.es.drop off).take len).take k ++ (b2.es.drop off2).take m ++ ((b.es.drop off).take len).drop k, false⟩ : Blk)]).drop G.length = [some ⟨6, ((b.es.drop off).take len).take k ++ (b2.es.drop off2).take m ++ ((b.es.drop off).take len).drop k, false⟩] := List.drop_left' hbsl
  have hget3 : (HX G.length ((G.map some).set p none ++ [some (⟨6, ((b.es.drop off).take len).take k ++ (b2.es.drop off2).take m ++ ((b.es.drop off).take len).drop k, false⟩ : Blk)])).get (.l 0) = some ⟨0, some ⟨6, ((b.es.drop off).take len).take k ++ (b2.es.drop off2).take m ++ ((b.es.drop off).take len).drop k, false⟩⟩ := by
   simp only [HX, hdrop]; rfl
  generalize hN : ((b.es.drop off).take len).take k ++ (b2.es.drop off2).take m ++ ((b.es.drop off).take len).drop k = N at *
  have hNl : N.length = len + m := by
   rw [← hN]; simp only [List.length_append, List.length_take, hWl, hVl, List.length_drop]; omega
  have hNp : plL N = true := by
   rw [← hN, plL_app, plL_app]
   rw [plL_take (plL_take (plL_drop hpl off) len), plL_take (plL_drop hpl2 off2) m, plL_drop (plL_take (plL_drop hpl off) len)]; rfl
  have hNc : ∀ x ∈ N, x.cells.length = 6 := fun x hx => by
   rw [← hN] at hx
   rcases List.mem_append.1 hx with hx | hx
   ·rcases List.mem_append.1 hx with hx | hx
    ·exact hcl x (List.mem_of_mem_drop (List.mem_of_mem_take (List.mem_of_mem_take hx)))
    ·exact hcl2 x (List.mem_of_mem_drop (List.mem_of_mem_take hx))
   ·exact hcl x (List.mem_of_mem_drop (List.mem_of_mem_take (List.mem_of_mem_drop hx)))
  have hNn : nrmL N = (nrmL ((b.es.drop off).take len)).take k ++ nrmL ((b2.es.drop off2).take m) ++ (nrmL ((b.es.drop off).take len)).drop k := by
   rw [← hN, nrmL_app, nrmL_app, nrmL_take, nrmL_drop]
  refine ⟨by simp, by rw [hdrop]; intro x hx; simp only [List.mem_singleton] at hx; subst hx; simp, ⟨fun i q => i = 0 ∧ q = .l 0, ⟨?_, trivial, ?_, ?_, ?_, ?_, ?_, ?_⟩⟩, fun p hp => by simp [vIns, sigIns, qParts] at hp, fun p' hp' k' b' hPk hG' => ?_⟩
  ·refine ⟨.inr ⟨.l 0, 0, 0, len + m, len + m, false, _, rfl, ⟨rfl, rfl⟩, hget3, rfl, by simp [hNl], Nat.le_refl _, hNp, hNc, ?_⟩, fun _ => .inr ⟨.l 0, 0, 6, 0, len + m, len + m, _, rfl, hget3, rfl, by simp [hNl]⟩⟩
   rw [← hNn, List.drop_zero, List.take_of_length_le (show N.length ≤ len + m by omega)]
  ·rintro i j q ⟨rfl, _⟩ ⟨rfl, _⟩; rfl
  ·rintro i q q' ⟨_, rfl⟩ ⟨_, rfl⟩; rfl
  ·intro k' hk'
   have : k' = 0 := by
    have e4 : ((G.map some).set p none ++ [some (⟨6, N, false⟩ : Blk)]).length - G.length = 1 := by simp
    omega
   subst this; exact ⟨0, rfl, rfl⟩
  ·rintro i q ⟨rfl, _⟩; show 0 < Sig.nown _; decide
  ·rintro i k' ⟨_, e⟩
   cases e
   simp
  ·rintro i k' ⟨_, e⟩; cases e
  ·have hlt : k' < G.length := by
    obtain ⟨k2, e, h⟩ := loc p' _ hPk
    cases e; exact h
   rw [List.getElem?_append_left (by simpa using hlt), List.getElem?_set] at hG'
   split at hG'
   ·split at hG' <;> cases hG'
   ·rw [List.getElem?_map] at hG'
    cases hq : G[k']? with
    | none => rw [hq] at hG'; cases hG'
    | some x => rw [hq] at hG'; simp only [Option.map_some, Option.some.injEq] at hG'; subst hG'; exact List.all_eq_true.1 hall _ (List.mem_of_getElem? hq)
end Gv

namespace Gv
open Go
abbrev iu (x : IOp) : IOper := ⟨none, x, none, []⟩
def dA : ICode := .reg [io 6 (.mov (.c .nils))] false
def dB : ICode := .reg [io 8 (.mov (.t 0)), io 9 (.mov (.t 1)), io 10 (.mov (.t 2)), io 11 (.mov (.t 0)), io 12 (.len (.t 11)), io 13 (.slice 6 (.t 8) (some (.t 9)) (some (.t 10)) (some (.t 12)))] false
def dC : ICode := .reg [io 14 (.mov (.t 1)), io 15 (.mov (.t 2)), io 16 (.bin .eql (.t 14) (.t 15))] false
def dD : ICode := .reg [io 17 (.mov (.t 0)), io 6 (.mov (.t 17))] false
def dE : ICode := .reg [io 18 (.mov (.t 0)), io 19 (.len (.t 18)), io 7 (.mov (.t 19))] false
def dFo : List IOper := [⟨(some 20), .mov (.t 0), none, []⟩, ⟨(some 21), .mov (.t 1), none, []⟩, ⟨(some 22), .slice 6 (.t 20) none (some (.t 21)) none, none, [0, 1]⟩, ⟨(some 23), .mov (.t 0), none, []⟩, ⟨(some 24), .mov (.t 2), none, []⟩, ⟨(some 25), .slice 6 (.t 23) (some (.t 24)) none none, none, [3, 4]⟩, ⟨(some 26), .append 6 (.t 22) (.t 25) 0, none, [0, 1, 2, 3, 4, 5]⟩, ⟨(some 0), .mov (.t 26), none, [0, 1, 2, 3, 4, 5, 6]⟩]
def dF : ICode := .reg dFo true
def dG : ICode := .reg [io 27 (.mov (.t 0)), io 28 (.mov (.t 0)), io 29 (.len (.t 28)), io 30 (.mov (.t 7)), io 31 (.slice 6 (.t 27) (some (.t 29)) (some (.t 30)) none), iu (.clear (.agg [(.int .i64 0), (.int .i64 0), (.int .i64 0), (.int .i64 0), (.int .i64 0), .nils]) (.t 31))] false
def dH : ICode := .reg [io 32 (.mov (.t 0)), io 6 (.mov (.t 32))] false
def fDel : IFun := ⟨33, 1, false, [], [.tmp 6], .seq dA (.seq dB (.seq (.seq dC (.cond (.t 16) (.seq dD .ret) .skip)) (.seq dE (.seq dF (.seq dG (.seq dH .ret)))))), none⟩
section
variable {FT : Nat → Option IFun} {h : Heap} {fr : List PV} {n : Nat}
theorem d_B {p off len room i j : Nat} {c0 : Bool} (hl : fr.length = 33) (t0 : nth fr 0 = .tok (.a p) 0 6 off len room c0) (t1 : nth fr 1 = .int .i64 i) (t2 : nth fr 2 = .int .i64 j) (hij : i ≤ j) (hj : j ≤ len) (hr : len ≤ room) :
  ∃ fr', exec FT (n + 1) dB ⟨fr, h⟩ = some (.norm, ⟨fr', h⟩) ∧ fr'.length = 33 ∧ ∀ t, t < 8 → nth fr' t = nth fr t := by
 refine ⟨_, by simp [dB, io, exec, runOps, stepOp, wanted, sem, PO.ev, evO, putDst, HM.run, HM.ofO, nth_upd, upd_length, hl, t0, t1, t2, lenPV, slice2PV, slicePV, sliceTok, optNat, asNat, hij, hj, hr]; rfl, by simp [upd_length, hl], fun t ht => ?_⟩
 simp [nth_upd, upd_length, hl, show t ≠ 8 by omega, show t ≠ 9 by omega, show t ≠ 10 by omega, show t ≠ 11 by omega, show t ≠ 12 by omega, show t ≠ 13 by omega]
theorem d_C {i j : Nat} (hl : fr.length = 33) (t1 : nth fr 1 = .int .i64 i) (t2 : nth fr 2 = .int .i64 j) :
  ∃ fr', exec FT (n + 1) dC ⟨fr, h⟩ = some (.norm, ⟨fr', h⟩) ∧ fr'.length = 33 ∧ nth fr' 16 = .bool (decide (i = j)) ∧ ∀ t, t < 8 → nth fr' t = nth fr t := by
 have hb : ((i : Int) == (j : Int)) = decide (i = j) := by
  by_cases h : i = j
  ·simp [h]
  ·have : ¬ (i : Int) = j := by omega
   simp [h, this]
 refine ⟨_, by simp [dC, io, exec, runOps, stepOp, wanted, sem, PO.ev, putDst, HM.run, HM.ofO, nth_upd, upd_length, hl, t1, t2, Gv.bin, binI, hb]; rfl, by simp [upd_length, hl], by simp [nth_upd, upd_length, hl], fun t ht => ?_⟩
 simp [nth_upd, upd_length, hl, show t ≠ 14 by omega, show t ≠ 15 by omega, show t ≠ 16 by omega]
theorem d_D (hl : fr.length = 33) : ∃ fr', exec FT (n + 1) dD ⟨fr, h⟩ = some (.norm, ⟨fr', h⟩) ∧ nth fr' 6 = nth fr 0 := by
 refine ⟨_, by simp [dD, io, exec, runOps, stepOp, wanted, sem, PO.ev, putDst, HM.run, nth_upd, hl]; rfl, by simp [nth_upd, upd_length, hl]⟩
theorem d_H (hl : fr.length = 33) : ∃ fr', exec FT (n + 1) dH ⟨fr, h⟩ = some (.norm, ⟨fr', h⟩) ∧ nth fr' 6 = nth fr 0 := by
 refine ⟨_, by simp [dH, io, exec, runOps, stepOp, wanted, sem, PO.ev, putDst, HM.run, nth_upd, hl]; rfl, by simp [nth_upd, upd_length, hl]⟩
theorem d_E {p off len room : Nat} {c0 : Bool} (hl : fr.length = 33) (t0 : nth fr 0 = .tok (.a p) 0 6 off len room c0) :
  ∃ fr', exec FT (n + 1) dE ⟨fr, h⟩ = some (.norm, ⟨fr', h⟩) ∧ fr'.length = 33 ∧ nth fr' 7 = .int .i64 len ∧ ∀ t, t < 7 → nth fr' t = nth fr t := by
 refine ⟨_, by simp [dE, io, exec, runOps, stepOp, wanted, sem, PO.ev, putDst, HM.run, HM.ofO, nth_upd, upd_length, hl, t0, lenPV]; rfl, by simp [upd_length, hl], by simp [nth_upd, upd_length, hl], fun t ht => ?_⟩
 simp [nth_upd, upd_length, hl, show t ≠ 18 by omega, show t ≠ 19 by omega, show t ≠ 7 by omega]
def delN (b : Blk) (off i j len : Nat) : List PV := b.es.take (off + i) ++ (b.es.drop (off + j)).take (len - j) ++ b.es.drop (off + i + (len - j))
theorem delN_len {b : Blk} {off i j len : Nat} (hij : i < j) (hj : j ≤ len) (ho : off + len ≤ b.es.length) : (delN b off i j len).length = b.es.length := by
 simp only [delN, List.length_append, List.length_take, List.length_drop]; omega
theorem app_run {b : Blk} {p off len room i j : Nat} (hg : h.get (.a p) = some ⟨0, some b⟩) (hb : b.sz = 6) (hro : b.ro = false) (hp : plL b.es = true) (hs : sized 6 ((b.es.drop (off + j)).take (len - j)) = true) (hij : i < j) (hj : j ≤ len) (hr : len ≤ room) (ho : off + len ≤ b.es.length) (hm : i + (len - j) < maxNew) :
  ∃ h' R W, (appendHM 6 (.tok (.a p) 0 6 off i room false) (.tok (.a p) 0 6 (off + j) (len - j) (room - j) false) 0).runT h = some (.tok (.a p) 0 6 off (i + (len - j)) room false, h', R, W) ∧ h'.get (.a p) = some ⟨0, some ⟨6, delN b off i j len, false⟩⟩ ∧ (h' = h ∨ h' = h.put (.a p) ⟨0, some ⟨6, delN b off i j len, false⟩⟩) := by
 by_cases hl : len - j = 0
 ·have hN : delN b off i j len = b.es := by
   simp only [delN, hl, List.take_zero, List.append_nil, Nat.add_zero, List.take_append_drop]
  have hbe : (⟨6, b.es, false⟩ : Blk) = b := by cases b; simp only at hb hro; subst hb; subst hro; rfl
  refine ⟨h, [], [], ?_, by rw [hN, hbe, hg], .inl rfl⟩
  simp only [appendHM, elems, hl, if_true, HM.bind, sized, HM.mapM, List.isEmpty_nil, Nat.add_zero, HM.runT]
 ·have hvl : ((b.es.drop (off + j)).take (len - j)).length = len - j := by simp only [List.length_take, List.length_drop]; omega
  have hne : ((b.es.drop (off + j)).take (len - j)).isEmpty = false := by
   cases hv : (b.es.drop (off + j)).take (len - j) with
   | nil => rw [hv] at hvl; simp at hvl; omega
   | cons => rfl
  have hpv : plL ((b.es.drop (off + j)).take (len - j)) = true := plL_take (plL_drop hp _) _
  have hmp := mapM_pl2 hpv 7
  have e1 : (elems (.tok (.a p) 0 6 (off + j) (len - j) (room - j) false)).runT h = some ((b.es.drop (off + j)).take (len - j), h, [.a p], []) := by
   simp only [elems, if_neg hl, liveBlk, HM.bind, HM.runT, hg, if_true, HM.ofO]
   rw [if_pos ⟨by omega, hb⟩]; rfl
  have e2 : (appendTok 6 (.a p) 0 off i room ((b.es.drop (off + j)).take (len - j)) 0).runT h = some (.tok (.a p) 0 6 off (i + (len - j)) room false, h.put (.a p) ⟨0, some ⟨6, delN b off i j len, false⟩⟩, [.a p], [.a p]) := by
   simp only [appendTok, liveBlk, HM.bind, HM.runT, hg, if_true, HM.ofO]
   rw [if_pos ⟨hb, hro, by omega, by omega⟩, hvl, if_pos (by omega), if_pos (by omega)]
   simp [HM.runT, hg, delN]
  refine ⟨h.put (.a p) ⟨0, some ⟨6, delN b off i j len, false⟩⟩, [.a p] ++ [.a p], [] ++ [.a p], ?_, Heap.get_put_same hg (fun _ _ => rfl), .inr rfl⟩
  unfold appendHM
  refine HM.runT_bind_of e1 ?_
  rw [if_pos hs, hmp]
  simp only [HM.bind, hne, Bool.false_eq_true, if_false]
  exact e2
theorem d_F {b : Blk} {p off len room i j : Nat} (hl : fr.length = 33) (t0 : nth fr 0 = .tok (.a p) 0 6 off len room false) (t1 : nth fr 1 = .int .i64 i) (t2 : nth fr 2 = .int .i64 j)
  (hg : h.get (.a p) = some ⟨0, some b⟩) (hb : b.sz = 6) (hro : b.ro = false) (hp : plL b.es = true) (hs : sized 6 ((b.es.drop (off + j)).take (len - j)) = true) (hij : i < j) (hj : j ≤ len) (hr : len ≤ room) (ho : off + len ≤ b.es.length) (hm : i + (len - j) < maxNew) :
  ∃ fr' h', exec FT (n + 1) dF ⟨fr, h⟩ = some (.norm, ⟨fr', h'⟩) ∧ fr'.length = 33 ∧ nth fr' 0 = .tok (.a p) 0 6 off (i + (len - j)) room false ∧ nth fr' 7 = nth fr 7 ∧ h'.get (.a p) = some ⟨0, some ⟨6, delN b off i j len, false⟩⟩ ∧ (h' = h ∨ h' = h.put (.a p) ⟨0, some ⟨6, delN b off i j len, false⟩⟩) := by
 obtain ⟨h', R, W, a1, a2, a3⟩ := app_run hg hb hro hp hs hij hj hr ho hm
 refine ⟨_, h', by simp [dF, dFo, exec, runOpsD2, stepT, wanted, sem, PO.ev, evO, putDst, HM.runT, HM.ofO, nth_upd, upd_length, hl, t0, t1, t2, slice2PV, slicePV, sliceTok, PV.isStr, optNat, asNat, hj, hr, show i ≤ room by omega, trOf, apart2, apart, crdOf, a1]; rfl, by simp [upd_length, hl], by simp [nth_upd, upd_length, hl], by simp [nth_upd, upd_length, hl], a2, a3⟩
abbrev zMsg : PV := .agg [.int .i64 0, .int .i64 0, .int .i64 0, .int .i64 0, .int .i64 0, .nils]
def delM (b : Blk) (off i j len : Nat) : List PV := (delN b off i j len).take (off + (i + (len - j))) ++ List.replicate (len - (i + (len - j))) zMsg ++ (delN b off i j len).drop (off + (i + (len - j)) + (len - (i + (len - j))))
theorem d_G {N : List PV} {p off len room L : Nat} (hl : fr.length = 33) (t0 : nth fr 0 = .tok (.a p) 0 6 off L room false) (t7 : nth fr 7 = .int .i64 len) (hg : h.get (.a p) = some ⟨0, some ⟨6, N, false⟩⟩) (hL : L < len) (hr : len ≤ room) (ho : off + len ≤ N.length) :
  ∃ fr', exec FT (n + 1) dG ⟨fr, h⟩ = some (.norm, ⟨fr', h.put (.a p) ⟨0, some ⟨6, N.take (off + L) ++ List.replicate (len - L) zMsg ++ N.drop (off + L + (len - L)), false⟩⟩⟩) ∧ fr'.length = 33 ∧ nth fr' 0 = nth fr 0 := by
 have hc : (clearHM zMsg (.tok (.a p) 0 6 (off + L) (len - L) (room - L) false)).run h = some (.junk, h.put (.a p) ⟨0, some ⟨6, N.take (off + L) ++ List.replicate (len - L) zMsg ++ N.drop (off + L + (len - L)), false⟩⟩) := by
  simp only [clearHM, liveBlk, HM.bind]
  rw [if_neg (by omega)]
  simp only [HM.run, hg, if_true, HM.ofO, HM.bind]
  rw [if_pos ⟨rfl, rfl, trivial, by omega, trivial⟩]
  simp [HM.run, hg]
 refine ⟨_, by simp [dG, io, iu, exec, runOps, stepOp, wanted, sem, PO.ev, evO, putDst, HM.run, HM.ofO, nth_upd, upd_length, hl, t0, t7, lenPV, slice2PV, slicePV, sliceTok, PV.isStr, optNat, asNat, show L ≤ len by omega, hr, hc]; rfl, by simp [upd_length, hl], by simp [nth_upd, upd_length, hl]⟩
end
theorem ex_seq1 {FT : Nat → Option IFun} {n : Nat} {a b : ICode} {σ σ' : St} {r : Option (Ex × St)} (h1 : exec FT n a σ = some (.norm, σ')) (h2 : exec FT n b σ' = r) : exec FT (n + 1) (.seq a b) σ = r := by
 rw [exec.eq_def]; simp only; rw [h1]; exact h2
theorem ex_seq2 {FT : Nat → Option IFun} {n : Nat} {a b : ICode} {σ σ' : St} (h1 : exec FT n a σ = some (.ret, σ')) : exec FT (n + 1) (.seq a b) σ = some (.ret, σ') := by
 rw [exec.eq_def]; simp only; rw [h1]
theorem ex_cond1 {FT : Nat → Option IFun} {n : Nat} {x y : ICode} {σ : St} {t : Nat} {r : Option (Ex × St)} (h : nth σ.fr t = .bool true) (hx : exec FT n x σ = r) : exec FT (n + 1) (.cond (.t t) x y) σ = r := by
 rw [exec.eq_def]; simp only [PO.ev, h]; exact hx
theorem ex_cond2 {FT : Nat → Option IFun} {n : Nat} {x y : ICode} {σ : St} {t : Nat} {r : Option (Ex × St)} (h : nth σ.fr t = .bool false) (hx : exec FT n y σ = r) : exec FT (n + 1) (.cond (.t t) x y) σ = r := by
 rw [exec.eq_def]; simp only [PO.ev, h]; exact hx
theorem ex_ret0 {FT : Nat → Option IFun} {n : Nat} {σ : St} : exec FT (n + 1) .ret σ = some (.ret, σ) := by rw [exec.eq_def]
theorem ex_skip0 {FT : Nat → Option IFun} {n : Nat} {σ : St} : exec FT (n + 1) .skip σ = some (.norm, σ) := by rw [exec.eq_def]
theorem argBlks_A : ∀ (n : Nat) {i : Nat} {h : Heap}, i + n ≤ h.A.length → (argBlks n i).run h = some ((h.A.drop i).take n, h)
 | 0, i, h, _ => rfl
 | n + 1, i, h, hl => by
  have hi : i < h.A.length := by omega
  have ih := argBlks_A n (i := i + 1) (h := h) (by omega)
  have hg : h.get (.a i) = some ⟨0, h.A[i]⟩ := by simp [Heap.get, hi]
  simp only [argBlks, HM.run, hg]
  rw [HM.run_bind, ih]
  simp only [HM.run]
  rw [List.drop_eq_getElem_cons hi, List.take_succ_cons]
theorem blk_ren {x : Blk} (h : plL x.es = true) (f : Ref → Nat → Option (Ref × Nat)) : x.ren f = x := by
 cases x
 simp only [Blk.ren, (plL_ren h f).1]
theorem blkToks_pl : ∀ {l : List (Option Blk)}, (∀ b ∈ l, ∀ x, b = some x → plL x.es = true) → blkToks l = [] ∧ ∀ g : Option Blk → Option Blk, (∀ x, plL x.es = true → g (some x) = some x) → g none = none → l.map g = l
 | [], _ => ⟨rfl, fun _ _ _ => rfl⟩
 | none :: l, h => by
  obtain ⟨a, b⟩ := blkToks_pl (l := l) fun b hb => h b (List.mem_cons_of_mem _ hb)
  exact ⟨by simp only [blkToks, a], fun g g1 g2 => by rw [List.map_cons, b g g1 g2, g2]⟩
 | some x :: l, h => by
  obtain ⟨a, b⟩ := blkToks_pl (l := l) fun b hb => h b (List.mem_cons_of_mem _ hb)
  have hx := h (some x) (by simp) x rfl
  exact ⟨by simp only [blkToks, a, plL_toks hx, List.append_nil], fun g g1 g2 => by rw [List.map_cons, b g g1 g2, g1 x hx]⟩
theorem del_fin {FT : Nat → Option IFun} {n f p off len room : Nat} {x : PV} (hx : x = .tok (.a p) 0 6 off len room false ∨ isNil x) (hF : FT f = some fDel) {args : List PV} {G : List Blk} {σ : St}
  (h : exec FT n fDel.body ⟨args ++ List.replicate (33 - args.length) .junk, ⟨G.map some, [⟨0, none⟩]⟩⟩ = some (.ret, σ)) (h6 : nth σ.fr 6 = x)
  (hA : σ.h.A.length = G.length) (hp : ∀ b ∈ σ.h.A, ∀ x, b = some x → plL x.es = true) : callE FT (n + 1) f args G = some (x, σ.h.A) := by
 rw [callE.eq_def]
 simp only [hF]
 have hi : fDel.intr = none := rfl
 rw [hi]
 simp only
 have hs : (⟨args ++ List.replicate (fDel.ntmps - args.length) PV.junk, ⟨G.map some, List.replicate fDel.nslots ⟨0, none⟩⟩⟩ : St) = ⟨args ++ List.replicate (33 - args.length) .junk, ⟨G.map some, [⟨0, none⟩]⟩⟩ := rfl
 rw [hs, h]
 simp only
 have hf : ∃ h', (finish fDel G.length σ.fr).run σ.h = some ((x, σ.h.A), h') := by
  obtain ⟨b1, b2⟩ := blkToks_pl hp
  have ha : (argBlks G.length 0).run σ.h = some (σ.h.A, σ.h) := by
   rw [argBlks_A _ (by omega)]
   simp [← hA]
  refine ⟨σ.h, ?_⟩
  unfold finish
  rw [HM.run_bind]
  have hr : (resOf σ.fr fDel.res).run σ.h = some ([x], σ.h) := by
   have : fDel.res = [.tmp 6] := rfl
   simp only [this, resOf, HM.bind, HM.run, h6]
  rw [hr]
  simp only
  have hz : fDel.frz = false := rfl
  rw [hz]
  simp only [Bool.false_eq_true, if_false, HM.bind, one]
  rw [HM.run_bind, ha]
  simp only
  rw [HM.run_bind, b1]
  have hc : (collectL 99 (toks x ++ []) []).run σ.h = some ([], σ.h) := by rcases hx with rfl | hx; rfl; rcases hx with rfl | rfl <;> rfl
  rw [hc]
  simp only [List.map_nil, List.append_nil, HM.run]
  rw [b2 _ (fun x hx => by simp only [blk_ren hx]) rfl]
  rcases hx with rfl | hx
  ·rfl
  ·rcases hx with rfl | rfl <;> rfl
 obtain ⟨h', hf⟩ := hf
 rw [hf]
section
variable {FT : Nat → Option IFun} {f p off len room i j : Nat} {b : Blk} {G : List Blk}
theorem del_len : (delN b off i j len).length = b.es.length → off + len ≤ b.es.length → i < j → j ≤ len → (delM b off i j len).length = b.es.length := by
 intro h1 h2 h3 h4
 simp only [delM, List.length_append, List.length_take, List.length_drop, List.length_replicate, h1]; omega
theorem delM_pl (hp : plL b.es = true) : plL (delM b off i j len) = true := by
 have h1 : plL (delN b off i j len) = true := by
  rw [delN, plL_app, plL_app, plL_take hp _, plL_take (plL_drop hp _) _, plL_drop hp _]; rfl
 have h2 : plL (List.replicate (len - (i + (len - j))) zMsg) = true := plL_iff.2 fun y hy => by rw [List.eq_of_mem_replicate hy]; rfl
 rw [delM, plL_app, plL_app, plL_take h1 _, plL_drop h1 _, h2]; rfl
theorem del_run (hF : FT f = some fDel) (hG : G[p]? = some b) (hb : b.sz = 6) (hro : b.ro = false) (hall : ∀ x ∈ G, plL x.es = true) (hs : sized 6 ((b.es.drop (off + j)).take (len - j)) = true) (hij : i < j) (hj : j ≤ len) (hr : len ≤ room) (ho : off + len ≤ b.es.length) (hm : i + (len - j) < maxNew) :
  ∃ n, callE FT n f [.tok (.a p) 0 6 off len room false, .int .i64 i, .int .i64 j] G = some (.tok (.a p) 0 6 off (i + (len - j)) room false, (G.map some).set p (some ⟨6, delM b off i j len, false⟩)) := by
 obtain ⟨h0, hh0⟩ : ∃ h0, h0 = (⟨G.map some, [⟨0, none⟩]⟩ : Heap) := ⟨_, rfl⟩
 have hpl : p < G.length := getElem?_lt hG
 have hg : h0.get (.a p) = some ⟨0, some b⟩ := by subst hh0; simp only [Heap.get, List.getElem?_map, hG, Option.map_some]
 have hpb : plL b.es = true := hall b (List.mem_of_getElem? hG)
 obtain ⟨fr0, hf0⟩ : ∃ fr0, fr0 = [PV.tok (.a p) 0 6 off len room false, .int .i64 i, .int .i64 j] ++ List.replicate 30 PV.junk := ⟨_, rfl⟩
 have hA : ∃ fr1, ∀ n, exec FT (n + 1) dA ⟨fr0, h0⟩ = some (.norm, ⟨fr1, h0⟩) ∧ fr1.length = 33 ∧ nth fr1 0 = .tok (.a p) 0 6 off len room false ∧ nth fr1 1 = .int .i64 i ∧ nth fr1 2 = .int .i64 j := by
  refine ⟨upd fr0 6 .nils, fun n => ⟨by simp [dA, io, exec, runOps, stepOp, wanted, sem, PO.ev, putDst, HM.run], ?_, ?_, ?_, ?_⟩⟩ <;> subst hf0 <;> rfl
 obtain ⟨fr1, hA⟩ := hA
 obtain ⟨_, l1, t0, t1, t2⟩ := hA 0
 obtain ⟨fr2, b1, l2, b3⟩ := d_B (FT := FT) (h := h0) (n := 20) l1 t0 t1 t2 (by omega) hj hr
 obtain ⟨fr3, c1, l3, c2, c3⟩ := d_C (FT := FT) (h := h0) (n := 18) l2 ((b3 1 (by omega)).trans t1) ((b3 2 (by omega)).trans t2)
 have k0 : nth fr3 0 = .tok (.a p) 0 6 off len room false := by rw [c3 0 (by omega), b3 0 (by omega), t0]
 have k1 : nth fr3 1 = .int .i64 i := by rw [c3 1 (by omega), b3 1 (by omega), t1]
 have k2 : nth fr3 2 = .int .i64 j := by rw [c3 2 (by omega), b3 2 (by omega), t2]
 obtain ⟨fr4, e1, l4, e7, e3⟩ := d_E (FT := FT) (h := h0) (n := 18) l3 k0
 obtain ⟨fr5, h5, f1, l5, f0, f7, fg, fh⟩ := d_F (FT := FT) (h := h0) (n := 17) l4 ((e3 0 (by omega)).trans k0) ((e3 1 (by omega)).trans k1) ((e3 2 (by omega)).trans k2) hg hb hro hpb hs hij hj hr ho hm
 have hNl := delN_len (b := b) (off := off) hij hj ho
 obtain ⟨fr6, g1, l6, g0⟩ := d_G (FT := FT) (h := h5) (n := 16) (N := delN b off i j len) (len := len) (L := i + (len - j)) l5 f0 (by rw [f7, e7]) fg (by omega) hr (by omega)
 obtain ⟨fr7, i1, i6⟩ := d_H (FT := FT) (h := h5.put (.a p) ⟨0, some ⟨6, (delN b off i j len).take (off + (i + (len - j))) ++ List.replicate (len - (i + (len - j))) zMsg ++ (delN b off i j len).drop (off + (i + (len - j)) + (len - (i + (len - j)))), false⟩⟩) (n := 15) l6
 have hA5 : (h5.put (.a p) ⟨0, some ⟨6, delM b off i j len, false⟩⟩).A = (G.map some).set p (some ⟨6, delM b off i j len, false⟩) := by
  rcases fh with rfl | rfl
  ·subst hh0; rfl
  ·subst hh0; simp only [Heap.put, List.set_set]
 refine ⟨26, ?_⟩
 rw [← hA5]
 refine del_fin (.inl rfl) (n := 25) (σ := ⟨fr7, h5.put (.a p) ⟨0, some ⟨6, delM b off i j len, false⟩⟩⟩) hF ?_ ?_ ?_ ?_
 ·have e0 : ([PV.tok (.a p) 0 6 off len room false, .int .i64 i, .int .i64 j] ++ List.replicate (33 - [PV.tok (.a p) 0 6 off len room false, PV.int .i64 i, PV.int .i64 j].length) PV.junk) = fr0 := by subst hf0; rfl
  rw [e0, ← hh0]
  exact ex_seq1 (hA 23).1 (ex_seq1 (exec_mono (by omega) b1) (ex_seq1 (ex_seq1 (exec_mono (by omega) c1) (ex_cond2 (by rw [c2, decide_eq_false (by omega)]) ex_skip0)) (ex_seq1 (exec_mono (by omega) e1) (ex_seq1 (exec_mono (by omega) f1) (ex_seq1 (exec_mono (by omega) g1) (ex_seq1 (exec_mono (by omega) i1) ex_ret0))))))
 ·rw [i6, g0, f0]
 ·rw [hA5]; simp
 ·rw [hA5]
  intro x hx y hy
  subst hy
  rcases List.mem_or_eq_of_mem_set hx with hx | hx
  ·obtain ⟨z, hz, e⟩ := List.mem_map.1 hx
   cases e; exact hall _ hz
  ·cases hx; exact delM_pl hpb
theorem d_Bx {n : Nat} {h : Heap} {fr : List PV} {x z : PV} {i len : Nat} (hl : fr.length = 33) (t0 : nth fr 0 = x) (t1 : nth fr 1 = .int .i64 i) (t2 : nth fr 2 = .int .i64 i) (hx : lenPV x = some (.int .i64 len)) (hz : slice2PV 6 x (some (.int .i64 i)) (some (.int .i64 i)) (some (.int .i64 len)) = some z) :
  ∃ fr', exec FT (n + 1) dB ⟨fr, h⟩ = some (.norm, ⟨fr', h⟩) ∧ fr'.length = 33 ∧ ∀ t, t < 8 → nth fr' t = nth fr t := by
 refine ⟨_, by simp [dB, io, exec, runOps, stepOp, wanted, sem, PO.ev, evO, putDst, HM.run, HM.ofO, nth_upd, upd_length, hl, t0, t1, t2, hx, hz]; rfl, by simp [upd_length, hl], fun t ht => ?_⟩
 simp [nth_upd, upd_length, hl, show t ≠ 8 by omega, show t ≠ 9 by omega, show t ≠ 10 by omega, show t ≠ 11 by omega, show t ≠ 12 by omega, show t ≠ 13 by omega]
theorem del_same {x z : PV} (hF : FT f = some fDel) (hxx : x = .tok (.a p) 0 6 off len room false ∨ isNil x) {l : Nat} (hx : lenPV x = some (.int .i64 l)) (hz : slice2PV 6 x (some (.int .i64 i)) (some (.int .i64 i)) (some (.int .i64 l)) = some z) (hall : ∀ x ∈ G, plL x.es = true) :
  ∃ n, callE FT n f [x, .int .i64 i, .int .i64 i] G = some (x, G.map some) := by
 obtain ⟨h0, hh0⟩ : ∃ h0, h0 = (⟨G.map some, [⟨0, none⟩]⟩ : Heap) := ⟨_, rfl⟩
 obtain ⟨fr0, hf0⟩ : ∃ fr0, fr0 = [x, .int .i64 i, .int .i64 i] ++ List.replicate 30 PV.junk := ⟨_, rfl⟩
 have hA : ∃ fr1, ∀ n, exec FT (n + 1) dA ⟨fr0, h0⟩ = some (.norm, ⟨fr1, h0⟩) ∧ fr1.length = 33 ∧ nth fr1 0 = x ∧ nth fr1 1 = .int .i64 i ∧ nth fr1 2 = .int .i64 i := by
  refine ⟨upd fr0 6 .nils, fun n => ⟨by simp [dA, io, exec, runOps, stepOp, wanted, sem, PO.ev, putDst, HM.run], ?_, ?_, ?_, ?_⟩⟩ <;> subst hf0 <;> rfl
 obtain ⟨fr1, hA⟩ := hA
 obtain ⟨_, l1, t0, t1, t2⟩ := hA 0
 obtain ⟨fr2, b1, l2, b3⟩ := d_Bx (FT := FT) (h := h0) (n := 20) l1 t0 t1 t2 hx hz
 obtain ⟨fr3, c1, l3, c2, c3⟩ := d_C (FT := FT) (h := h0) (n := 18) l2 ((b3 1 (by omega)).trans t1) ((b3 2 (by omega)).trans t2)
 obtain ⟨fr4, e1, e6⟩ := d_D (FT := FT) (h := h0) (n := 15) l3
 have hA5 : h0.A = G.map some := by subst hh0; rfl
 refine ⟨26, ?_⟩
 rw [← hA5]
 refine del_fin hxx (n := 25) (σ := ⟨fr4, h0⟩) hF ?_ ?_ ?_ ?_
 ·have e0 : ([x, .int .i64 i, .int .i64 i] ++ List.replicate (33 - [x, PV.int .i64 i, PV.int .i64 i].length) PV.junk) = fr0 := by subst hf0; rfl
  rw [e0, ← hh0]
  exact ex_seq1 (hA 23).1 (ex_seq1 (exec_mono (by omega) b1) (ex_seq2 (ex_seq1 (exec_mono (by omega) c1) (ex_cond1 (by rw [c2, decide_eq_true rfl]) (ex_seq1 (exec_mono (by omega) e1) ex_ret0)))))
 ·rw [e6, c3 0 (by omega), b3 0 (by omega), t0]
 ·rw [hA5]; simp
 ·rw [hA5]
  intro x hx y hy
  subst hy
  obtain ⟨z, hz, e⟩ := List.mem_map.1 hx
  cases e; exact hall _ hz
end
end Gv

namespace Gv
open Go
def sigDel : Sig := ⟨[(.O 6 true), .F, .F], (.O 6 true), false⟩
def vDel : VFun := ⟨sigDel, [], .seq (.st [.asg [.slice 6 (.v 0) (.v 1) (.v 2) .nl, .bin .eql (.v 1) (N' 0), .bin .eql (.v 2) (N' 0)] []]) (.ret (.app 6 (.slice 6 (.v 0) .nl (.v 1) .nl) (.slice 6 (.v 0) (.v 2) .nl .nl)) [])⟩
theorem binI_64 {k : IntKind} {n : Int} {z : PV} (hk : binI .eql k n .i64 0 = some z) : k = .i64 := by
 simp only [binI] at hk
 split at hk
 ·cases hk
 ·rename_i h; exact Decidable.not_not.1 h
theorem vDel_inv {C : CallV} {V : Nat → List PV → List PV → Bool} {x0 x1 x2 x : PV} {os : List PV} (hd : den C V vDel.body (Env.ofArgs [x0, x1, x2]) = some (.ret x os)) :
  ∃ es c i j, x0 = .lst es c ∧ x1 = .int .i64 i ∧ x2 = .int .i64 j ∧ 0 ≤ i ∧ i ≤ j ∧ j ≤ es.length ∧ lstSz es 6 = true ∧ sized 6 (nrmL (es.drop j.toNat)) = true ∧ es.length < maxNew + (j - i) ∧ x = .lst (nrmL (es.take i.toNat) ++ nrmL (es.drop j.toNat)) false ∧ os = [] := by
 have e0 : Env.ofArgs [x0, x1, x2] 0 = x0 := rfl
 have e1 : Env.ofArgs [x0, x1, x2] 1 = x1 := rfl
 have e2 : Env.ofArgs [x0, x1, x2] 2 = x2 := rfl
 generalize Env.ofArgs [x0, x1, x2] = env at *
 have hgood : allGood env [.slice 6 (.v 0) (.v 1) (.v 2) .nl, .bin .eql (.v 1) (N' 0), .bin .eql (.v 2) (N' 0)] = true := by
  cases hb : allGood env [.slice 6 (.v 0) (.v 1) (.v 2) .nl, .bin .eql (.v 1) (N' 0), .bin .eql (.v 2) (N' 0)] with
  | true => rfl
  | false => simp only [vDel, den, runVS, VS.run, hb, Bool.false_eq_true, if_false, obind_none] at hd; cases hd
 simp only [vDel, den, runVS, VS.run, hgood, if_true, bindAll, evAll, obind_some] at hd
 simp only [allGood, Bool.and_eq_true, Bool.and_true] at hgood
 obtain ⟨g0, g1, g2⟩ := hgood
 simp only [X.ev, e0, e1, e2, obind_some] at hd g0 g1 g2
 have k1 : ∃ i, x1 = .int .i64 i := by
  cases x1 <;> simp [Gv.bin] at g1
  rename_i k i
  obtain ⟨z, hz⟩ := Option.isSome_iff_exists.1 g1
  have := binI_64 hz; subst this
  exact ⟨i, rfl⟩
 have k2 : ∃ i, x2 = .int .i64 i := by
  cases x2 <;> simp [Gv.bin] at g2
  rename_i k i
  obtain ⟨z, hz⟩ := Option.isSome_iff_exists.1 g2
  have := binI_64 hz; subst this
  exact ⟨i, rfl⟩
 obtain ⟨i, rfl⟩ := k1
 obtain ⟨j, rfl⟩ := k2
 have hx0 : ∃ es c, x0 = .lst es c := by
  cases x0 <;> first | exact ⟨_, _, rfl⟩ | (exfalso; simp [sliceV, optV] at g0)
 obtain ⟨es, c, rfl⟩ := hx0
 simp only [sliceV, optV, Option.isSome_none, Bool.false_and, Bool.false_eq_true, or_false, Nat.reduceEqDiff, if_false] at g0 hd
 cases h1 : sliceLst 6 es false none (some (.int .i64 i)) none with
 | none => rw [h1] at hd; simp at hd
 | some s1 =>
 cases h2 : sliceLst 6 es false (some (.int .i64 j)) none none with
 | none => rw [h1, h2] at hd; simp at hd
 | some s2 =>
 rw [h1, h2] at hd
 simp only [sliceLst, optNat, asNat] at h1 h2 g0
 by_cases hi : 0 ≤ i
 case neg => rw [if_neg hi] at h1; cases h1
 by_cases hj : 0 ≤ j
 case neg => rw [if_neg hj] at h2; cases h2
 rw [if_pos hi] at h1 g0
 rw [if_pos hj] at h2 g0
 simp only at h1 h2 g0
 split at h1
 case isFalse => cases h1
 rename_i q1
 split at h2
 case isFalse => cases h2
 rename_i q2
 cases h1; cases h2
 split at g0
 case isFalse => simp at g0
 rename_i q0
 simp only [Option.map_some, obind_some, nrm, appV] at hd
 have hnl : ∀ l : List PV, (nrmL l).length = l.length := nrmL_length
 simp only [obind_eq] at hd
 obtain ⟨y, hy, hd⟩ := hd
 cases hd
 split at hy
 case isFalse => cases hy
 rename_i q3
 cases hy
 have hl2 : (es.drop j.toNat).length = es.length - j.toNat := List.length_drop
 rw [List.take_of_length_le (l := es.drop j.toNat) (by omega)] at q3 ⊢
 simp only [List.drop_zero, Nat.sub_zero, hnl, List.length_take, List.length_drop] at q3 ⊢
 exact ⟨es, c, i, j, rfl, rfl, rfl, hi, by omega, by omega, q0.2.2.2, q3.1, by omega, rfl, by first | rfl | trivial⟩
theorem sized_all : ∀ {l : List PV}, (∀ x ∈ l, x.cells.length = 6) → sized 6 l = true
 | [], _ => rfl
 | x :: l, h => by simp only [sized, h x (by simp), beq_self_eq_true, Bool.true_and, sized_all fun y hy => h y (List.mem_cons_of_mem _ hy)]
theorem delM_read {b : Blk} {off i j len : Nat} (hij : i < j) (hj : j ≤ len) (ho : off + len ≤ b.es.length) : ((delM b off i j len).drop off).take (i + (len - j)) = ((b.es.drop off).take len).take i ++ ((b.es.drop off).take len).drop j := by
 have hN := delN_len (b := b) (off := off) hij hj ho
 have l1 : ((delN b off i j len).take (off + (i + (len - j)))).length = off + (i + (len - j)) := by simp only [List.length_take, hN]; omega
 have l2 : (b.es.take (off + i)).length = off + i := by simp only [List.length_take]; omega
 have l3 : ((b.es.drop (off + j)).take (len - j)).length = len - j := by simp only [List.length_take, List.length_drop]; omega
 have a1 : ((delM b off i j len).drop off).take (i + (len - j)) = ((delN b off i j len).drop off).take (i + (len - j)) := by
  rw [delM, List.append_assoc, List.drop_append_of_le_length (by omega), List.take_append_of_le_length (by rw [List.length_drop]; omega), List.drop_take, List.take_take]
  congr 1; omega
 have a2 : ((delN b off i j len).drop off).take (i + (len - j)) = (b.es.drop off).take i ++ (b.es.drop (off + j)).take (len - j) := by
  rw [delN, List.append_assoc, List.drop_append_of_le_length (by omega), List.drop_take, show off + i - off = i by omega, ← List.append_assoc]
  rw [List.take_append_of_le_length (by rw [List.length_append, l3]; simp only [List.length_take, List.length_drop]; omega)]
  rw [List.take_of_length_le (by rw [List.length_append, l3]; simp only [List.length_take, List.length_drop]; omega)]
 rw [a1, a2, List.take_take, show min i len = i by omega, List.drop_take, List.drop_drop]
theorem nrm_tk (k : Nat) (W : List PV) : nrmL (List.take k (nrmL W)) = nrmL (W.take k) := by rw [nrmL_take, nrmL_nrmL, ← nrmL_take]
theorem nrm_dr (k : Nat) (W : List PV) : nrmL (List.drop k (nrmL W)) = nrmL (W.drop k) := by rw [nrmL_drop, nrmL_nrmL, ← nrmL_drop]
theorem del_ent {FT : Nat → Option IFun} {sgs : Nat → Option Sig} {f : Nat} (hF : FT f = some fDel) : EntOk FT sgs f vDel := by
 refine .inr ⟨by kernel_rfl, fun C V xs x os hd hl _ => ?_⟩
 match xs, hl with
 | [x0, x1, x2], _ =>
 obtain ⟨es, c, i, j, rfl, rfl, rfl, hi0, hij, hj, hz, hs, hm, rfl, rfl⟩ := vDel_inv hd
 obtain ⟨i, rfl⟩ : ∃ k : Nat, i = k := ⟨i.toNat, by omega⟩
 obtain ⟨j, rfl⟩ : ∃ k : Nat, j = k := ⟨j.toNat, by omega⟩
 simp only [Int.toNat_natCast] at hs ⊢
 intro args G P kr uP loc hG
 match args, kr with
 | [v0, v1, v2], kr =>
 have kr' := kr
 obtain ⟨⟨t0, w0⟩, ⟨p1, e1⟩, ⟨p2, e2⟩, _⟩ := kr'
 have w0 := w0 rfl
 have e1 : v1 = .int .i64 i := by
  cases v1 <;> simp [nrm] at e1
  obtain ⟨rfl, rfl⟩ := e1; rfl
 subst e1
 have e2 : v2 = .int .i64 j := by
  cases v2 <;> simp [nrm] at e2
  obtain ⟨rfl, rfl⟩ := e2; rfl
 subst e2
 have hgA : ∀ {q : Ref} {i : Nat} {e : Ent}, P i q → (HA G).get q = some e → ∃ p b, q = .a p ∧ G[p]? = some b ∧ e = ⟨0, some b⟩ := fun {q i e} h1 h2 => by
  obtain ⟨p, rfl, hp⟩ := loc i q h1
  simp only [HA, Heap.get, List.getElem?_map] at h2
  have hb := List.getElem?_eq_getElem hp
  rw [hb] at h2
  simp only [Option.map_some, Option.some.injEq] at h2
  exact ⟨p, _, rfl, hb, h2.symm⟩
 rcases t0 with ⟨hn, e⟩ | ⟨r, ver, off, len, room, c0, b, hT, hP, hget, hsz, ho, hr, hpl, hcl, e⟩
 ·-- nothing in it
  cases e
  simp only [List.length_nil] at hj
  obtain rfl : i = 0 := by omega
  obtain rfl : j = 0 := by omega
  have hG0 : G = [] := by
   cases G with
   | nil => rfl
   | cons b bs =>
    have := hG 0 b rfl
    rcases hn with rfl | rfl <;> simp [vDel, sigDel, KBs, KB] at this
  subst hG0
  obtain ⟨n, hn'⟩ := del_same (p := 0) (off := 0) (len := 0) (room := 0) (i := 0) (G := []) (x := v0) (z := v0) (l := 0) hF (.inr hn) (by rcases hn with rfl | rfl <;> rfl) (by rcases hn with rfl | rfl <;> rfl) (by simp)
  refine ⟨n, v0, [], hn', ⟨Nat.le_refl _, by simp, ⟨fun _ _ => False, ⟨⟨.inl ⟨hn, rfl⟩, fun _ => .inl hn⟩, trivial, fun _ _ _ h => h.elim, fun _ _ _ h => h.elim, fun k hk => by simp at hk, fun _ _ h => h.elim, fun _ _ h => h.elim, fun _ _ h => h.elim⟩⟩, fun p hp => by simp [vDel, sigDel, qParts] at hp, fun p _ k b _ h => by simp at h⟩, fun _ h => by cases h⟩
 obtain ⟨p, b', rfl, hGp, eb⟩ := hgA hP hget
 simp only [Ent.mk.injEq, Option.some.injEq] at eb
 obtain ⟨rfl, rfl⟩ := eb
 simp only [PV.lst.injEq] at e
 obtain ⟨rfl, rfl⟩ := e
 subst hT
 obtain ⟨hro, rfl, hroom⟩ : b.ro = false ∧ c0 = false ∧ off + room ≤ b.es.length := by
  rcases w0 with hn | ⟨r3, v3, s3, o3, l3, m3, b3, e3, g3, q3, q4⟩
  ·rcases hn with hn | hn <;> cases hn
  ·cases e3; rw [hget] at g3; cases g3; exact ⟨q3, rfl, q4⟩
 have hWl : ((b.es.drop off).take len).length = len := by simp; omega
 simp only [nrmL_length, hWl] at hj hm
 have hlt : p < G.length := getElem?_lt hGp
 have hone : ∀ (k : Nat) (x : Blk), G[k]? = some x → k = p ∧ x = b := fun k x hx => by
  have := hG k x hx
  simp only [vDel, sigDel, KBs, KB, hget, List.append_nil, List.mem_cons, Prod.mk.injEq, List.not_mem_nil, or_false] at this
  obtain ⟨e, _, e'⟩ := this
  cases e; exact ⟨rfl, e'⟩
 have hall : ∀ x ∈ G, plL x.es = true := fun x hx => by
  obtain ⟨k, hk⟩ := List.mem_iff_getElem?.1 hx
  rw [(hone k x hk).2]; exact hpl
 rw [nrm_tk i, nrm_dr j, ← nrmL_app]
 /- what is handed back stands where it stood -/
 have fin : ∀ (N : List PV) (L n : Nat), callE FT n f [.tok (.a p) 0 6 off len room false, .int .i64 i, .int .i64 j] G = some (.tok (.a p) 0 6 off L room false, (G.map some).set p (some ⟨6, N, false⟩)) → N.length = b.es.length → plL N = true → (∀ e ∈ N, e.cells.length = 6) → L ≤ room →
   (N.drop off).take L = ((b.es.drop off).take len).take i ++ ((b.es.drop off).take len).drop j →
   ∃ n rE G', callE FT n f [.tok (.a p) 0 6 off len room false, .int .i64 i, .int .i64 j] G = some (rE, G') ∧ ExitOk vDel.sig P [.tok (.a p) 0 6 off len room false, .int .i64 i, .int .i64 j] G G' rE (.lst (nrmL (((b.es.drop off).take len).take i ++ ((b.es.drop off).take len).drop j)) false) [] ∧ (K.nL vDel.sig.ps = 0 → vDel.sig.scal = true → noRef rE = true ∧ noRefB (G'.drop G.length) = true) := by
  intro N L n hc hN hNp hNc hL hW
  have hget3 : (HX G.length ((G.map some).set p (some (⟨6, N, false⟩ : Blk)))).get (.a p) = some ⟨0, some ⟨6, N, false⟩⟩ := by
   simp [HX, Heap.get, hlt]
  have hd0 : ((G.map some).set p (some (⟨6, N, false⟩ : Blk))).drop G.length = [] := by
   apply List.drop_eq_nil_of_le; simp
  refine ⟨n, _, _, hc, ⟨by simp, (by rw [hd0]; intro x hx; cases hx), ⟨fun i q => i = 0 ∧ q = .a p, ⟨?_, trivial, ?_, ?_, ?_, ?_, ?_, ?_⟩⟩, fun p hp => by simp [vDel, sigDel, qParts] at hp, fun p' hp' k' b' hPk hG' => ?_⟩, fun _ h => by cases h⟩
  ·refine ⟨.inr ⟨.a p, 0, off, L, room, false, _, rfl, ⟨rfl, rfl⟩, hget3, rfl, by simp only; omega, hL, hNp, hNc, by rw [hW]⟩, fun _ => .inr ⟨.a p, 0, 6, off, L, room, _, rfl, hget3, rfl, by simp only; omega⟩⟩
  ·rintro i j q ⟨rfl, _⟩ ⟨rfl, _⟩; rfl
  ·rintro i q q' ⟨_, rfl⟩ ⟨_, rfl⟩; rfl
  ·intro k' hk'; simp at hk'
  ·rintro i q ⟨rfl, _⟩; show 0 < Sig.nown _; decide
  ·rintro i k' ⟨_, e⟩; cases e
  ·rintro i k' ⟨rfl, e⟩
   cases e
   exact ⟨0, .inl ⟨by decide, by decide⟩, hP⟩
  ·rw [List.getElem?_set] at hG'
   split at hG'
   ·split at hG'
    ·cases hG'; exact hNp
    ·cases hG'
   ·rw [List.getElem?_map] at hG'
    cases hq : G[k']? with
    | none => rw [hq] at hG'; cases hG'
    | some x => rw [hq] at hG'; simp only [Option.map_some, Option.some.injEq] at hG'; subst hG'; exact hall _ (List.mem_of_getElem? hq)
 by_cases he : i = j
 ·subst he
  have hsl : slice2PV 6 (.tok (.a p) 0 6 off len room false) (some (.int .i64 i)) (some (.int .i64 i)) (some (.int .i64 len)) = some (.tok (.a p) 0 6 (off + i) (i - i) (len - i) (len == i)) := by
   simp [slice2PV, slicePV, sliceTok, PV.isStr, optNat, asNat, show i ≤ len by omega, hr]
  obtain ⟨n, hn⟩ := del_same (G := G) (l := len) hF (.inl rfl) (by rfl) hsl hall
  have hbe : (⟨6, b.es, false⟩ : Blk) = b := by cases b; simp only at hsz hro; subst hsz; subst hro; rfl
  have hset : (G.map some).set p (some ⟨6, b.es, false⟩) = G.map some := by
   rw [hbe]
   apply List.ext_getElem?
   intro k
   rw [List.getElem?_set]
   split
   ·rename_i e; subst e; simp [hlt]; exact (List.getElem?_eq_some_iff.1 hGp).2.symm
   ·rfl
  refine fin b.es len n (by rw [hset]; exact hn) rfl hpl hcl hr ?_
  rw [List.take_append_drop]
 ·obtain ⟨n, hn⟩ := del_run (G := G) hF hGp hsz hro hall (sized_all fun x hx => hcl x (List.mem_of_mem_drop (List.mem_of_mem_take hx))) (show i < j by omega) (by omega) hr ho (by omega)
  refine fin _ _ n hn (del_len (delN_len (by omega) (by omega) ho) ho (by omega) (by omega)) (delM_pl hpl) (fun x hx => ?_) (by omega) ?_
  ·have hN : ∀ x ∈ delN b off i j len, x.cells.length = 6 := fun x hx => by
    rcases List.mem_append.1 hx with hx | hx
    ·rcases List.mem_append.1 hx with hx | hx
     ·exact hcl x (List.mem_of_mem_take hx)
     ·exact hcl x (List.mem_of_mem_drop (List.mem_of_mem_take hx))
    ·exact hcl x (List.mem_of_mem_drop hx)
   rcases List.mem_append.1 hx with hx | hx
   ·rcases List.mem_append.1 hx with hx | hx
    ·exact hN x (List.mem_of_mem_take hx)
    ·rw [List.eq_of_mem_replicate hx]; rfl
   ·exact hN x (List.mem_of_mem_drop hx)
  ·exact delM_read (by omega) (by omega) ho
end Gv

namespace Gv
open Go
def OkFrom (FT : Nat → Option IFun) (sgs : Nat → Option Sig) : Nat → List (Option VFun) → Prop
 | _, [] => True
 | n, none :: l => OkFrom FT sgs (n + 1) l
 | n, some F :: l => (F.binds = [] ∧ EntOk FT sgs n F) ∧ OkFrom FT sgs (n + 1) l
theorem OkFrom.get {FT : Nat → Option IFun} {sgs : Nat → Option Sig} : ∀ {l : List (Option VFun)} {n : Nat}, OkFrom FT sgs n l → ∀ {k : Nat} {F : VFun}, l[k]? = some (some F) → F.binds = [] ∧ EntOk FT sgs (n + k) F
 | none :: l, n, h, 0, F, hk => by simp at hk
 | none :: l, n, h, k + 1, F, hk => by
  have := OkFrom.get (l := l) (n := n + 1) h (k := k) (F := F) (by simpa using hk)
  rw [show n + (k + 1) = n + 1 + k by omega]; exact this
 | some G :: l, n, h, 0, F, hk => by
  simp only [List.getElem?_cons_zero, Option.some.injEq] at hk
  subst hk; exact h.1
 | some G :: l, n, h, k + 1, F, hk => by
  have := OkFrom.get (l := l) (n := n + 1) h.2 (k := k) (F := F) (by simpa using hk)
  rw [show n + (k + 1) = n + 1 + k by omega]; exact this
theorem vtok_of {FT : Nat → Option IFun} {l : List (Option VFun)} (h : OkFrom FT (fun g => (tabV l g).map VFun.sig) 0 l) : VTOk' FT (tabV l) := fun f F hf => by
 have hk : l[f]? = some (some F) := by
  unfold tabV at hf
  rw [List.getD_eq_getElem?_getD] at hf
  cases hq : l[f]? with
  | none => rw [hq] at hf; simp at hf
  | some x => rw [hq] at hf; simp only [Option.getD_some] at hf; rw [hf]
 have := h.get hk
 rwa [Nat.zero_add] at this
end Gv

namespace Gv
open Go
def cOps : List IOper := [io 5 (.buildSlice none [] 0), io 6 (.mov (.t 0)), io 7 (.append 1 (.t 5) (.t 6) 1), io 2 (.mov (.t 7))]
def fCl : IFun := ⟨8, 2, false, [true], [.tmp 2],
 (.seq
 (.reg [io 2 (.mov (.c .nils))] false)
 (.seq
  (.seq
  (.reg [io 3 (.mov (.t 0)), io 4 (.eqn 0 false (.t 3) (.c .nils))] false)
  (.cond (.t 4)
   (.seq
   (.reg [io 2 (.mov (.c .nils))] false)
   .ret)
   .skip))
  (.seq
  (.reg cOps false)
  .ret))), none⟩
theorem cl_nil {FT : Nat → Option IFun} {f : Nat} (hF : FT f = some fCl) : callE FT 20 f [.nils] [] = some (.nils, []) := by
 rw [callE.eq_def]
 simp only [hF]
 rfl
theorem cl_app {es : List PV} {c : Bool} (hp : plL es = true) (hs : sized 1 es = true) (hm : es.length < maxNew) (hne : es ≠ []) {h : Heap} (h0 : h.get (.l 0) = some ⟨1, some ⟨1, [], false⟩⟩) (h1 : h.get (.l 1) = some ⟨0, none⟩) :
  (appendHM 1 (.tok (.l 0) 1 1 0 0 0 false) (.lst es c) 1).run h = some (.tok (.l 1) 1 1 0 es.length es.length false, (h.put (.l 0) ⟨1, none⟩).put (.l 1) ⟨1, some ⟨1, es, false⟩⟩) := by
 have hmp := mapM_pl2 hp 7
 have he : es.isEmpty = false := by cases es with | nil => exact absurd rfl hne | cons => rfl
 have hpos : 0 < es.length := List.length_pos_iff.2 hne
 have h1' : (h.put (.l 0) ⟨1, none⟩).get (.l 1) = some ⟨0, none⟩ := by rw [Heap.get_put_other (by intro h; cases h)]; exact h1
 simp only [appendHM, elems, HM.bind]
 rw [if_pos hs, hmp]
 simp only [HM.bind, he, Bool.false_eq_true, if_false, appendTok, liveBlk, HM.run, h0, if_true, HM.ofO]
 rw [if_pos ⟨trivial, trivial, by simp, by omega⟩, if_neg (by omega), if_neg (by simp)]
 simp [HM.run, h0, newBlk, h1', HM.bind]
theorem cl_run {FT : Nat → Option IFun} {f : Nat} (hF : FT f = some fCl) {es : List PV} {c : Bool} (hp : plL es = true) (hs : sized 1 es = true) (hm : es.length < maxNew) :
  callE FT 20 f [.lst es c] [] = some (.tok (.l 0) 0 1 0 es.length es.length false, [some ⟨1, es, false⟩]) := by
 cases hes : es with
 | nil =>
  subst hes
  rw [callE.eq_def]
  simp only [hF]
  rfl
 | cons y ys =>
  rw [← hes]
  have hne : es ≠ [] := by rw [hes]; simp
  have happ := cl_app (c := c) hp hs hm hne (h := ⟨[], [⟨1, some ⟨1, [], false⟩⟩, ⟨0, none⟩]⟩) rfl rfl
  clear hes
  have hreg : runOps (fun f => match FT f with | some F => F.ro | none => []) (callE FT 14) cOps ⟨[.lst es c, .junk, .nils, .lst es c, .bool false, .junk, .junk, .junk], ⟨[], [⟨0, none⟩, ⟨0, none⟩]⟩⟩ =
    some ⟨[.lst es c, .junk, .tok (.l 1) 1 1 0 es.length es.length false, .lst es c, .bool false, .tok (.l 0) 1 1 0 0 0 false, .lst es c, .tok (.l 1) 1 1 0 es.length es.length false], ⟨[], [⟨1, none⟩, ⟨1, some ⟨1, es, false⟩⟩]⟩⟩ := by
   have e1 : stepOp (fun f => match FT f with | some F => F.ro | none => []) (callE FT 14) (io 5 (.buildSlice none [] 0)) ⟨[.lst es c, .junk, .nils, .lst es c, .bool false, .junk, .junk, .junk], ⟨[], [⟨0, none⟩, ⟨0, none⟩]⟩⟩ = some ⟨[.lst es c, .junk, .nils, .lst es c, .bool false, .tok (.l 0) 1 1 0 0 0 false, .junk, .junk], ⟨[], [⟨1, some ⟨1, [], false⟩⟩, ⟨0, none⟩]⟩⟩ := rfl
   have e2 : stepOp (fun f => match FT f with | some F => F.ro | none => []) (callE FT 14) (io 6 (.mov (.t 0))) ⟨[.lst es c, .junk, .nils, .lst es c, .bool false, .tok (.l 0) 1 1 0 0 0 false, .junk, .junk], ⟨[], [⟨1, some ⟨1, [], false⟩⟩, ⟨0, none⟩]⟩⟩ = some ⟨[.lst es c, .junk, .nils, .lst es c, .bool false, .tok (.l 0) 1 1 0 0 0 false, .lst es c, .junk], ⟨[], [⟨1, some ⟨1, [], false⟩⟩, ⟨0, none⟩]⟩⟩ := rfl
   have e3 : stepOp (fun f => match FT f with | some F => F.ro | none => []) (callE FT 14) (io 7 (.append 1 (.t 5) (.t 6) 1)) ⟨[.lst es c, .junk, .nils, .lst es c, .bool false, .tok (.l 0) 1 1 0 0 0 false, .lst es c, .junk], ⟨[], [⟨1, some ⟨1, [], false⟩⟩, ⟨0, none⟩]⟩⟩ = some ⟨[.lst es c, .junk, .nils, .lst es c, .bool false, .tok (.l 0) 1 1 0 0 0 false, .lst es c, .tok (.l 1) 1 1 0 es.length es.length false], ⟨[], [⟨1, none⟩, ⟨1, some ⟨1, es, false⟩⟩]⟩⟩ := by
    show (match (appendHM 1 (.tok (.l 0) 1 1 0 0 0 false) (.lst es c) 1).run ⟨[], [⟨1, some ⟨1, [], false⟩⟩, ⟨0, none⟩]⟩ with | some (v, h) => some (⟨upd _ 7 v, h⟩ : St) | none => none) = _
    rw [happ]; rfl
   simp only [cOps, runOps, e1, e2, e3]
   rfl
  have hex : exec FT 19 fCl.body ⟨[.lst es c, .junk, .junk, .junk, .junk, .junk, .junk, .junk], ⟨[], [⟨0, none⟩, ⟨0, none⟩]⟩⟩ = some (.ret, ⟨[.lst es c, .junk, .tok (.l 1) 1 1 0 es.length es.length false, .lst es c, .bool false, .tok (.l 0) 1 1 0 0 0 false, .lst es c, .tok (.l 1) 1 1 0 es.length es.length false], ⟨[], [⟨1, none⟩, ⟨1, some ⟨1, es, false⟩⟩]⟩⟩) := by
   have g1 : exec FT 18 (.reg [io 2 (.mov (.c .nils))] false) ⟨[.lst es c, .junk, .junk, .junk, .junk, .junk, .junk, .junk], ⟨[], [⟨0, none⟩, ⟨0, none⟩]⟩⟩ = some (.norm, ⟨[.lst es c, .junk, .nils, .junk, .junk, .junk, .junk, .junk], ⟨[], [⟨0, none⟩, ⟨0, none⟩]⟩⟩) := rfl
   have g2 : exec FT 16 (.reg [io 3 (.mov (.t 0)), io 4 (.eqn 0 false (.t 3) (.c .nils))] false) ⟨[.lst es c, .junk, .nils, .junk, .junk, .junk, .junk, .junk], ⟨[], [⟨0, none⟩, ⟨0, none⟩]⟩⟩ = some (.norm, ⟨[.lst es c, .junk, .nils, .lst es c, .bool false, .junk, .junk, .junk], ⟨[], [⟨0, none⟩, ⟨0, none⟩]⟩⟩) := rfl
   refine ex_seq1 g1 (ex_seq1 (ex_seq1 g2 (ex_cond2 rfl ex_skip0)) (ex_seq1 (n := 16) ?_ ex_ret0))
   rw [exec.eq_def]; simp only
   have h2 := runOps_le (callE_mono (FT := FT) (n := 14) (m := 15) (by omega)) hreg
   change (match runOps (fun f => match FT f with | some F => F.ro | none => []) (callE FT 15) cOps _ with | some σ' => some (Ex.norm, σ') | none => none) = _
   rw [h2]
  rw [callE.eq_def]
  simp only [hF]
  have hi : fCl.intr = none := rfl
  rw [hi]
  simp only
  have hs0 : (⟨[PV.lst es c] ++ List.replicate (fCl.ntmps - [PV.lst es c].length) PV.junk, ⟨List.map some ([] : List Blk), List.replicate fCl.nslots ⟨0, none⟩⟩⟩ : St) = ⟨[.lst es c, .junk, .junk, .junk, .junk, .junk, .junk, .junk], ⟨[], [⟨0, none⟩, ⟨0, none⟩]⟩⟩ := rfl
  rw [hs0, hex]
  simp only
  have ht : toksL es = [] := plL_toks hp
  have hren : ∀ g, renL g es = es := fun g => (plL_ren hp g).1
  have hfin : (finish fCl ([] : List Blk).length [.lst es c, .junk, .tok (.l 1) 1 1 0 es.length es.length false, .lst es c, .bool false, .tok (.l 0) 1 1 0 0 0 false, .lst es c, .tok (.l 1) 1 1 0 es.length es.length false]).run ⟨[], [⟨1, none⟩, ⟨1, some ⟨1, es, false⟩⟩]⟩ = some ((.tok (.l 0) 0 1 0 es.length es.length false, [some ⟨1, es, false⟩]), ⟨[], [⟨1, none⟩, ⟨1, some ⟨1, es, false⟩⟩]⟩) := by
   unfold finish
   simp [fCl, resOf, HM.bind, HM.run, one, argBlks, toks, blkToks, collectL, Heap.get, nth, idxOf, ren, Blk.ren, hren, ht]
  rw [hfin]
end Gv

namespace Gv
open Go
def vCl' : VFun := ⟨⟨[.F], .O 1 true, true⟩, [], .seq (.st [.asg [.len (.v 0)] []]) (.ret (.app 1 (.lst .nl) (.v 0)) [])⟩
theorem vCl_inv {C : CallV} {V : Nat → List PV → List PV → Bool} {x0 x : PV} {os : List PV} (hd : den C V vCl'.body (Env.ofArgs [x0]) = some (.ret x os)) :
  ∃ es c, x0 = .lst es c ∧ sized 1 es = true ∧ es.length < maxNew ∧ x = .lst es false ∧ os = [] := by
 have e0 : Env.ofArgs [x0] 0 = x0 := rfl
 generalize Env.ofArgs [x0] = env at *
 have hgood : allGood env [.len (.v 0)] = true := by
  cases hb : allGood env [.len (.v 0)] with
  | true => rfl
  | false => simp only [vCl', den, runVS, VS.run, hb, Bool.false_eq_true, if_false, obind_none] at hd; cases hd
 simp only [vCl', den, runVS, VS.run, hgood, if_true, bindAll, evAll, obind_some] at hd
 simp only [allGood, Bool.and_true, X.ev, e0, obind_some] at hgood
 simp only [X.ev, e0, obind_some, listOf] at hd
 cases x0 <;> simp [lenV] at hgood
 rename_i es c
 simp only [obind_eq] at hd
 obtain ⟨y, hy, hd⟩ := hd
 cases hd
 simp only [appV] at hy
 split at hy
 case isFalse => cases hy
 rename_i q
 cases hy
 simp only [List.length_nil, Nat.zero_add] at q
 exact ⟨es, c, rfl, q.1, q.2, by simp, rfl⟩
theorem noRefL_sc : ∀ {es : List PV}, (nrmL es).all (fun | .int .. | .bool _ | .str _ | .nilp | .nilfn => true | _ => false) = true → plL es = true → noRefL es = true
 | [], _, _ => rfl
 | e :: es, h, hp => by
  simp only [nrmL, List.all_cons, Bool.and_eq_true] at h
  simp only [plL, Bool.and_eq_true] at hp
  have ih := noRefL_sc (es := es) h.2 hp.2
  simp only [noRefL, ih, Bool.and_true]
  cases e <;> simp_all [nrm, noRef]
theorem cl_ent {FT : Nat → Option IFun} {sgs : Nat → Option Sig} {f : Nat} (hF : FT f = some fCl) : EntOk FT sgs f vCl' := by
 refine .inr ⟨by kernel_rfl, fun C V xs x os hd hl hsc => ?_⟩
 match xs, hl with
 | [x0], _ =>
 obtain ⟨ys, c, rfl, hs, hm, rfl, rfl⟩ := vCl_inv hd
 have hsc := hsc rfl
 have hso : scalO (.lst ys false) = true := by
  rcases hsc with h | h
  ·simp [scalV] at h
  ·exact h
 intro args G P kr uP loc hG
 match args, kr with
 | [v0], kr =>
 obtain ⟨⟨p0, e0⟩, _⟩ := kr
 have hG0 : G = [] := by
  cases G with
  | nil => rfl
  | cons b bs => have := hG 0 b rfl; simp [vCl', KBs, KB] at this
 subst hG0
 have hfl : ∀ {n : Nat} {rE : PV} {G' : List (Option Blk)}, callE FT n f [v0] [] = some (rE, G') → ExitOk vCl'.sig P [v0] [] G' rE (.lst ys false) [] → (noRef rE = true ∧ noRefB (G'.drop 0) = true) →
   ∃ n rE G', callE FT n f [v0] [] = some (rE, G') ∧ ExitOk vCl'.sig P [v0] [] G' rE (.lst ys false) [] ∧ (K.nL vCl'.sig.ps = 0 → vCl'.sig.scal = true → noRef rE = true ∧ noRefB (G'.drop ([] : List Blk).length) = true) :=
  fun h1 h2 h3 => ⟨_, _, _, h1, h2, fun _ _ => h3⟩
 cases v0 with
 | nils =>
  simp only [nrm] at e0
  cases e0
  refine hfl (cl_nil hF) ⟨Nat.le_refl _, by simp, ⟨fun _ _ => False, ⟨⟨.inl ⟨.inl rfl, rfl⟩, fun _ => .inl (.inl rfl)⟩, trivial, fun _ _ _ h => h.elim, fun _ _ _ h => h.elim, fun k hk => by simp at hk, fun _ _ h => h.elim, fun _ _ h => h.elim, fun _ _ h => h.elim⟩⟩, fun p hp => by simp [vCl', qParts] at hp, fun p _ k b _ h => by simp at h⟩ ⟨rfl, rfl⟩
 | lst es c0 =>
  simp only [nrm, PV.lst.injEq] at e0
  obtain ⟨rfl, rfl⟩ := e0
  simp only [pl] at p0
  have hs' : sized 1 es = true := by
   have key : ∀ {l : List PV}, sized 1 (nrmL l) = true → sized 1 l = true := by
    intro l
    induction l with
    | nil => intro _; rfl
    | cons a l ih =>
     intro h
     simp only [nrmL, sized, Bool.and_eq_true] at h ⊢
     refine ⟨?_, ih h.2⟩
     have h1 := h.1
     cases a <;> simp_all [nrm, PV.cells, nrmL_length]
   exact key hs
  have hm' : es.length < maxNew := by rwa [nrmL_length] at hm
  have hnr : noRefL es = true := noRefL_sc hso p0
  have hcl : ∀ e ∈ es, e.cells.length = 1 := sized_mem hs'
  have hget : (HX 0 [some (⟨1, es, false⟩ : Blk)]).get (.l 0) = some ⟨0, some ⟨1, es, false⟩⟩ := rfl
  refine hfl (cl_run hF p0 hs' hm') ⟨Nat.zero_le _, by simp, ⟨fun i q => i = 0 ∧ q = .l 0, ⟨?_, trivial, ?_, ?_, ?_, ?_, ?_, ?_⟩⟩, fun p hp => by simp [vCl', qParts] at hp, fun p' hp' k' b' hPk hG' => ?_⟩ ⟨rfl, by simp [noRefB, hnr]⟩
  ·refine ⟨.inr ⟨.l 0, 0, 0, es.length, es.length, false, _, rfl, ⟨rfl, rfl⟩, hget, rfl, by simp, Nat.le_refl _, p0, hcl, by simp⟩, fun _ => .inr ⟨.l 0, 0, 1, 0, es.length, es.length, _, rfl, hget, rfl, by simp⟩⟩
  ·rintro i j q ⟨rfl, _⟩ ⟨rfl, _⟩; rfl
  ·rintro i q q' ⟨_, rfl⟩ ⟨_, rfl⟩; rfl
  ·intro k' hk'
   have : k' = 0 := by simp at hk'; exact hk'
   subst this; exact ⟨0, rfl, rfl⟩
  ·rintro i q ⟨rfl, _⟩; show 0 < Sig.nown _; decide
  ·rintro i k' ⟨_, e⟩; cases e; simp
  ·rintro i k' ⟨_, e⟩; cases e
  ·obtain ⟨k2, e, h⟩ := loc p' _ hPk
   simp at h
 | _ => simp [nrm] at e0
end Gv
