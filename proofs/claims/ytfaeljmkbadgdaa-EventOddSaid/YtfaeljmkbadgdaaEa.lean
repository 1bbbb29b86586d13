/- What this file proves: one part of the proof that the law answers true for every input, by an interpreter that is proved sound against the given model. -/
import GoSem.Core.Code
import GoSem.Dispatch
import Derived.Below
import Derived.LoopN
import Derived.Orders
import Derived.Laws.AppendOwn
import Derived.Laws.CopyOwn
import Derived.WalkKit
import Derived.Laws.Strings
import Derived.Laws.Tables
import Derived.Laws.StructEq
namespace Gv
open Go (IntKind BinOp UnOp)

inductive Ref where
 | a (i : Nat)
 | l (s : Nat)
 | dead
 deriving DecidableEq, Inhabited

inductive PV where
 | int (k : IntKind) (n : Int)
 | bool (b : Bool)
 | str (s : List UInt8)
 | nils
 | lst (es : List PV) (c0 : Bool)
 | tok (r : Ref) (ver sz off len room : Nat) (c0 : Bool)
 | ptr (r : Ref) (ver i o : Nat)
 | nilp
 | lptr (cs : List PV)
 | agg (cs : List PV)
 | tup (vs : List PV)
 | fn (f : Nat) (caps : List PV)
 | nilfn
 | junk
 deriving Inhabited

structure Blk where
 sz : Nat
 es : List PV
 ro : Bool := false

structure Ent where
 ver : Nat
 blk : Option Blk

structure Heap where
 A : List (Option Blk)
 L : List Ent

def Heap.get (h : Heap) : Ref → Option Ent
 | .a i => match h.A[i]? with | some b => some ⟨0, b⟩ | none => none
 | .l s => h.L[s]?
 | .dead => none
def Heap.put (h : Heap) : Ref → Ent → Heap
 | .a i, e => ⟨h.A.set i e.blk, h.L⟩
 | .l s, e => ⟨h.A, h.L.set s e⟩
 | .dead, _ => h

inductive HM (α : Type) where
 | ret (a : α)
 | fail
 | get (r : Ref) (k : Ent → HM α)
 | set (r : Ref) (e : Ent) (k : HM α)

namespace HM
def bind {α β : Type} : HM α → (α → HM β) → HM β
 | .ret a, f => f a
 | .fail, _ => .fail
 | .get r k, f => .get r fun e => (k e).bind f
 | .set r e k, f => .set r e (k.bind f)
def run {α : Type} : HM α → Heap → Option (α × Heap)
 | .ret a, h => some (a, h)
 | .fail, _ => none
 | .get r k, h => match h.get r with | some e => (k e).run h | none => none
 | .set r e k, h => match h.get r with | some _ => k.run (h.put r e) | none => none
def runT {α : Type} : HM α → Heap → Option (α × Heap × List Ref × List Ref)
 | .ret a, h => some (a, h, [], [])
 | .fail, _ => none
 | .get r k, h => match h.get r with
  | some e => match (k e).runT h with | some (a, h', R, W) => some (a, h', r :: R, W) | none => none
  | none => none
 | .set r e k, h => match h.get r with
  | some _ => match k.runT (h.put r e) with | some (a, h', R, W) => some (a, h', R, r :: W) | none => none
  | none => none
def mapM {α β : Type} (f : α → HM β) : List α → HM (List β)
 | [] => .ret []
 | x :: xs => (f x).bind fun y => (mapM f xs).bind fun ys => .ret (y :: ys)
def ofO {α : Type} : Option α → HM α
 | some a => .ret a
 | none => .fail
def guard (b : Bool) : HM Unit := if b then .ret () else .fail
end HM

def PV.isCell : PV → Bool
 | .agg _ => false
 | .tup _ => false
 | .junk => false
 | _ => true
def okCells : List PV → Bool
 | [] => true
 | v :: vs => v.isCell && okCells vs
def PV.cells : PV → List PV
 | .agg cs => cs
 | v => [v]
def PV.withCells (old : PV) (cs : List PV) : PV :=
 match old with
 | .agg _ => .agg cs
 | _ => cs.headD .junk
def loadC (cs : List PV) (o : Nat) : Option Nat → Option PV
 | none => cs[o]?
 | some n => if o + n ≤ cs.length then some (.agg ((cs.drop o).take n)) else none
def PV.fits (v : PV) : Option Nat → Bool
 | none => match v with | .agg _ => false | .tup _ => false | .junk => false | _ => true
 | some n => match v with | .agg cs => cs.length == n | _ => false

def liveBlk (r : Ref) (ver : Nat) : HM Blk :=
 .get r fun e => if e.ver = ver then HM.ofO e.blk else .fail
def newBlk (s : Nat) (b : Blk) : HM Nat :=
 .get (.l s) fun e => .set (.l s) ⟨e.ver + 1, some b⟩ (.ret (e.ver + 1))

def elems : PV → HM (List PV)
 | .nils => .ret []
 | .lst es _ => .ret es
 | .str s => .ret (s.map fun b => .int .u8 b.toNat)
 | .tok r ver sz off len _ _ =>
  if len = 0 then .ret [] else
  (liveBlk r ver).bind fun b => if off + len ≤ b.es.length ∧ b.sz = sz then .ret ((b.es.drop off).take len) else .fail
 | _ => .fail

mutual
def toks : PV → List (Ref × Nat)
 | .tok r v _ _ _ _ _ => [(r, v)]
 | .ptr r v _ _ => [(r, v)]
 | .agg cs => toksL cs
 | .tup cs => toksL cs
 | .fn _ cs => toksL cs
 | _ => []
def toksL : List PV → List (Ref × Nat)
 | [] => []
 | x :: xs => toks x ++ toksL xs
end
mutual
def ren (f : Ref → Nat → Option (Ref × Nat)) : PV → PV
 | .tok r v sz off len room c0 => match f r v with | some (r', v') => .tok r' v' sz off len room c0 | none => .tok .dead 0 sz off len room c0
 | .ptr r v i o => match f r v with | some (r', v') => .ptr r' v' i o | none => .ptr .dead 0 i o
 | .agg cs => .agg (renL f cs)
 | .tup cs => .tup (renL f cs)
 | .fn g cs => .fn g (renL f cs)
 | v => v
def renL (f : Ref → Nat → Option (Ref × Nat)) : List PV → List PV
 | [] => []
 | x :: xs => ren f x :: renL f xs
end
def Blk.ren (f : Ref → Nat → Option (Ref × Nat)) (b : Blk) : Blk := ⟨b.sz, renL f b.es, b.ro⟩

def freezeC : Nat → PV → HM PV
 | 0, _ => .fail
 | n + 1, v => match v with
  | .tok r ver sz off len _ c0 => match r with
   | .a _ => .fail
   | .dead => .fail
   | .l s => if len = 0 then .ret (.lst [] c0) else
     (elems (.tok (.l s) ver sz off len 0 c0)).bind fun es => (HM.mapM (freezeC n) es).bind fun es' =>
     (liveBlk (.l s) ver).bind fun _ => .set (.l s) ⟨ver, none⟩ (.ret (.lst es' c0))
  | .ptr r ver i o => match r with
   | .a _ => .fail
   | .dead => .fail
   | .l s => (liveBlk (.l s) ver).bind fun b => match b.es[i]? with
    | some e => (HM.mapM (freezeC n) e.cells).bind fun cs => (liveBlk (.l s) ver).bind fun _ => .set (.l s) ⟨ver, none⟩ (.ret (.lptr (cs.drop o)))
    | none => .fail
  | .agg cs => (HM.mapM (freezeC n) cs).bind fun cs => .ret (.agg cs)
  | .tup cs => (HM.mapM (freezeC n) cs).bind fun cs => .ret (.tup cs)
  | .fn g cs => if cs.isEmpty then .ret (.fn g []) else .fail
  | .junk => .fail
  | v => .ret v
mutual
def frozenV : PV → Bool
 | .tok _ _ _ _ _ _ _ => false
 | .ptr _ _ _ _ => false
 | .junk => false
 | .agg cs => frozenL cs
 | .tup cs => frozenL cs
 | .fn _ cs => cs.isEmpty
 | _ => true
def frozenL : List PV → Bool
 | [] => true
 | x :: xs => frozenV x && frozenL xs
end
def mapR (f : PV → HM (PV × List (Ref × Nat × Blk))) : List PV → HM (List PV × List (Ref × Nat × Blk))
 | [] => .ret ([], [])
 | x :: xs => (f x).bind fun y => (mapR f xs).bind fun ys => .ret (y.1 :: ys.1, y.2 ++ ys.2)
def freezeR : Nat → PV → HM (PV × List (Ref × Nat × Blk))
 | 0, _ => .fail
 | n + 1, v => match v with
  | .tok r ver sz off len _ c0 => if len = 0 then .ret (.lst [] c0, []) else
   (liveBlk r ver).bind fun b => if off + len ≤ b.es.length ∧ b.sz = sz then
    (mapR (freezeR n) ((b.es.drop off).take len)).bind fun es => if frozenL es.1 then .ret (.lst es.1 c0, (r, ver, b) :: es.2) else .fail
   else .fail
  | .agg cs => (mapR (freezeR n) cs).bind fun cs => .ret (.agg cs.1, cs.2)
  | v => .ret (v, [])

def collect : Nat → List (Ref × Nat) → List (Ref × Nat × Blk) → HM (List (Ref × Nat × Blk))
 | 0, _, _ => .fail
 | _ + 1, [], acc => .ret acc
 | n + 1, (r, v) :: rest, acc =>
  if acc.any (fun x => x.1 == r && x.2.1 == v) then collect n rest acc else
  if r = .dead then collect n rest acc else
  .get r fun e => match e.blk with
   | some b => if e.ver = v then collect n (rest ++ toksL b.es) (acc ++ [(r, v, b)]) else collect n rest acc
   | none => collect n rest acc
def idxOf (r : Ref) (v : Nat) : List (Ref × Nat × Blk) → Nat → Option Nat
 | [], _ => none
 | (r', v', _) :: rest, k => if r' = r ∧ v' = v then some k else idxOf r v rest (k + 1)

def nth : List PV → Nat → PV
 | [], _ => .junk
 | x :: _, 0 => x
 | _ :: xs, n + 1 => nth xs n
def upd : List PV → Nat → PV → List PV
 | [], _, _ => []
 | _ :: xs, 0, v => v :: xs
 | x :: xs, n + 1, v => x :: upd xs n v
inductive PO where
 | t (n : Nat)
 | c (v : PV)
def PO.ev (fr : List PV) : PO → PV
 | .t n => nth fr n
 | .c v => v

inductive IOp where
 | mov (x : PO)
 | pick (c a b : PO)
 | box (sz : Option Nat) (x : PO) (s : Nat)
 | boxA (n : Nat) (z : PV) (s : Nat)
 | build (zero : List PV) (parts : List (Nat × Option Nat × PO))
 | buildSlice (sz : Option Nat) (parts : List PO) (s : Nat)
 | load (sz : Option Nat) (x : PO)
 | store (sz : Option Nat) (x y : PO)
 | nilchk (x : PO)
 | bin (op : BinOp) (x y : PO)
 | eqs (neg : Bool) (ks : List Bool) (x y : PO)
 | eqb (neg : Bool) (x y : PO)
 | eqn (k : Nat) (neg : Bool) (x y : PO)
 | un (op : UnOp) (x : PO)
 | toInt (k : IntKind) (x : PO)
 | b2s (x : PO)
 | s2b (x : PO) (s : Nat)
 | slice (sz : Nat) (x : PO) (lo hi mx : Option PO)
 | fieldAddr (x : PO) (off : Nat)
 | field (sz : Option Nat) (x : PO) (off : Nat)
 | indexAddr (sz : Nat) (x i : PO)
 | idxArr (n sz : Nat) (x i : PO)
 | idxArrB (n sz : Nat) (x i : PO)
 | storeA (m : Nat) (x y : PO)
 | sliceArr (n sz : Nat) (x : PO) (lo hi : Option PO)
 | extract (x : PO) (i : Nat)
 | mkfn (f : Nat) (caps : List PO)
 | mkslice (sz : Nat) (z : PV) (n : PO) (s : Nat)
 | call (f : Nat) (args : List PO) (s : Nat)
 | callv (f : PO) (args : List PO) (s : Nat)
 | append (sz : Nat) (x y : PO) (s : Nat)
 | copy (sz : Nat) (x y : PO)
 | clear (z : PV) (x : PO)
 | len (x : PO)
 | lenS (x : PO)
 | mm (isMax : Bool) (xs : List PO)
 | same (x : PO)
 | sidx (x i : PO)
 | callD (f : Nat) (args : List PO) (s cap : Nat)
 | bad

structure IOper where
 dst : Option Nat
 op : IOp
 guard : Option (Nat × Bool)
 bef : List Nat

inductive Adj where
 | cell (t j : Nat) (h : Option Nat)
 | tmp (t : Nat) (h : Option Nat)

inductive ICode where
 | skip
 | reg (ops : List IOper) (draw : Bool)
 | seq (a b : ICode)
 | cond (c : PO) (x y : ICode)
 | block (id : Nat) (c : ICode)
 | loop (c : ICode)
 | exit (id : Nat)
 | ret
 | adj (js : List Adj) (c : ICode)
 | post (c : ICode) (js : List Adj)

inductive IRes where
 | tmp (t : Nat)
 | cell (sz : Option Nat) (t : Nat)

structure IFun where
 ntmps : Nat
 nslots : Nat
 frz : Bool
 ro : List Bool
 res : List IRes
 body : ICode
 intr : Option (List PV → List Blk → Option (PV × List (Option Blk)))

def binI (op : BinOp) (k : IntKind) (a : Int) (k' : IntKind) (b : Int) : Option PV :=
 match op with
 | .shl => if b < 0 then none else some (.int k (k.wrap (a * 2 ^ (min b.toNat k.bits))))
 | .shr => if b < 0 then none else some (.int k (a.fdiv (2 ^ (min b.toNat k.bits))))
 | op => if k ≠ k' then none else match op with
  | .add => some (.int k (k.wrap (a + b)))
  | .sub => some (.int k (k.wrap (a - b)))
  | .mul => some (.int k (k.wrap (a * b)))
  | .quo => if b = 0 then none else some (.int k (k.wrap (a.tdiv b)))
  | .rem => if b = 0 then none else some (.int k (a.tmod b))
  | .and => some (.int k (k.wrap (BitVec.ofInt k.bits a &&& BitVec.ofInt k.bits b).toNat))
  | .or => some (.int k (k.wrap (BitVec.ofInt k.bits a ||| BitVec.ofInt k.bits b).toNat))
  | .xor => some (.int k (k.wrap (BitVec.ofInt k.bits a ^^^ BitVec.ofInt k.bits b).toNat))
  | .andNot => some (.int k (k.wrap (BitVec.ofInt k.bits a &&& ~~~ BitVec.ofInt k.bits b).toNat))
  | .eql => some (.bool (a == b))
  | .neq => some (.bool (a != b))
  | .lss => some (.bool (a < b))
  | .leq => some (.bool (a ≤ b))
  | .gtr => some (.bool (a > b))
  | .geq => some (.bool (a ≥ b))
  | _ => none
def bin (op : BinOp) (x y : PV) : Option PV :=
 match x, y with
 | .int k a, .int k' b => binI op k a k' b
 | .str a, .str b => match op with
  | .eql => some (.bool (a == b))
  | .neq => some (.bool (!(a == b)))
  | .add => if a.length + b.length < 2147483648 then some (.str (a ++ b)) else none
  | _ => none
 | _, _ => none
def eqb (neg : Bool) : PV → PV → Option PV
 | .bool a, .bool b => some (.bool (if neg then !(a == b) else (a == b)))
 | _, _ => none
def nilS : PV → Option Bool
 | .nils => some true
 | .lst _ _ => some false
 | .tok _ _ _ _ _ _ _ => some false
 | _ => none
def nilP : PV → Option Bool
 | .nilp => some true
 | .lptr _ => some false
 | .ptr _ _ _ _ => some false
 | _ => none
def nilF : PV → Option Bool
 | .nilfn => some true
 | .fn _ _ => some false
 | _ => none
def eqn (k : Nat) (neg : Bool) (x y : PV) : Option PV :=
 match k with
 | 0 => match x, y with
  | .nils, y => (nilS y).map fun b => .bool (if neg then !b else b)
  | x, .nils => (nilS x).map fun b => .bool (if neg then !b else b)
  | _, _ => none
 | 1 => match x, y with
  | .nilp, y => (nilP y).map fun b => .bool (if neg then !b else b)
  | x, .nilp => (nilP x).map fun b => .bool (if neg then !b else b)
  | _, _ => none
 | _ => match x, y with
  | .nilfn, y => (nilF y).map fun b => .bool (if neg then !b else b)
  | x, .nilfn => (nilF x).map fun b => .bool (if neg then !b else b)
  | _, _ => none
def eqCells : List Bool → List PV → List PV → Option Bool
 | [], [], [] => some true
 | false :: ks, .int k a :: xs, .int k' b :: ys => if k ≠ k' then none else match eqCells ks xs ys with | some r => some (a == b && r) | none => none
 | true :: ks, .bool a :: xs, .bool b :: ys => match eqCells ks xs ys with | some r => some (a == b && r) | none => none
 | _, _, _ => none
def un (op : UnOp) (x : PV) : Option PV :=
 match op, x with
 | .neg, .int k n => some (.int k (k.wrap (0 - n)))
 | .xor, .int k n => binI .xor k (if k.signed then -1 else k.max) k n
 | .not, .bool b => some (.bool !b)
 | _, _ => none
def asNat : PV → Option Nat
 | .int _ n => if 0 ≤ n then some n.toNat else none
 | _ => none
def optNat (d : Nat) : Option PV → Option Nat
 | none => some d
 | some v => asNat v
def lstSz : List PV → Nat → Bool
 | [], _ => true
 | e :: _, sz => e.cells.length == sz
def sliceNils (lo hi mx : Option PV) : Option PV :=
 match optNat 0 lo, optNat 0 hi, optNat 0 mx with
 | some l, some h, some m => if l = 0 ∧ h = 0 ∧ m = 0 then some .nils else none
 | _, _, _ => none
def sliceStr (s : List UInt8) (lo hi : Option PV) : Option PV :=
 match optNat 0 lo, optNat s.length hi with
 | some l, some h => if l ≤ h ∧ h ≤ s.length then some (.str ((s.drop l).take (h - l))) else none
 | _, _ => none
def sliceLst (sz : Nat) (es : List PV) (c0 : Bool) (lo hi mx : Option PV) : Option PV :=
 match optNat 0 lo, optNat es.length hi, optNat es.length mx with
 | some l, some h, some m => if l ≤ h ∧ h ≤ m ∧ m ≤ es.length ∧ lstSz es sz then some (.lst ((es.drop l).take (h - l)) (if mx.isSome then m == l else c0)) else none
 | _, _, _ => none
def sliceTok (r : Ref) (v z off len room : Nat) (c0 : Bool) (lo hi mx : Option PV) : Option PV :=
 match optNat 0 lo, optNat len hi, optNat room mx with
 | some l, some h, some m => if l ≤ h ∧ h ≤ m ∧ m ≤ room then some (.tok r v z (off + l) (h - l) (m - l) (if mx.isSome then m == l else c0)) else none
 | _, _, _ => none
def slicePV (sz : Nat) (x : PV) (lo hi mx : Option PV) : Option PV :=
 if mx.isSome && hi.isNone then none else
 match x with
 | .nils => sliceNils lo hi mx
 | .str s => if mx.isSome then none else sliceStr s lo hi
 | .lst es c0 => sliceLst sz es c0 lo hi mx
 | .tok r v z off len room c0 => if z = sz then sliceTok r v z off len room c0 lo hi mx else none
 | _ => none
def PV.isStr : PV → Bool
 | .str _ => true
 | _ => false
def slice2PV (sz : Nat) (x : PV) (lo hi mx : Option PV) : Option PV := if x.isStr = (sz == 0) then slicePV sz x lo hi mx else none
def fieldAddrPV (x : PV) (off : Nat) : Option PV :=
 match x with
 | .ptr r v i o => some (.ptr r v i (o + off))
 | .lptr cs => some (.lptr (cs.drop off))
 | _ => none
def indexAddrPV (sz : Nat) (x i : PV) : Option PV :=
 match i with
 | .int _ n => match x with
  | .tok r v z off len _ _ => if z = sz ∧ 0 ≤ n ∧ n < len then some (.ptr r v (off + n.toNat) 0) else none
  | .lst es _ => if 0 ≤ n ∧ n < es.length then (match es[n.toNat]? with
    | some e => if e.cells.length = sz then some (.lptr e.cells) else none
    | none => none) else none
  | _ => none
 | _ => none
def idxArrPV (n sz : Nat) (x i : PV) : Option PV :=
 match i with
 | .int _ j => if 0 ≤ j ∧ j < n then fieldAddrPV x (j.toNat * sz) else none
 | _ => none
def fillPV : List PV → List (Nat × Option Nat × PV) → Option (List PV)
 | cs, [] => some cs
 | cs, (off, sz, v) :: rest => if v.fits sz ∧ off + v.cells.length ≤ cs.length then fillPV (cs.take off ++ v.cells ++ cs.drop (off + v.cells.length)) rest else none

def loadHM (sz : Option Nat) (x : PV) : HM PV :=
 match x with
 | .ptr r v i o => (liveBlk r v).bind fun b => match b.es[i]? with
  | some e => HM.ofO (loadC e.cells o sz)
  | none => .fail
 | .lptr cs => HM.ofO (loadC cs 0 sz)
 | _ => .fail
def storeHM (sz : Option Nat) (x y : PV) : HM PV :=
 match x with
 | .ptr r v i o => (liveBlk r v).bind fun b => match b.es[i]? with
  | some e => if y.fits sz ∧ okCells y.cells ∧ o + y.cells.length ≤ e.cells.length ∧ b.ro = false
   then .set r ⟨v, some ⟨b.sz, b.es.set i (e.withCells (e.cells.take o ++ y.cells ++ e.cells.drop (o + y.cells.length))), false⟩⟩ (.ret .junk) else .fail
  | none => .fail
 | _ => .fail
def chunkEs (sz : Nat) : List PV → List PV → List PV
 | [], _ => []
 | e :: es, cs => e.withCells (cs.take sz) :: chunkEs sz es (cs.drop sz)
def storeAHM (m : Nat) (x y : PV) : HM PV :=
 match x with
 | .ptr r v 0 0 => (liveBlk r v).bind fun b =>
  if y.fits (some m) ∧ okCells y.cells ∧ m = b.es.length * b.sz ∧ 0 < b.sz ∧ b.ro = false then .set r ⟨v, some ⟨b.sz, chunkEs b.sz b.es y.cells, false⟩⟩ (.ret .junk) else .fail
 | _ => .fail
def maxNew : Nat := 2147483648
def sized (sz : Nat) : List PV → Bool
 | [] => true
 | v :: vs => v.cells.length == sz && sized sz vs
def appendNew (sz : Nat) (old vs : List PV) (s : Nat) : HM PV :=
 if old.length + vs.length < maxNew then (newBlk s ⟨sz, old ++ vs, false⟩).bind fun v => .ret (.tok (.l s) v sz 0 (old.length + vs.length) (old.length + vs.length) false) else .fail
def appendTok (sz : Nat) (r : Ref) (ver off len room : Nat) (vs : List PV) (s : Nat) : HM PV :=
 (liveBlk r ver).bind fun b =>
  if b.sz = sz ∧ b.ro = false ∧ off + len ≤ b.es.length ∧ len + vs.length < maxNew then
   if len + vs.length ≤ room then
    if off + len + vs.length ≤ b.es.length then .set r ⟨ver, some ⟨sz, b.es.take (off + len) ++ vs ++ b.es.drop (off + len + vs.length), false⟩⟩ (.ret (.tok r ver sz off (len + vs.length) room false)) else .fail
   else if r = .l s then (newBlk s ⟨sz, (b.es.drop off).take len ++ vs, false⟩).bind fun v => .ret (.tok (.l s) v sz 0 (len + vs.length) (len + vs.length) false)
   else .set r ⟨ver, none⟩ ((newBlk s ⟨sz, (b.es.drop off).take len ++ vs, false⟩).bind fun v => .ret (.tok (.l s) v sz 0 (len + vs.length) (len + vs.length) false))
  else .fail
def appendHM (sz : Nat) (x y : PV) (s : Nat) : HM PV :=
 (elems y).bind fun vs0 => if sized sz vs0 then (HM.mapM (freezeC 9) vs0).bind fun vs =>
  if vs.isEmpty then (match x with | .nils => .ret .nils | .lst es c0 => .ret (.lst es c0) | .tok r ver z off len room c0 => .ret (.tok r ver z off len room c0) | _ => .fail)
  else match x with
   | .nils => appendNew sz [] vs s
   | .lst es c0 => if c0 ∧ es.isEmpty then appendNew sz [] vs s else .fail
   | .tok r ver z off len room c0 => if c0 then (if len = 0 then appendNew sz [] vs s else .fail) else if z = sz then appendTok sz r ver off len room vs s else .fail
   | _ => .fail
  else .fail
def copyHM (sz : Nat) (x y : PV) : HM PV :=
 (elems y).bind fun vs => match x with
  | .tok r ver z off len _ _ =>
   let n := min vs.length len
   if n = 0 then .ret (.int .i64 0) else
   (liveBlk r ver).bind fun b => if z = sz ∧ b.sz = sz ∧ off + len ≤ b.es.length ∧ b.ro = false ∧ vs.all (fun v => v.cells.length == sz)
    then .set r ⟨ver, some ⟨sz, b.es.take off ++ vs.take n ++ b.es.drop (off + n), false⟩⟩ (.ret (.int .i64 n)) else .fail
  | .nils => .ret (.int .i64 0)
  | .lst es _ => if vs.isEmpty || es.isEmpty then .ret (.int .i64 0) else .fail
  | _ => .fail
def clearHM (z : PV) (x : PV) : HM PV :=
 match x with
 | .tok r ver sz off len _ _ => if len = 0 then .ret .junk else
  (liveBlk r ver).bind fun b => if z.cells.length = sz ∧ okCells z.cells ∧ b.sz = sz ∧ off + len ≤ b.es.length ∧ b.ro = false
   then .set r ⟨ver, some ⟨sz, b.es.take off ++ List.replicate len z ++ b.es.drop (off + len), false⟩⟩ (.ret .junk) else .fail
 | .nils => .ret .junk
 | .lst es _ => if es.isEmpty then .ret .junk else .fail
 | _ => .fail
def lenSPV : PV → Option PV
 | .str s => some (.int .i64 s.length)
 | _ => none
def lenPV : PV → Option PV
 | .nils => some (.int .i64 0)
 | .lst es _ => some (.int .i64 es.length)
 | .tok _ _ _ _ len _ _ => some (.int .i64 len)
 | _ => none
def sidxPV (x i : PV) : Option PV :=
 match x, i with
 | .str s, .int _ n => if 0 ≤ n then (match s[n.toNat]? with | some b => some (.int .u8 b.toNat) | none => none) else none
 | _, _ => none
def mm2 (isMax : Bool) : PV → PV → Option PV
 | .int k x, .int _ y => some (.int k (if isMax then (if y > x then y else x) else (if y < x then y else x)))
 | _, _ => none
def mmPV (isMax : Bool) : PV → List PV → Option PV
 | x, [] => some x
 | x, y :: ys => match mm2 isMax x y with | some z => mmPV isMax z ys | none => none

def bytesOf : List PV → Option (List UInt8)
 | [] => some []
 | .int .u8 n :: vs => match bytesOf vs with | some l => some (UInt8.ofNat n.toNat :: l) | none => none
 | _ => none
abbrev CallF := Nat → List PV → List Blk → Option (PV × List (Option Blk))

def PV.scalar : PV → Bool
 | .int .. | .bool _ | .str _ | .nilp | .nils | .nilfn => true
 | .tup vs => vs.all fun | .int .. | .bool _ | .str _ | .nilp | .nils | .nilfn => true | _ => false
 | _ => false
def roArgs : List Bool → List PV → HM (List PV × List (Ref × Nat × Blk))
 | true :: bs, v :: vs => (freezeR 9 v).bind fun v' => (roArgs bs vs).bind fun vs' => .ret (v'.1 :: vs'.1, v'.2 ++ vs'.2)
 | _ :: bs, v :: vs => (roArgs bs vs).bind fun vs' => .ret (v :: vs'.1, vs'.2)
 | [], vs => .ret (vs, [])
 | _, [] => .ret ([], [])
def backRen (bor : List (Ref × Nat × Blk)) (s : Nat) (nv : List Nat) : Ref → Nat → Option (Ref × Nat)
 | .a i, _ => match bor[i]? with | some (r, v, _) => some (r, v) | none => none
 | .l k, _ => match nv[k]? with | some v => some (.l (s + k), v) | none => none
 | .dead, _ => none
def putBack (f : Ref → Nat → Option (Ref × Nat)) : List (Ref × Nat × Blk) → List (Option Blk) → HM Unit
 | [], _ => .ret ()
 | (r, v, _) :: rest, b :: bs => .set r ⟨v, match b with | some b => some (b.ren f) | none => none⟩ (putBack f rest bs)
 | _ :: _, [] => .fail
def newVers (s : Nat) : Nat → HM (List Nat)
 | 0 => .ret []
 | n + 1 => .get (.l s) fun e => (newVers (s + 1) n).bind fun vs => .ret ((e.ver + 1) :: vs)
def putNew (f : Ref → Nat → Option (Ref × Nat)) (s : Nat) : List Nat → List (Option Blk) → HM Unit
 | [], [] => .ret ()
 | v :: vs, some b :: bs => .set (.l s) ⟨v, some (b.ren f)⟩ (putNew f (s + 1) vs bs)
 | _, _ => .fail
def setRO : List (Ref × Nat × Blk) → HM Unit
 | [] => .ret ()
 | (r, v, b) :: rest => if b.ro then setRO rest else .set r ⟨v, some ⟨b.sz, b.es, true⟩⟩ (setRO rest)
def meetsRef (x y : List (Ref × Nat × Blk)) : Bool := x.any fun p => y.any fun q => p.1 == q.1
def fwdRen (bor : List (Ref × Nat × Blk)) : Ref → Nat → Option (Ref × Nat) := fun r v => match idxOf r v bor 0 with | some i => some (.a i, 0) | none => none
mutual
def noRef : PV → Bool
 | .int .. | .bool _ | .str _ | .nilp | .nils | .nilfn | .tok .. | .ptr .. => true
 | .agg cs => noRefL cs
 | .tup cs => noRefL cs
 | _ => false
def noRefL : List PV → Bool
 | [] => true
 | x :: xs => noRef x && noRefL xs
end
def noRefB : List (Option Blk) → Bool
 | [] => true
 | some b :: bs => !b.ro && noRefL b.es && noRefB bs
 | none :: _ => false
def easyRes (bor : List (Ref × Nat × Blk)) (r : PV) (G : List (Option Blk)) : Bool := bor.isEmpty && noRef r && noRefB G
def afterCall (bor robor : List (Ref × Nat × Blk)) (s : Nat) (r : PV) (G : List (Option Blk)) : HM PV :=
 (if easyRes bor r G then .ret () else setRO robor).bind fun _ =>
 (newVers s (G.length - bor.length)).bind fun nv =>
 (putBack (backRen bor s nv) bor (G.take bor.length)).bind fun _ =>
 (putNew (backRen bor s nv) s nv (G.drop bor.length)).bind fun _ => .ret (ren (backRen bor s nv) r)
def callHM (C : CallF) (ro : List Bool) (f : Nat) (args0 : List PV) (s : Nat) : HM PV :=
 (roArgs ro args0).bind fun args =>
 (collect 99 (toksL args.1) []).bind fun bor =>
  if meetsRef args.2 bor then .fail else
  match C f (renL (fwdRen bor) args.1) (bor.map fun x => x.2.2.ren (fwdRen bor)) with
  | none => .fail
  | some (r, G) => afterCall bor args.2 s r G

def freeAt {α : Type} (k : Nat → HM α) : Nat → Nat → HM α
 | s, 0 => k s
 | s, n + 1 => .get (.l s) fun e => if e.blk.isNone then k s else freeAt k (s + 1) n
def pickPV : PV → PV → PV → HM PV
 | .bool true, a, _ => .ret a
 | .bool false, _, b => .ret b
 | _, _, _ => .fail
def boxHM (sz : Option Nat) (x : PV) (s : Nat) : HM PV :=
 if x.fits sz ∧ okCells x.cells then (newBlk s ⟨x.cells.length, [x], false⟩).bind fun v => .ret (.ptr (.l s) v 0 0) else .fail
def boxAHM (n : Nat) (z : PV) (s : Nat) : HM PV :=
 if okCells z.cells ∧ n < maxNew then (newBlk s ⟨z.cells.length, List.replicate n z, false⟩).bind fun v => .ret (.ptr (.l s) v 0 0) else .fail
def evParts (ρ : PO → PV) : List (Nat × Option Nat × PO) → List (Nat × Option Nat × PV)
 | [] => []
 | (a, b, x) :: ps => (a, b, ρ x) :: evParts ρ ps
def evL (ρ : PO → PV) : List PO → List PV
 | [] => []
 | x :: xs => ρ x :: evL ρ xs
def evO (ρ : PO → PV) : Option PO → Option PV
 | none => none
 | some x => some (ρ x)
def buildHM (zero : List PV) (ps : List (Nat × Option Nat × PV)) : HM PV :=
 match fillPV zero ps with | some cs => .ret (.agg cs) | none => .fail
def okElems (sz : Option Nat) : List PV → Bool
 | [] => true
 | v :: vs => v.fits sz && okCells v.cells && okElems sz vs
def buildSliceHM (sz : Option Nat) (vs : List PV) (s : Nat) : HM PV :=
 if okElems sz vs then (newBlk s ⟨sz.getD 1, vs, false⟩).bind fun v => .ret (.tok (.l s) v (sz.getD 1) 0 vs.length vs.length false) else .fail
def nilchkPV : PV → HM PV
 | .ptr r v i o => .ret (.ptr r v i o)
 | .lptr cs => .ret (.lptr cs)
 | .fn f cs => .ret (.fn f cs)
 | _ => .fail
def eqsPV (neg : Bool) (ks : List Bool) (x y : PV) : HM PV :=
 match x, y with
 | .agg xs, .agg ys => match eqCells ks xs ys with | some b => .ret (.bool (if neg then !b else b)) | none => .fail
 | _, _ => .fail
def toIntPV (k : IntKind) : PV → HM PV
 | .int _ n => .ret (.int k (k.wrap n))
 | _ => .fail
def b2sHM (x : PV) : HM PV :=
 if x.isStr then .fail else
 (elems x).bind fun es => match bytesOf es with | some l => .ret (.str l) | none => .fail
def s2bHM (x : PV) (s : Nat) : HM PV :=
 match x with
 | .str l => if l.length < maxNew then (newBlk s ⟨1, l.map fun b => .int .u8 b.toNat, false⟩).bind fun v => .ret (.tok (.l s) v 1 0 l.length l.length false) else .fail
 | _ => .fail
def fieldPV (sz : Option Nat) (x : PV) (off : Nat) : HM PV :=
 match x with | .agg cs => HM.ofO (loadC cs off sz) | _ => .fail
def extractPV (x : PV) (i : Nat) : HM PV :=
 match x with | .tup vs => HM.ofO vs[i]? | _ => .fail
def mksliceHM (sz : Nat) (z : PV) (n : PV) (s : Nat) : HM PV :=
 match n with
 | .int _ n => if 0 ≤ n ∧ n < maxNew ∧ z.cells.length = sz ∧ okCells z.cells then (newBlk s ⟨sz, List.replicate n.toNat z, false⟩).bind fun v => .ret (.tok (.l s) v sz 0 n.toNat n.toNat false) else .fail
 | _ => .fail
def idxArrBHM (n sz : Nat) (x i : PV) : HM PV :=
 match i, x with
 | .int _ j, .ptr r v 0 0 => if 0 ≤ j ∧ j < n then (liveBlk r v).bind fun b => if b.sz = sz then .ret (.ptr r v j.toNat 0) else .fail else .fail
 | _, _ => .fail
def sliceArrHM (n sz : Nat) (x : PV) (lo hi : Option PV) : HM PV :=
 match x, optNat 0 lo, optNat n hi with
 | .ptr r v 0 0, some l, some h => if l ≤ h ∧ h ≤ n then (liveBlk r v).bind fun b => if b.sz = sz ∧ b.es.length = n then .ret (.tok r v sz l (h - l) (n - l) false) else .fail else .fail
 | _, _, _ => .fail
def callvHM (RO : Nat → List Bool) (C : CallF) (g : PV) (args : List PV) (s : Nat) : HM PV :=
 match g with
 | .fn f caps => callHM C (RO f) f (args ++ caps) s
 | _ => .fail
def mmHM (b : Bool) : List PV → HM PV
 | [] => .fail
 | y :: ys => HM.ofO (mmPV b y ys)
def samePV : PV → HM PV
 | .tok r v sz off len room c0 => if 0 < len ∧ sz = 1 then (liveBlk r v).bind fun b => if b.ro = false then .ret (.tok r v sz off len room c0) else .fail else .fail
 | _ => .fail

def sem (RO : Nat → List Bool) (C : CallF) (ρ : PO → PV) : IOp → HM PV
 | .mov x => .ret (ρ x)
 | .pick c a b => pickPV (ρ c) (ρ a) (ρ b)
 | .box sz x s => boxHM sz (ρ x) s
 | .boxA n z s => boxAHM n z s
 | .build zero parts => buildHM zero (evParts ρ parts)
 | .buildSlice sz parts s => buildSliceHM sz (evL ρ parts) s
 | .load sz x => loadHM sz (ρ x)
 | .store sz x y => storeHM sz (ρ x) (ρ y)
 | .nilchk x => nilchkPV (ρ x)
 | .bin op x y => HM.ofO (bin op (ρ x) (ρ y))
 | .eqs neg ks x y => eqsPV neg ks (ρ x) (ρ y)
 | .eqb neg x y => HM.ofO (eqb neg (ρ x) (ρ y))
 | .eqn k neg x y => HM.ofO (eqn k neg (ρ x) (ρ y))
 | .un op x => HM.ofO (un op (ρ x))
 | .toInt k x => toIntPV k (ρ x)
 | .b2s x => b2sHM (ρ x)
 | .s2b x s => s2bHM (ρ x) s
 | .slice sz x lo hi mx => HM.ofO (slice2PV sz (ρ x) (evO ρ lo) (evO ρ hi) (evO ρ mx))
 | .fieldAddr x off => HM.ofO (fieldAddrPV (ρ x) off)
 | .field sz x off => fieldPV sz (ρ x) off
 | .indexAddr sz x i => HM.ofO (indexAddrPV sz (ρ x) (ρ i))
 | .idxArr n sz x i => HM.ofO (idxArrPV n sz (ρ x) (ρ i))
 | .idxArrB n sz x i => idxArrBHM n sz (ρ x) (ρ i)
 | .sliceArr n sz x lo hi => sliceArrHM n sz (ρ x) (evO ρ lo) (evO ρ hi)
 | .storeA m x y => storeAHM m (ρ x) (ρ y)
 | .extract x i => extractPV (ρ x) i
 | .mkfn f caps => .ret (.fn f (evL ρ caps))
 | .mkslice sz z n s => mksliceHM sz z (ρ n) s
 | .call f args s => callHM C (RO f) f (evL ρ args) s
 | .callv g args s => callvHM RO C (ρ g) (evL ρ args) s
 | .append sz x y s => appendHM sz (ρ x) (ρ y) s
 | .copy sz x y => copyHM sz (ρ x) (ρ y)
 | .clear z x => clearHM z (ρ x)
 | .len x => HM.ofO (lenPV (ρ x))
 | .lenS x => HM.ofO (lenSPV (ρ x))
 | .mm b xs => mmHM b (evL ρ xs)
 | .same x => samePV (ρ x)
 | .callD f args s n => freeAt (fun s => callHM C (RO f) f (evL ρ args) s) s n
 | .sidx x i => HM.ofO (sidxPV (ρ x) (ρ i))
 | .bad => .fail

structure St where
 fr : List PV
 h : Heap

def wanted (fr : List PV) : Option (Nat × Bool) → Option Bool
 | none => some true
 | some (t, b) => match nth fr t with
  | .bool c => some (c == b)
  | .tup [] => some false
  | _ => none
def putDst (fr : List PV) (dst : Option Nat) (v : PV) : List PV :=
 match dst with | some d => upd fr d v | none => fr
def stepOp (RO : Nat → List Bool) (C : CallF) (o : IOper) (σ : St) : Option St :=
 match wanted σ.fr o.guard with
 | some true => match (sem RO C (PO.ev σ.fr) o.op).run σ.h with
  | some (v, h) => some ⟨putDst σ.fr o.dst v, h⟩
  | none => none
 | some false => some ⟨putDst σ.fr o.dst (.tup []), σ.h⟩
 | none => none
def runOps (RO : Nat → List Bool) (C : CallF) : List IOper → St → Option St
 | [], σ => some σ
 | o :: os, σ => match stepOp RO C o σ with | some σ' => runOps RO C os σ' | none => none
def stepT (RO : Nat → List Bool) (C : CallF) (o : IOper) (σ : St) : Option (St × List Ref × List Ref) :=
 match wanted σ.fr o.guard with
 | some true => match (sem RO C (PO.ev σ.fr) o.op).runT σ.h with
  | some (v, h, R, W) => some (⟨putDst σ.fr o.dst v, h⟩, R, W)
  | none => none
 | some false => some (⟨putDst σ.fr o.dst (.tup []), σ.h⟩, [], [])
 | none => none
def apart (R1 W1 R2 W2 : List Ref) : Bool := W1.all (fun r => !R2.contains r && !W2.contains r) && W2.all fun r => !R1.contains r
def runOpsD (RO : Nat → List Bool) (C : CallF) : Nat → List (Nat × List Ref × List Ref) → List IOper → St → Option St
 | _, _, [], σ => some σ
 | j, acc, o :: os, σ => match stepT RO C o σ with
  | some (σ', R, W) => if acc.all (fun x => o.bef.contains x.1 || apart x.2.1 x.2.2 R W) then runOpsD RO C (j + 1) ((j, R, W) :: acc) os σ' else none
  | none => none

structure CRd where
 r : Ref
 ver : Nat
 i : Nat
 o : Nat
 sz : Option Nat
structure Tr where
 R : List Ref
 W : List Ref
 c : Option CRd
 D : List (Ref × Option Ent × Option Ent)
mutual
def eqV : PV → PV → Bool
 | .int k n, .int k' m => decide (k = k') && decide (n = m)
 | .bool a, .bool b => decide (a = b)
 | .str a, .str b => decide (a = b)
 | .nils, .nils => true
 | .lst es c, .lst es' c' => decide (c = c') && eqVL es es'
 | .tok r v z a l m c, .tok r' v' z' a' l' m' c' => decide (r = r') && decide (v = v') && decide (z = z') && decide (a = a') && decide (l = l') && decide (m = m') && decide (c = c')
 | .ptr r v i o, .ptr r' v' i' o' => decide (r = r') && decide (v = v') && decide (i = i') && decide (o = o')
 | .nilp, .nilp => true
 | .lptr cs, .lptr cs' => eqVL cs cs'
 | .agg cs, .agg cs' => eqVL cs cs'
 | .tup cs, .tup cs' => eqVL cs cs'
 | .fn f cs, .fn f' cs' => decide (f = f') && eqVL cs cs'
 | .nilfn, .nilfn => true
 | _, _ => false
def eqVL : List PV → List PV → Bool
 | [], [] => true
 | x :: xs, y :: ys => eqV x y && eqVL xs ys
 | _, _ => false
end
def crdOf (ρ : PO → PV) : IOp → Option CRd
 | .load sz x => match ρ x with | .ptr r v i o => some ⟨r, v, i, o, sz⟩ | _ => none
 | _ => none
def trOf (o : IOper) (σ σ' : St) (R W : List Ref) : Tr :=
 match wanted σ.fr o.guard with
 | some true => match crdOf (PO.ev σ.fr) o.op with
  | some c => ⟨[], [], some c, []⟩
  | none => ⟨R, W, none, W.map fun r => (r, σ.h.get r, σ'.h.get r)⟩
 | _ => ⟨R, W, none, []⟩
def loadE (c : CRd) (e : Option Ent) : Option PV :=
 match e with
 | some e => if e.ver = c.ver then (match e.blk with | some b => (match b.es[c.i]? with | some el => loadC el.cells c.o c.sz | none => none) | none => none) else none
 | none => none
def clearD (c : CRd) (D : List (Ref × Option Ent × Option Ent)) : Bool :=
 D.all fun d => !decide (d.1 = c.r) || (match loadE c d.2.1, loadE c d.2.2 with | some v, some w => eqV v w | _, _ => false)
def apart2 (x y : Tr) : Bool :=
 match x.c, y.c with
 | some _, some _ => true
 | some c, none => clearD c y.D
 | none, some c => clearD c x.D
 | none, none => apart x.R x.W y.R y.W
def runOpsD2 (RO : Nat → List Bool) (C : CallF) : Nat → List (Nat × Tr) → List IOper → St → Option St
 | _, _, [], σ => some σ
 | j, acc, o :: os, σ => match stepT RO C o σ with
  | some (σ', R, W) => if acc.all (fun x => o.bef.contains x.1 || apart2 x.2 (trOf o σ σ' R W)) then runOpsD2 RO C (j + 1) ((j, trOf o σ σ' R W) :: acc) os σ' else none
  | none => none

def homeC (s : Nat) (x : PV) : HM PV :=
 match x with
 | .tok (.l s') ver sz off len room c0 => (liveBlk (.l s') ver).bind fun b => .set (.l s') ⟨ver, none⟩ ((newBlk s b).bind fun v => .ret (.tok (.l s) v sz off len room c0))
 | x => .ret x
def adjC (o : Option Nat) (x : PV) : HM PV := match o with | some s => homeC s x | none => freezeC 9 x
def adjCell (x : PV) (j : Nat) (o : Option Nat) : HM PV :=
 match x with
 | .ptr r v 0 0 => (liveBlk r v).bind fun b => match b.es[0]? with
  | some e => (match e.cells[j]? with
   | some y => (adjC o y).bind fun y' => storeHM none (.ptr r v 0 j) y'
   | none => .fail)
  | none => .fail
 | _ => .fail
def adj1 (fr : List PV) : Adj → HM (List PV)
 | .cell t j o => (adjCell (nth fr t) j o).bind fun _ => .ret fr
 | .tmp t o => (adjC o (nth fr t)).bind fun v => .ret (upd fr t v)
def adjL : List Adj → List PV → HM (List PV)
 | [], fr => .ret fr
 | a :: as, fr => (adj1 fr a).bind fun fr => adjL as fr

inductive Ex where
 | norm
 | exit (id : Nat)
 | ret
 deriving DecidableEq, Inhabited

def resOf (fr : List PV) : List IRes → HM (List PV)
 | [] => .ret []
 | .tmp t :: rs => (resOf fr rs).bind fun vs => .ret (nth fr t :: vs)
 | .cell sz t :: rs => (loadHM sz (nth fr t)).bind fun v => (resOf fr rs).bind fun vs => .ret (v :: vs)
def one : List PV → PV
 | [v] => v
 | vs => .tup vs
def argBlks : Nat → Nat → HM (List (Option Blk))
 | 0, _ => .ret []
 | n + 1, i => .get (.a i) fun e => (argBlks n (i + 1)).bind fun bs => .ret (e.blk :: bs)
def blkToks : List (Option Blk) → List (Ref × Nat)
 | [] => []
 | some b :: bs => toksL b.es ++ blkToks bs
 | none :: bs => blkToks bs
def collectL : Nat → List (Ref × Nat) → List (Ref × Nat × Blk) → HM (List (Ref × Nat × Blk))
 | 0, _, _ => .fail
 | _ + 1, [], acc => .ret acc
 | n + 1, (.a _, _) :: rest, acc => collectL n rest acc
 | n + 1, (.dead, _) :: rest, acc => collectL n rest acc
 | n + 1, (.l s, v) :: rest, acc =>
  if acc.any (fun x => x.1 == .l s && x.2.1 == v) then collectL n rest acc else
  .get (.l s) fun e => match e.blk with
   | some b => if e.ver = v then collectL n (rest ++ toksL b.es) (acc ++ [(.l s, v, b)]) else collectL n rest acc
   | none => collectL n rest acc
def finish (F : IFun) (m : Nat) (fr : List PV) : HM (PV × List (Option Blk)) :=
 (resOf fr F.res).bind fun vs =>
 (if F.frz then freezeC 9 (one vs) else .ret (one vs)).bind fun r =>
 (argBlks m 0).bind fun bs =>
 (collectL 99 (toks r ++ blkToks bs) []).bind fun new =>
  let f : Ref → Nat → Option (Ref × Nat) := fun q v => match q with
   | .a i => some (.a i, v)
   | .dead => none
   | .l _ => match idxOf q v new 0 with | some k => some (.l k, 0) | none => none
  .ret (ren f r, bs.map (fun b => match b with | some b => some (b.ren f) | none => none) ++ new.map fun x => some (x.2.2.ren f))

mutual
def callE (FT : Nat → Option IFun) : Nat → Nat → List PV → List Blk → Option (PV × List (Option Blk))
 | 0, _, _, _ => none
 | n + 1, f, args, G => match FT f with
  | none => none
  | some F => match F.intr with
   | some g => g args G
   | none => match exec FT n F.body ⟨args ++ List.replicate (F.ntmps - args.length) .junk, ⟨G.map some, List.replicate F.nslots ⟨0, none⟩⟩⟩ with
    | some (.norm, σ) => match (finish F G.length σ.fr).run σ.h with | some (x, _) => some x | none => none
    | some (.ret, σ) => match (finish F G.length σ.fr).run σ.h with | some (x, _) => some x | none => none
    | _ => none
def exec (FT : Nat → Option IFun) : Nat → ICode → St → Option (Ex × St)
 | 0, _, _ => none
 | n + 1, c, σ => match c with
  | .skip => some (.norm, σ)
  | .reg ops false => match runOps (fun f => match FT f with | some F => F.ro | none => []) (callE FT n) ops σ with | some σ' => some (.norm, σ') | none => none
  | .reg ops true => match runOpsD2 (fun f => match FT f with | some F => F.ro | none => []) (callE FT n) 0 [] ops σ with | some σ' => some (.norm, σ') | none => none
  | .seq a b => match exec FT n a σ with
   | some (.norm, σ') => exec FT n b σ'
   | r => r
  | .cond c x y => match c.ev σ.fr with
   | .bool true => exec FT n x σ
   | .bool false => exec FT n y σ
   | _ => none
  | .block id c => match exec FT n c σ with
   | some (.exit i, σ') => if i = id then some (.norm, σ') else some (.exit i, σ')
   | r => r
  | .loop c => match exec FT n c σ with
   | some (.norm, σ') => exec FT n (.loop c) σ'
   | r => r
  | .exit id => some (.exit id, σ)
  | .ret => some (.ret, σ)
  | .adj js c => match (adjL js σ.fr).run σ.h with | some (fr, h) => exec FT n c ⟨fr, h⟩ | none => none
  | .post c js => match exec FT n c σ with
   | some (.norm, σ') => (match (adjL js σ'.fr).run σ'.h with | some (fr, h) => some (.norm, ⟨fr, h⟩) | none => none)
   | r => r
end
end Gv

namespace Gv
open Go

structure Loc where
 b : Nat
 base : Nat
 sz : Nat
 size : Nat

abbrev RD := Nat → Option (Array Value)

structure Mp where
 rd : RD
 io : Ref → Nat → Option Loc
 cv : Ref → Nat

def RdAt (rd : RD) (a : Addr) (k : Nat) (u : Value) : Prop :=
 a.spot = none ∧ ∃ vs, rd a.block = some vs ∧ vs[a.off + k]? = some u
def RdLe (rd rd' : RD) : Prop := ∀ b vs, rd b = some vs → rd' b = some vs
theorem RdLe.refl (rd : RD) : RdLe rd rd := fun _ _ h => h
theorem RdLe.trans {a b c : RD} (h : RdLe a b) (k : RdLe b c) : RdLe a c := fun x v e => k x v (h x v e)
theorem RdAt.mono {rd rd' : RD} (h : RdLe rd rd') {a : Addr} {k : Nat} {u : Value} (x : RdAt rd a k u) : RdAt rd' a k u := by
 obtain ⟨h1, vs, h2, h3⟩ := x
 exact ⟨h1, vs, h _ _ h2, h3⟩

section
variable (fid : Nat → FuncId)

inductive FR (rd : RD) : PV → Value → Prop
 | int (k : IntKind) (n : Int) : FR rd (.int k n) (.int k n)
 | bool (b : Bool) : FR rd (.bool b) (.bool b)
 | str (s : List UInt8) : FR rd (.str s) (.string ⟨s.toArray⟩)
 | nils : FR rd .nils (.slice none 0 0)
 | lst (es : List PV) (c0 : Bool) (a : Addr) (cap esz : Nat) (us : Nat → Nat → Value) (h1 : es.length ≤ cap) (h2 : c0 = true → cap = 0)
   (h3 : ∀ (i : Nat) (e : PV), es[i]? = some e → e.cells.length = esz)
   (h4 : ∀ (i : Nat) (e : PV) (j : Nat) (c : PV), es[i]? = some e → e.cells[j]? = some c → c.isCell = true ∧ RdAt rd a (i * esz + j) (us i j))
   (h5 : ∀ (i : Nat) (e : PV) (j : Nat) (c : PV), es[i]? = some e → e.cells[j]? = some c → FR rd c (us i j)) : FR rd (.lst es c0) (.slice (some a) es.length cap)
 | nilp : FR rd .nilp (.pointer none)
 | lptr (cs : List PV) (a : Addr) (us : Nat → Value) (h1 : ∀ (j : Nat) (c : PV), cs[j]? = some c → c.isCell = true ∧ RdAt rd a j (us j))
   (h2 : ∀ (j : Nat) (c : PV), cs[j]? = some c → FR rd c (us j)) (h3 : a.spot = none) : FR rd (.lptr cs) (.pointer (some a))
 | agg (cs : List PV) (vs : Array Value) (h1 : cs.length = vs.size) (h2 : ∀ (i : Nat) (c : PV) (u : Value), cs[i]? = some c → vs[i]? = some u → FR rd c u) : FR rd (.agg cs) (.agg vs)
 | tup (cs : List PV) (vs : Array Value) (h1 : cs.length = vs.size) (h2 : ∀ (i : Nat) (c : PV) (u : Value), cs[i]? = some c → vs[i]? = some u → FR rd c u) : FR rd (.tup cs) (.tuple vs)
 | fn (f : Nat) : FR rd (.fn f []) (.func (.func (fid f)) #[] #[])
 | nilfn : FR rd .nilfn .nilFunc

theorem FR.mono {rd rd' : RD} (hr : RdLe rd rd') {v : PV} {c : Value} (h : FR fid rd v c) : FR fid rd' v c := by
 induction h with
 | int k n => exact .int k n
 | bool b => exact .bool b
 | str s => exact .str s
 | nils => exact .nils
 | lst es c0 a cap esz us h1 h2 h3 h4 h5 ih => exact .lst es c0 a cap esz us h1 h2 h3 (fun i e j c a b => ⟨(h4 i e j c a b).1, (h4 i e j c a b).2.mono hr⟩) ih
 | nilp => exact .nilp
 | lptr cs a us h1 h2 h3 ih => exact .lptr cs a us (fun j c h => ⟨(h1 j c h).1, (h1 j c h).2.mono hr⟩) ih h3
 | agg cs vs h1 h2 ih => exact .agg cs vs h1 ih
 | tup cs vs h1 h2 ih => exact .tup cs vs h1 ih
 | fn f => exact .fn f
 | nilfn => exact .nilfn

inductive VR (M : Mp) : PV → Value → Prop
 | fr {v : PV} {c : Value} (h : FR fid M.rd v c) : VR M v c
 | junk (c : Value) : VR M .junk c
 | tok (r : Ref) (ver sz off len room : Nat) (c0 : Bool) (a : Addr) (cap : Nat) (hv : ver ≤ M.cv r) (h2 : len ≤ room) (h3 : room ≤ cap) (h4 : c0 = true → cap = 0)
   (h5 : ∀ loc, M.io r ver = some loc → loc.sz = sz ∧ (cap = 0 ∨ a = ⟨loc.b, loc.base + off * sz, none⟩ ∧ loc.base + off * sz + cap * sz ≤ loc.size)) :
   VR M (.tok r ver sz off len room c0) (.slice (some a) len cap)
 | ptr (r : Ref) (ver i o : Nat) (a : Addr) (hv : ver ≤ M.cv r) (h : ∀ loc, M.io r ver = some loc → a = ⟨loc.b, loc.base + i * loc.sz + o, none⟩) : VR M (.ptr r ver i o) (.pointer (some a))
 | agg (cs : List PV) (vs : Array Value) (h1 : cs.length = vs.size) (h2 : ∀ (i : Nat) (c : PV) (u : Value), cs[i]? = some c → vs[i]? = some u → VR M c u) : VR M (.agg cs) (.agg vs)
 | tup (cs : List PV) (vs : Array Value) (h1 : cs.length = vs.size) (h2 : ∀ (i : Nat) (c : PV) (u : Value), cs[i]? = some c → vs[i]? = some u → VR M c u) : VR M (.tup cs) (.tuple vs)
 | fn (f : Nat) (cs : List PV) (vs : Array Value) (h1 : cs.length = vs.size) (h2 : ∀ (i : Nat) (c : PV) (u : Value), cs[i]? = some c → vs[i]? = some u → VR M c u) : VR M (.fn f cs) (.func (.func (fid f)) #[] vs)

structure Mp.le (M M' : Mp) : Prop where
 rd : RdLe M.rd M'.rd
 cv : ∀ r, M.cv r ≤ M'.cv r
 io : ∀ r v, v ≤ M.cv r → M'.io r v = M.io r v ∨ M'.io r v = none
theorem Mp.le.refl (M : Mp) : M.le M := ⟨.refl _, fun _ => Nat.le_refl _, fun _ _ _ => .inl rfl⟩
theorem Mp.le.trans {A B C : Mp} (h : A.le B) (k : B.le C) : A.le C :=
 ⟨h.rd.trans k.rd, fun r => Nat.le_trans (h.cv r) (k.cv r), fun r v hv => by
  rcases k.io r v (Nat.le_trans hv (h.cv r)) with e | e
  ·rw [e]; exact h.io r v hv
  ·exact .inr e⟩
variable {fid}
theorem VR.mono {M M' : Mp} (hM : M.le M') {v : PV} {c : Value} (h : VR fid M v c) : VR fid M' v c := by
 induction h with
 | fr h => exact .fr (h.mono fid hM.rd)
 | junk c => exact .junk c
 | tok r ver sz off len room c0 a cap hv h2 h3 h4 h5 =>
  refine .tok r ver sz off len room c0 a cap (Nat.le_trans hv (hM.cv r)) h2 h3 h4 (fun loc hl => ?_)
  rcases hM.io r ver hv with e | e
  ·exact h5 loc (by rw [← e]; exact hl)
  ·rw [e] at hl; cases hl
 | ptr r ver i o a hv h =>
  refine .ptr r ver i o a (Nat.le_trans hv (hM.cv r)) (fun loc hl => ?_)
  rcases hM.io r ver hv with e | e
  ·exact h loc (by rw [← e]; exact hl)
  ·rw [e] at hl; cases hl
 | agg cs vs h1 h2 ih => exact .agg cs vs h1 ih
 | tup cs vs h1 h2 ih => exact .tup cs vs h1 ih
 | fn f cs vs h1 h2 ih => exact .fn f cs vs h1 ih
variable (fid)

def CellsAt (M : Mp) (c : Array Value) (base sz : Nat) (es : List PV) : Prop :=
 ∀ (i : Nat) (e : PV), es[i]? = some e → e.cells.length = sz ∧ ∀ (j : Nat) (x : PV), e.cells[j]? = some x → x.isCell = true ∧ ∃ u, c[base + i * sz + j]? = some u ∧ VR fid M x u
structure BlkAt (M : Mp) (w : World) (loc : Loc) (blk : Blk) (c : Array Value) (t : TypeId) (lo hi : Nat) : Prop where
 heap : w.heap[loc.b]? = some (.cells c t (lo, hi))
 sz : loc.sz = blk.sz
 size : c.size = loc.size
 free : ∀ k, k < c.size → ¬ (lo ≤ k ∧ k < hi)
 lohi : lo ≤ hi ∧ (blk.sz ≠ 1 → hi ≤ c.size) ∧ c.size ≤ 9223372036854775807 * blk.sz
 fits : loc.base + blk.es.length * blk.sz ≤ c.size
 ro : blk.ro = true → M.rd loc.b = some c
 rw_ : blk.ro = false → M.rd loc.b = none
 cells : CellsAt fid M c loc.base blk.sz blk.es
def RdOk (M : Mp) (w : World) : Prop := ∀ b vs, M.rd b = some vs → ∃ t fz, w.heap[b]? = some (.cells vs t fz)
structure HR (M : Mp) (h : Heap) (w : World) : Prop where
 cv : ∀ r e, h.get r = some e → M.cv r = e.ver
 dom : ∀ r e v, h.get r = some e → M.io r v ≠ none → v = e.ver ∧ e.blk ≠ none
 has : ∀ r e, h.get r = some e → e.blk ≠ none → M.io r e.ver ≠ none
 out : ∀ r v, h.get r = none → M.io r v = none
 blk : ∀ r e b loc, h.get r = some e → e.blk = some b → M.io r e.ver = some loc → ∃ c t lo hi, BlkAt fid M w loc b c t lo hi
 inj : ∀ r v loc r' v' loc', M.io r v = some loc → M.io r' v' = some loc' → loc.b = loc'.b → r = r'
 rd : RdOk M w

def own (M : Mp) (b : Nat) : Prop := ∃ r v loc, M.io r v = some loc ∧ loc.b = b
structure StpI (M : Mp) (w : World) (M' : Mp) (w' : World) : Prop where
 rd : RdLe M.rd M'.rd
 os : w'.os = w.os
 tape : w'.tape = w.tape
 output : w'.output = w.output
 size : w.heap.size ≤ w'.heap.size
 frame : ∀ b, b < w.heap.size → ¬ own M b → w'.heap[b]? = w.heap[b]?
 own : ∀ b, own M' b → own M b ∨ w.heap.size ≤ b
 rdn : ∀ b, M'.rd b ≠ none → M.rd b ≠ none ∨ Gv.own M b ∨ w.heap.size ≤ b
structure Stp (M : Mp) (w : World) (M' : Mp) (w' : World) : Prop extends StpI M w M' w' where
 le : M.le M'
theorem StpI.refl (M : Mp) (w : World) : StpI M w M w := ⟨.refl _, rfl, rfl, rfl, Nat.le_refl _, fun _ _ _ => rfl, fun _ h => .inl h, fun _ h => .inl h⟩
theorem Stp.refl (M : Mp) (w : World) : Stp M w M w := ⟨.refl _ _, .refl _⟩
theorem StpI.trans {A : Mp} {a : World} {B : Mp} {b : World} {C : Mp} {c : World} (h : StpI A a B b) (k : StpI B b C c) : StpI A a C c where
 rd := h.rd.trans k.rd
 os := k.os.trans h.os
 tape := k.tape.trans h.tape
 output := k.output.trans h.output
 size := Nat.le_trans h.size k.size
 frame x hx hn := by
  rw [k.frame x (Nat.lt_of_lt_of_le hx h.size) (fun ho => ?_), h.frame x hx hn]
  rcases h.own x ho with e | e
  ·exact hn e
  ·omega
 own x ho := by
  rcases k.own x ho with e | e
  ·exact h.own x e
  ·exact .inr (Nat.le_trans h.size e)
 rdn x ho := by
  rcases k.rdn x ho with e | e | e
  ·exact h.rdn x e
  ·rcases h.own x e with e | e
   ·exact .inr (.inl e)
   ·exact .inr (.inr e)
  ·exact .inr (.inr (Nat.le_trans h.size e))
theorem Stp.trans {A : Mp} {a : World} {B : Mp} {b : World} {C : Mp} {c : World} (h : Stp A a B b) (k : Stp B b C c) : Stp A a C c :=
 ⟨h.toStpI.trans k.toStpI, h.le.trans k.le⟩
end
end Gv

namespace Gv
open Go

theorem Heap.get_put_same {h : Heap} {r : Ref} {e e' : Ent} (he : h.get r = some e) (hv : ∀ i, r = .a i → e'.ver = 0) : (h.put r e').get r = some e' := by
 cases r with
 | a i =>
  simp only [Heap.get, Heap.put] at he ⊢
  have hi : i < h.A.length := by
   rcases Nat.lt_or_ge i h.A.length with x | x
   ·exact x
   ·simp [List.getElem?_eq_none x] at he
  simp only [List.getElem?_set_self hi]
  have := hv i rfl
  cases e'; simp_all
 | l s =>
  simp only [Heap.get, Heap.put] at he ⊢
  have hi : s < h.L.length := by
   rcases Nat.lt_or_ge s h.L.length with x | x
   ·exact x
   ·simp [List.getElem?_eq_none x] at he
  simp only [List.getElem?_set_self hi]
 | dead => simp [Heap.get] at he
theorem Heap.get_put_other {h : Heap} {r r' : Ref} {e' : Ent} (hne : r' ≠ r) : (h.put r e').get r' = h.get r' := by
 cases r with
 | a i =>
  cases r' with
  | a j =>
   have : i ≠ j := fun h => hne (by rw [h])
   simp only [Heap.get, Heap.put, List.getElem?_set_ne this]
  | l t => rfl
  | dead => rfl
 | l s =>
  cases r' with
  | a j => rfl
  | dead => rfl
  | l t =>
   have : s ≠ t := fun h => hne (by rw [h])
   simp only [Heap.get, Heap.put, List.getElem?_set_ne this]
 | dead => cases r' <;> rfl
theorem Heap.ver_a {h : Heap} {i : Nat} {e : Ent} (he : h.get (.a i) = some e) : e.ver = 0 := by
 simp only [Heap.get] at he
 split at he
 ·simp at he; rw [← he]
 ·simp at he

theorem HM.run_bind {α β : Type} (m : HM α) (f : α → HM β) (h : Heap) :
  (m.bind f).run h = match m.run h with | some (a, h') => (f a).run h' | none => none := by
 induction m generalizing h with
 | ret a => rfl
 | fail => rfl
 | get r k ih =>
  simp only [HM.bind, HM.run]
  cases h.get r with
  | none => rfl
  | some e => exact ih e h
 | set r e k ih =>
  simp only [HM.bind, HM.run]
  cases h.get r with
  | none => rfl
  | some x => exact ih _
theorem HM.run_bind_some {α β : Type} {m : HM α} {f : α → HM β} {h h2 : Heap} {b : β} (x : (m.bind f).run h = some (b, h2)) :
  ∃ a h1, m.run h = some (a, h1) ∧ (f a).run h1 = some (b, h2) := by
 rw [HM.run_bind] at x
 cases hm : m.run h with
 | none => simp [hm] at x
 | some p => obtain ⟨a, h1⟩ := p; simp only [hm] at x; exact ⟨a, h1, rfl, x⟩
theorem HM.run_ret_some {α : Type} {a b : α} {h h' : Heap} (x : (HM.ret a).run h = some (b, h')) : a = b ∧ h = h' := by
 simpa [HM.run] using x
theorem HM.run_ofO_some {α : Type} {o : Option α} {b : α} {h h' : Heap} (x : (HM.ofO o).run h = some (b, h')) : o = some b ∧ h = h' := by
 cases o with
 | none => simp [HM.ofO, HM.run] at x
 | some a => simpa [HM.ofO, HM.run] using x
theorem liveBlk_some {r : Ref} {ver : Nat} {b : Blk} {h h' : Heap} (x : (liveBlk r ver).run h = some (b, h')) :
  h = h' ∧ h.get r = some ⟨ver, some b⟩ := by
 simp only [liveBlk, HM.run] at x
 cases he : h.get r with
 | none => simp [he] at x
 | some e =>
  simp only [he] at x
  split at x
  ·rename_i hv
   obtain ⟨h1, h2⟩ := HM.run_ofO_some x
   refine ⟨h2, ?_⟩
   cases e; simp_all
  ·simp [HM.run] at x
theorem newBlk_some {s : Nat} {b : Blk} {v : Nat} {h h' : Heap} (x : (newBlk s b).run h = some (v, h')) :
  ∃ e, h.get (.l s) = some e ∧ v = e.ver + 1 ∧ h' = h.put (.l s) ⟨e.ver + 1, some b⟩ := by
 simp only [newBlk, HM.run] at x
 cases he : h.get (.l s) with
 | none => simp [he] at x
 | some e => simp [he] at x; exact ⟨e, rfl, x.1.symm, x.2.symm⟩
theorem run_set_some {α : Type} {r : Ref} {e : Ent} {k : HM α} {a : α} {h h' : Heap} (x : (HM.set r e k).run h = some (a, h')) :
  ∃ e0, h.get r = some e0 ∧ k.run (h.put r e) = some (a, h') := by
 simp only [HM.run] at x
 cases he : h.get r with
 | none => simp [he] at x
 | some e0 => simp only [he] at x; exact ⟨e0, rfl, x⟩

section
variable {fid : Nat → FuncId}

theorem own_of {M : Mp} {r : Ref} {v : Nat} {loc : Loc} (h : M.io r v = some loc) : own M loc.b := ⟨r, v, loc, h, rfl⟩

theorem HR.upd {M M' : Mp} {h : Heap} {w w' : World} {r : Ref} {e e' : Ent} (H : HR fid M h w) (he : h.get r = some e) (hv : ∀ i, r = .a i → e'.ver = 0)
  (le : M.le M') (hcv : ∀ r', r' ≠ r → M'.cv r' = M.cv r') (hio : ∀ r', r' ≠ r → M'.io r' = M.io r') (hcvr : M'.cv r = e'.ver)
  (hdom : ∀ v, M'.io r v ≠ none → v = e'.ver ∧ e'.blk ≠ none) (hhas : e'.blk ≠ none → M'.io r e'.ver ≠ none)
  (hblk : ∀ b loc, e'.blk = some b → M'.io r e'.ver = some loc → ∃ c t lo hi, BlkAt fid M' w' loc b c t lo hi)
  (hinj : ∀ v loc r' v' loc', r' ≠ r → M'.io r v = some loc → M.io r' v' = some loc' → loc.b ≠ loc'.b)
  (hheap : ∀ r' v' loc', r' ≠ r → M.io r' v' = some loc' → w'.heap[loc'.b]? = w.heap[loc'.b]? ∧ M'.rd loc'.b = M.rd loc'.b)
  (hrd : RdOk M' w') : HR fid M' (h.put r e') w' where
 cv r' x hx := by
  by_cases hr : r' = r
  ·subst hr; rw [Heap.get_put_same he hv] at hx; cases hx; exact hcvr
  ·rw [Heap.get_put_other hr] at hx; rw [hcv _ hr]; exact H.cv _ _ hx
 dom r' x v hx hn := by
  by_cases hr : r' = r
  ·subst hr; rw [Heap.get_put_same he hv] at hx; cases hx; exact hdom v hn
  ·rw [Heap.get_put_other hr] at hx; rw [hio _ hr] at hn; exact H.dom _ _ _ hx hn
 has r' x hx hb := by
  by_cases hr : r' = r
  ·subst hr; rw [Heap.get_put_same he hv] at hx; cases hx; exact hhas hb
  ·rw [Heap.get_put_other hr] at hx; rw [hio _ hr]; exact H.has _ _ hx hb
 out r' v hx := by
  by_cases hr : r' = r
  ·subst hr; rw [Heap.get_put_same he hv] at hx; cases hx
  ·rw [Heap.get_put_other hr] at hx; rw [hio _ hr]; exact H.out _ _ hx
 blk r' x b loc hx hb hl := by
  by_cases hr : r' = r
  ·subst hr; rw [Heap.get_put_same he hv] at hx; cases hx; exact hblk b loc hb hl
  ·rw [Heap.get_put_other hr] at hx; rw [hio _ hr] at hl
   obtain ⟨c, t, lo, hi, B⟩ := H.blk _ _ _ _ hx hb hl
   obtain ⟨h1, h2⟩ := hheap _ _ _ hr hl
   exact ⟨c, t, lo, hi, ⟨by rw [h1]; exact B.heap, B.sz, B.size, B.free, B.lohi, B.fits, fun q => by rw [h2]; exact B.ro q, fun q => by rw [h2]; exact B.rw_ q,
    fun i e' hi' => ⟨(B.cells i e' hi').1, fun j x hj => ⟨((B.cells i e' hi').2 j x hj).1, by
     obtain ⟨u, h3, h4⟩ := ((B.cells i e' hi').2 j x hj).2
     exact ⟨u, h3, h4.mono le⟩⟩⟩⟩⟩
 inj r1 v1 l1 r2 v2 l2 h1 h2 hb := by
  by_cases e1 : r1 = r
  ·by_cases e2 : r2 = r
   ·rw [e1, e2]
   ·subst e1; rw [hio _ e2] at h2; exact absurd hb (hinj _ _ _ _ _ e2 h1 h2)
  ·by_cases e2 : r2 = r
   ·subst e2; rw [hio _ e1] at h1; exact absurd hb.symm (hinj _ _ _ _ _ e1 h2 h1)
   ·rw [hio _ e1] at h1; rw [hio _ e2] at h2; exact H.inj _ _ _ _ _ _ h1 h2 hb
 rd := hrd

theorem HR.live {M : Mp} {h : Heap} {w : World} {r : Ref} {ver : Nat} {b : Blk} (H : HR fid M h w) (he : h.get r = some ⟨ver, some b⟩) :
  ∃ loc c t lo hi, M.io r ver = some loc ∧ BlkAt fid M w loc b c t lo hi := by
 have h1 := H.has r _ he (by simp)
 cases hl : M.io r ver with
 | none => exact absurd hl h1
 | some loc =>
  obtain ⟨c, t, lo, hi, B⟩ := H.blk r _ b loc he rfl hl
  exact ⟨loc, c, t, lo, hi, rfl, B⟩
theorem HR.ver_le {M : Mp} {h : Heap} {w : World} {r : Ref} {v : Nat} (H : HR fid M h w) (hio : M.io r v ≠ none) : ∃ e, h.get r = some e ∧ v = e.ver ∧ e.blk ≠ none := by
 cases he : h.get r with
 | none => exact absurd (H.out r v he) hio
 | some e => obtain ⟨a, b⟩ := H.dom r e v he hio; exact ⟨e, rfl, a, b⟩
theorem BlkAt.lt {M : Mp} {w : World} {loc : Loc} {b : Blk} {c : Array Value} {t lo hi : Nat} (B : BlkAt fid M w loc b c t lo hi) : loc.b < w.heap.size := by
 rcases Nat.lt_or_ge loc.b w.heap.size with x | x
 ·exact x
 ·have := B.heap; simp [Array.getElem?_eq_none x] at this
theorem HR.own_lt {M : Mp} {h : Heap} {w : World} (H : HR fid M h w) {b : Nat} (ho : own M b) : b < w.heap.size := by
 obtain ⟨r, v, loc, hl, rfl⟩ := ho
 obtain ⟨e, he, hv, hb⟩ := H.ver_le (r := r) (v := v) (by simp [hl])
 cases hbl : e.blk with
 | none => exact absurd hbl hb
 | some blk =>
  obtain ⟨c, t, lo, hi, B⟩ := H.blk r e blk loc he hbl (by rw [← hv]; exact hl)
  exact B.lt
theorem RdOk.lt {M : Mp} {w : World} (H : RdOk M w) {b : Nat} (h : M.rd b ≠ none) : b < w.heap.size := by
 cases hr : M.rd b with
 | none => exact absurd hr h
 | some vs =>
  obtain ⟨t, fz, hh⟩ := H b vs hr
  rcases Nat.lt_or_ge b w.heap.size with x | x
  ·exact x
  ·simp [Array.getElem?_eq_none x] at hh

theorem CellsAt.mono {M M' : Mp} (le : M.le M') {c : Array Value} {base sz : Nat} {es : List PV} (h : CellsAt fid M c base sz es) : CellsAt fid M' c base sz es :=
 fun i e hi => ⟨(h i e hi).1, fun j x hj => ⟨((h i e hi).2 j x hj).1, by
  obtain ⟨u, h1, h2⟩ := ((h i e hi).2 j x hj).2
  exact ⟨u, h1, h2.mono le⟩⟩⟩

def Mp.at (M : Mp) (r : Ref) (v : Nat) (loc : Option Loc) (rd : RD) : Mp :=
 { rd := rd, io := fun r' v' => if r' = r then (if v' = v then loc else none) else M.io r' v', cv := fun r' => if r' = r then v else M.cv r' }

theorem HR.alloc {M : Mp} {h : Heap} {w : World} {s : Nat} {e : Ent} (H : HR fid M h w) (he : h.get (.l s) = some e) {b : Blk} {cs : Array Value} {t : TypeId}
  (hro : b.ro = false) (hsz : b.es.length * b.sz ≤ cs.size) (hbg : cs.size ≤ 9223372036854775807 * b.sz) (hc : CellsAt fid M cs 0 b.sz b.es) :
  let M' := M.at (.l s) (e.ver + 1) (some ⟨w.heap.size, 0, b.sz, cs.size⟩) M.rd
  HR fid M' (h.put (.l s) ⟨e.ver + 1, some b⟩) (w.alloc (.cells cs t)) ∧ Stp M w M' (w.alloc (.cells cs t)) := by
 intro M'
 have hcv : M.cv (.l s) = e.ver := H.cv _ _ he
 have le : M.le M' := ⟨.refl _, fun r => by
   show _ ≤ (if r = .l s then _ else _); split
   ·rename_i hr; rw [hr, hcv]; omega
   ·exact Nat.le_refl _, fun r v hv => by
   show (if r = .l s then (if v = e.ver + 1 then _ else none) else M.io r v) = _ ∨ _
   by_cases hr : r = .l s
   ·subst hr; rw [hcv] at hv
    right; show (if (Ref.l s) = .l s then (if v = e.ver + 1 then _ else none) else M.io _ v) = none
    rw [if_pos rfl, if_neg (by omega)]
   ·left; rw [if_neg hr]⟩
 have hheap : ∀ k, k < w.heap.size → (w.alloc (.cells cs t)).heap[k]? = w.heap[k]? := fun k hk => RowKit.Below.heap_alloc _ _ _ hk
 have hnew : (w.alloc (.cells cs t)).heap[w.heap.size]? = some (.cells cs t) := by show (w.heap.push _)[w.heap.size]? = _; simp
 have hlt : ∀ r' v' loc', M.io r' v' = some loc' → loc'.b < w.heap.size := fun r' v' loc' hl => H.own_lt (own_of hl)
 have hio : ∀ r', r' ≠ .l s → M'.io r' = M.io r' := fun r' hr => by funext v; show (if r' = .l s then _ else _) = _; rw [if_neg hr]
 have hself : ∀ v, M'.io (.l s) v = if v = e.ver + 1 then some ⟨w.heap.size, 0, b.sz, cs.size⟩ else none := fun v => by show (if (Ref.l s) = .l s then _ else _) = _; rw [if_pos rfl]
 refine ⟨H.upd he (by intro i hi; cases hi) le (fun r' hr => by show (if r' = .l s then _ else _) = _; rw [if_neg hr]) hio (by show (if (Ref.l s) = .l s then _ else _) = _; rw [if_pos rfl]) ?_ ?_ ?_ ?_ ?_ ?_, ?_⟩
 ·intro v hv
  rw [hself] at hv
  split at hv
  ·rename_i hv'; exact ⟨hv', by simp⟩
  ·exact absurd rfl hv
 ·intro _; rw [hself]; simp
 ·intro b' loc hb hl
  simp only [Option.some.injEq] at hb
  subst hb
  rw [hself, if_pos rfl] at hl
  simp only [Option.some.injEq] at hl
  subst hl
  refine ⟨cs, t, 0, 0, ⟨hnew, rfl, rfl, fun k _ => by omega, ⟨Nat.le_refl _, fun _ => Nat.zero_le _, hbg⟩, by show 0 + _ ≤ _; omega, fun q => absurd q (by rw [hro]; decide), fun _ => ?_, ?_⟩⟩
  ·show M.rd w.heap.size = none
   cases hr : M.rd w.heap.size with
   | none => rfl
   | some vs => have := H.rd.lt (b := w.heap.size) (by simp [hr]); omega
  ·exact hc.mono le
 ·intro v loc r' v' loc' hr h1 h2
  rw [hself] at h1
  split at h1
  ·simp only [Option.some.injEq] at h1; subst h1; have := hlt _ _ _ h2; show w.heap.size ≠ _; omega
  ·cases h1
 ·intro r' v' loc' hr hl
  exact ⟨hheap _ (hlt _ _ _ hl), rfl⟩
 ·intro b' vs hb
  have hb' : M.rd b' = some vs := hb
  obtain ⟨t', fz, hh⟩ := H.rd b' vs hb'
  exact ⟨t', fz, by rw [hheap _ (H.rd.lt (by rw [hb']; simp))]; exact hh⟩
 ·refine ⟨⟨.refl _, rfl, rfl, rfl, by simp, fun k hk _ => hheap k hk, fun k hk => ?_, fun k hk => .inl hk⟩, le⟩
  obtain ⟨r, v, loc, hl, rfl⟩ := hk
  by_cases hr : r = .l s
  ·subst hr; rw [hself] at hl
   split at hl
   ·simp only [Option.some.injEq] at hl; subst hl; exact .inr (Nat.le_refl _)
   ·cases hl
  ·rw [hio _ hr] at hl; exact .inl (own_of hl)
end
end Gv

namespace Gv
open Go

def szOk (P : Program) (t : TypeId) (sz : Option Nat) : Bool :=
 match P.underlying t, P.info? t with
 | some (.struct _), some i => sz == some i.size
 | some (.array _ _), some i => sz == some i.size
 | some _, some i => sz == none && i.size == 1
 | _, _ => false
def szN (sz : Option Nat) : Nat := sz.getD 1

theorem szOk_cases {P : Program} {t : TypeId} {sz : Option Nat} (h : szOk P t sz = true) :
  ∃ d i, P.underlying t = some d ∧ P.info? t = some i ∧ i.size = szN sz ∧
   ((sz = none ∧ (∀ fs, d ≠ .struct fs) ∧ (∀ n e, d ≠ .array n e)) ∨ (∃ n, sz = some n ∧ ((∃ fs, d = .struct fs) ∨ (∃ n e, d = .array n e)))) := by
 unfold szOk at h
 split at h
 ·rename_i fs i h1 h2
  simp only [beq_iff_eq] at h
  exact ⟨_, i, h1, h2, by simp [h, szN], .inr ⟨_, h, .inl ⟨_, rfl⟩⟩⟩
 ·rename_i n e i h1 h2
  simp only [beq_iff_eq] at h
  exact ⟨_, i, h1, h2, by simp [h, szN], .inr ⟨_, h, .inr ⟨_, _, rfl⟩⟩⟩
 ·rename_i d i h0 h00 h1 h2
  simp only [Bool.and_eq_true, beq_iff_eq] at h
  exact ⟨d, i, h1, h2, by simp [h.1, h.2, szN], .inl ⟨h.1, fun fs e => h0 fs e, fun n e e' => h00 n e e'⟩⟩
 ·cases h

section
variable {P : Program} {w : World}
theorem run_und {t : TypeId} {d : TypeDesc} (h : P.underlying t = some d) : (Go.underlying t).run P w = .ok d w := by
 simp [Go.underlying, h]
theorem run_info {t : TypeId} {i : TypeInfo} (h : P.info? t = some i) : (Go.typeInfo t).run P w = .ok i w := by
 simp [Go.typeInfo, h]
theorem run_size {t : TypeId} {i : TypeInfo} (h : P.info? t = some i) : (Go.sizeOf t).run P w = .ok i.size w := by
 simp [Go.sizeOf, run_info h]
theorem run_isAgg {t : TypeId} {sz : Option Nat} (h : szOk P t sz = true) : (Go.isAgg t).run P w = .ok sz.isSome w := by
 obtain ⟨d, i, h1, h2, h3, h4⟩ := szOk_cases h
 rcases h4 with ⟨rfl, ha, hb⟩ | ⟨n, rfl, ⟨fs, rfl⟩ | ⟨n, e, rfl⟩⟩
 ·simp only [Go.isAgg, Sem.run_bind, run_und h1, Result.andThen_ok]
  cases d with
  | struct fs => exact absurd rfl (ha fs)
  | array n e => exact absurd rfl (hb n e)
  | _ => rfl
 ·simp [Go.isAgg, run_und h1]
 ·simp [Go.isAgg, run_und h1]
theorem run_sizeN {t : TypeId} {sz : Option Nat} (h : szOk P t sz = true) : (Go.sizeOf t).run P w = .ok (szN sz) w := by
 obtain ⟨d, i, h1, h2, h3, h4⟩ := szOk_cases h
 rw [run_size h2, h3]
theorem add_at (b o k : Nat) : (⟨b, o, none⟩ : Addr).add k = ⟨b, o + k, none⟩ := by
 unfold Addr.add; split
 ·rename_i h; simp []
 ·rfl
theorem add_spot {a : Addr} (h : a.spot = none) (k : Nat) : a.add k = ⟨a.block, a.off + k, none⟩ := by
 cases a; simp only at h; subst h; exact add_at _ _ _
theorem cell_of_heap {b o : Nat} {c : Array Value} {t : TypeId} {fz : Nat × Nat} (h : w.heap[b]? = some (.cells c t fz)) : w.cell? ⟨b, o, none⟩ = c[o]? := by
 simp [World.cell?, h]
theorem run_loadVar_one {t : TypeId} {a : Addr} {u : Value} (h : szOk P t none = true) (hc : w.cell? a = some u) : (Go.loadVar t a).run P w = .ok u w := by
 simp [Go.loadVar, run_isAgg h, hc]
theorem run_loadVar_many {t : TypeId} {a : Addr} {n : Nat} {us : List Value} (h : szOk P t (some n) = true) (hl : us.length = n) (hc : ∀ j v, us[j]? = some v → w.cell? (a.add j) = some v) :
  (Go.loadVar t a).run P w = .ok (.agg us.toArray) w := by
 subst hl
 have := run_loadCells_list (P := P) w a us hc
 simp [Go.loadVar, run_isAgg h, run_sizeN h, szN, this]
end

section
variable {fid : Nat → FuncId} {P : Program} {M : Mp} {w : World} {h : Heap}

theorem loadC_none {cs : List PV} {o : Nat} {v : PV} (h : loadC cs o none = some v) : cs[o]? = some v := h
theorem loadC_some {cs : List PV} {o n : Nat} {v : PV} (h : loadC cs o (some n) = some v) : o + n ≤ cs.length ∧ v = .agg ((cs.drop o).take n) := by
 simp only [loadC] at h
 by_cases hh : o + n ≤ cs.length
 ·rw [if_pos hh] at h; exact ⟨hh, (Option.some.inj h).symm⟩
 ·rw [if_neg hh] at h; cases h
theorem load_general {t : TypeId} {sz : Option Nat} (ht : szOk P t sz = true) {cs : List PV} {o : Nat} {v : PV} (hv : loadC cs o sz = some v) {a : Addr}
  (us : Nat → Value) (hc : ∀ j x, cs[o + j]? = some x → w.cell? (a.add j) = some (us j)) (hr : ∀ j x, cs[o + j]? = some x → VR fid M x (us j)) :
  ∃ u, (Go.loadVar t a).run P w = .ok u w ∧ VR fid M v u := by
 cases sz with
 | none =>
  have h0 := loadC_none hv
  refine ⟨us 0, run_loadVar_one ht ?_, hr 0 v h0⟩
  have := hc 0 v h0
  simpa [Addr.add] using this
 | some n =>
  obtain ⟨hl, rfl⟩ := loadC_some hv
  have hex : ∀ j, j < n → ∃ x, cs[o + j]? = some x := fun j hj => ⟨cs[o + j], List.getElem?_eq_getElem (by omega)⟩
  refine ⟨_, run_loadVar_many (us := (List.range n).map us) ht (by simp) ?_, ?_⟩
  ·intro j x hj
   rw [List.getElem?_map] at hj
   rcases Nat.lt_or_ge j n with h1 | h1
   ·rw [List.getElem?_range h1] at hj
    simp only [Option.map_some, Option.some.injEq] at hj
    obtain ⟨y, hy⟩ := hex j h1
    rw [hc j y hy, hj]
   ·rw [List.getElem?_eq_none (by simpa using h1)] at hj; cases hj
  ·refine .agg _ _ (by simp; omega) ?_
   intro i x u hi hu
   rw [List.getElem?_take] at hi
   split at hi
   ·rename_i hin
    rw [List.getElem?_drop] at hi
    have : u = us i := by
     simp only [List.getElem?_toArray, List.getElem?_map, List.getElem?_range hin, Option.map_some, Option.some.injEq] at hu
     exact hu.symm
    rw [this]
    exact hr i x hi
   ·cases hi
theorem VR.of_lptr {cs : List PV} {c : Value} (h : VR fid M (.lptr cs) c) : FR fid M.rd (.lptr cs) c := by
 cases h with
 | fr h => exact h
theorem loadHM_ok {t : TypeId} {sz : Option Nat} (ht : szOk P t sz = true) {x v : PV} {h' : Heap} (hx : (loadHM sz x).run h = some (v, h')) {c : Value} (hc : VR fid M x c)
  (H : HR fid M h w) : h' = h ∧ ∃ a, c = .pointer (some a) ∧ ∃ u, (Go.loadVar t a).run P w = .ok u w ∧ VR fid M v u := by
 unfold loadHM at hx
 split at hx
 ·rename_i r ver i o
  obtain ⟨b, h1, hb, hx⟩ := HM.run_bind_some hx
  obtain ⟨rfl, hg⟩ := liveBlk_some hb
  split at hx
  ·rename_i e he
   obtain ⟨hv, rfl⟩ := HM.run_ofO_some hx
   refine ⟨rfl, ?_⟩
   obtain ⟨loc, ca, ty, lo, hi, hl, B⟩ := H.live hg
   cases hc with
   | fr h => cases h
   | ptr _ _ _ _ a' _ hl' =>
    have ha := hl' loc hl; subst ha
    refine ⟨_, rfl, ?_⟩
    obtain ⟨he1, he2⟩ := B.cells i e he
    have hsz := B.sz
    refine load_general ht hv (fun j => ca.getD (loc.base + i * loc.sz + o + j) undef) ?_ ?_
    ·intro j x hj
     obtain ⟨_, u, hu, _⟩ := he2 (o + j) x hj
     rw [add_at, cell_of_heap B.heap, hsz]
     rw [show loc.base + i * b.sz + o + j = loc.base + i * b.sz + (o + j) by omega, hu]
     simp [hu]
    ·intro j x hj
     obtain ⟨_, u, hu, hr⟩ := he2 (o + j) x hj
     rw [hsz, show loc.base + i * b.sz + o + j = loc.base + i * b.sz + (o + j) by omega]
     simpa [hu] using hr
  ·simp [HM.run] at hx
 ·rename_i cs
  obtain ⟨hv, rfl⟩ := HM.run_ofO_some hx
  refine ⟨rfl, ?_⟩
  have hf := hc.of_lptr
  cases hf with
  | lptr _ a us h1 h2 h3 =>
   refine ⟨a, rfl, load_general ht hv us ?_ ?_⟩
   ·intro j x hj
    rw [Nat.zero_add] at hj
    obtain ⟨_, hs, vs, hrd, hu⟩ := h1 j x hj
    obtain ⟨ty, fz, hh⟩ := H.rd _ _ hrd
    rw [add_spot hs, cell_of_heap hh, hu]
   ·intro j x hj
    rw [Nat.zero_add] at hj
    exact .fr (h2 j x hj)
 ·simp [HM.run] at hx
end
end Gv

namespace Gv
open Go

section
variable {fid : Nat → FuncId} {P : Program} {M : Mp} {w : World} {h : Heap}

theorem VR.int_inv {k : IntKind} {n : Int} {c : Value} (x : VR fid M (.int k n) c) : c = .int k n := by cases x with | fr x => cases x; rfl
theorem VR.bool_inv {b : Bool} {c : Value} (x : VR fid M (.bool b) c) : c = .bool b := by cases x with | fr x => cases x; rfl
theorem VR.str_inv {s : List UInt8} {c : Value} (x : VR fid M (.str s) c) : c = .string ⟨s.toArray⟩ := by cases x with | fr x => cases x; rfl
theorem VR.nils_inv {c : Value} (x : VR fid M .nils c) : c = .slice none 0 0 := by cases x with | fr x => cases x; rfl
theorem VR.nilp_inv {c : Value} (x : VR fid M .nilp c) : c = .pointer none := by cases x with | fr x => cases x; rfl
theorem VR.nilfn_inv {c : Value} (x : VR fid M .nilfn c) : c = .nilFunc := by cases x with | fr x => cases x; rfl
theorem VR.lst_inv {es : List PV} {c0 : Bool} {c : Value} (x : VR fid M (.lst es c0) c) : FR fid M.rd (.lst es c0) c := by cases x with | fr x => exact x
theorem VR.agg_inv {cs : List PV} {c : Value} (x : VR fid M (.agg cs) c) :
  ∃ vs, c = .agg vs ∧ cs.length = vs.size ∧ ∀ (i : Nat) (e : PV) (u : Value), cs[i]? = some e → vs[i]? = some u → VR fid M e u := by
 cases x with
 | fr x => cases x with | agg _ vs h1 h2 => exact ⟨vs, rfl, h1, fun i e u a b => .fr (h2 i e u a b)⟩
 | agg _ vs h1 h2 => exact ⟨vs, rfl, h1, h2⟩
theorem VR.tup_inv {cs : List PV} {c : Value} (x : VR fid M (.tup cs) c) :
  ∃ vs, c = .tuple vs ∧ cs.length = vs.size ∧ ∀ (i : Nat) (e : PV) (u : Value), cs[i]? = some e → vs[i]? = some u → VR fid M e u := by
 cases x with
 | fr x => cases x with | tup _ vs h1 h2 => exact ⟨vs, rfl, h1, fun i e u a b => .fr (h2 i e u a b)⟩
 | tup _ vs h1 h2 => exact ⟨vs, rfl, h1, h2⟩
theorem VR.fn_inv {f : Nat} {cs : List PV} {c : Value} (x : VR fid M (.fn f cs) c) :
  ∃ vs, c = .func (.func (fid f)) #[] vs ∧ cs.length = vs.size ∧ ∀ (i : Nat) (e : PV) (u : Value), cs[i]? = some e → vs[i]? = some u → VR fid M e u := by
 cases x with
 | fr x => cases x with | fn _ => exact ⟨#[], rfl, rfl, fun i e u a b => by simp at a⟩
 | fn _ _ vs h1 h2 => exact ⟨vs, rfl, h1, h2⟩
theorem VR.lptr_inv {cs : List PV} {c : Value} (x : VR fid M (.lptr cs) c) : ∃ a, c = .pointer (some a) := by
 have := x.of_lptr; cases this; exact ⟨_, rfl⟩

theorem binI_ok {op : BinOp} {k k' : IntKind} {a b : Int} {v : PV} (hv : binI op k a k' b = some v) (xType : TypeId) :
  ∃ c, (Go.binOp op xType (.int k a) (.int k' b)).run P w = .ok c w ∧ VR fid M v c := by
 unfold binI at hv
 split at hv
 ·split at hv
  ·cases hv
  ·rename_i hb; cases hv; exact ⟨_, by simp [Go.binOp, Go.Op.shift, hb], .fr (.int _ _)⟩
 ·split at hv
  ·cases hv
  ·rename_i hb; cases hv; exact ⟨_, by simp [Go.binOp, Go.Op.shift, hb], .fr (.int _ _)⟩
 ·split at hv
  ·cases hv
  ·rename_i h1 h2 hk
   simp only [ne_eq, Decidable.not_not] at hk
   subst hk
   split at hv
   ·cases hv; exact ⟨_, by simp [Go.binOp, Go.Op.intArith], .fr (.int _ _)⟩
   ·cases hv; exact ⟨_, by simp [Go.binOp, Go.Op.intArith], .fr (.int _ _)⟩
   ·cases hv; exact ⟨_, by simp [Go.binOp, Go.Op.intArith], .fr (.int _ _)⟩
   ·split at hv
    ·cases hv
    ·rename_i hb; cases hv; exact ⟨_, by simp [Go.binOp, Go.Op.intDiv, hb], .fr (.int _ _)⟩
   ·split at hv
    ·cases hv
    ·rename_i hb; cases hv; exact ⟨_, by simp [Go.binOp, Go.Op.intDiv, hb], .fr (.int _ _)⟩
   ·cases hv; exact ⟨_, by simp [Go.binOp, Go.Op.intBits], .fr (.int _ _)⟩
   ·cases hv; exact ⟨_, by simp [Go.binOp, Go.Op.intBits], .fr (.int _ _)⟩
   ·cases hv; exact ⟨_, by simp [Go.binOp, Go.Op.intBits], .fr (.int _ _)⟩
   ·cases hv; exact ⟨_, by simp [Go.binOp, Go.Op.intBits], .fr (.int _ _)⟩
   all_goals first
    | (cases hv; exact ⟨_, by simp [Go.binOp, Go.Op.intCmp], .fr (.bool _)⟩)
    | cases hv

theorem eqGuard_plain {op : BinOp} {t : TypeId} {X Y : Operand} {a b : Value} (h : (∀ u, a ≠ .agg u) ∧ a ≠ .nilIface) : (Go.eqGuard op t X Y a b).run P w = .ok () w := by
 unfold Go.eqGuard
 cases op <;> simp
 all_goals
  cases a <;> simp_all

theorem bin_ok {op : BinOp} {x y v : PV} {a b : Value} (hv : bin op x y = some v) (hx : VR fid M x a) (hy : VR fid M y b) (xType : TypeId) (X Y : Operand) :
  ∃ c, ((Go.eqGuard op xType X Y a b) >>= fun _ => Go.binOp op xType a b).run P w = .ok c w ∧ VR fid M v c := by
 unfold bin at hv
 split at hv
 ·have ha := hx.int_inv; have hb := hy.int_inv
  subst ha; subst hb
  obtain ⟨c, h1, h2⟩ := binI_ok (P := P) (w := w) (fid := fid) (M := M) hv xType
  exact ⟨c, by rw [Sem.run_bind, eqGuard_plain ⟨by intro u; simp, by simp⟩]; exact h1, h2⟩
 ·have ha := hx.str_inv; have hb := hy.str_inv
  subst ha; subst hb
  rw [Sem.run_bind, eqGuard_plain ⟨by intro u; simp, by simp⟩]
  split at hv
  ·cases hv; exact ⟨_, by simp [Go.binOp, Go.Op.stringOp], .fr (.bool _)⟩
  ·cases hv; exact ⟨_, by simp [Go.binOp, Go.Op.stringOp], .fr (.bool _)⟩
  ·split at hv
   ·rename_i s1 s2 _ hl
    cases hv
    refine ⟨.string (⟨s1.toArray⟩ ++ ⟨s2.toArray⟩), ?_, ?_⟩
    ·have : ¬ (((⟨s1.toArray⟩ : ByteArray).size + (⟨s2.toArray⟩ : ByteArray).size : Nat) : Int) > IntKind.i64.max := by
      have e1 : (⟨s1.toArray⟩ : ByteArray).size = s1.length := by simp [ByteArray.size]
      have e2 : (⟨s2.toArray⟩ : ByteArray).size = s2.length := by simp [ByteArray.size]
      have e3 : IntKind.i64.max = 9223372036854775807 := by decide
      rw [e1, e2, e3]; omega
     simp only [Go.binOp, Go.Op.stringOp, Result.andThen_ok]
     rw [if_neg this]; rfl
    ·have : (⟨s1.toArray⟩ ++ ⟨s2.toArray⟩ : ByteArray) = ⟨(s1 ++ s2).toArray⟩ := by
      apply ByteArray.ext; simp
     rw [this]; exact .fr (.str _)
   ·cases hv
  ·cases hv
 ·cases hv

theorem run_equalIn_bool {t : TypeId} (ht : P.underlying t = some .bool) (d : Nat) (a b : Bool) : (Op.equalIn (d + 1) t (.bool a) (.bool b)).run P w = .ok (a == b) w := by
 simp [Op.equalIn, run_und ht]
def isNilV : Value → Bool
 | .slice none _ _ => true
 | .pointer none => true
 | .nilFunc => true
 | _ => false
theorem run_equalIn_slice {t e : TypeId} (ht : P.underlying t = some (.slice e)) (d : Nat) {a b : Value} (ha : ∃ p l c, a = .slice p l c) (hb : ∃ p l c, b = .slice p l c)
  (hn : isNilV a = true ∨ isNilV b = true) : (Op.equalIn (d + 1) t a b).run P w = .ok (isNilV a && isNilV b) w := by
 obtain ⟨p, l, c, rfl⟩ := ha
 obtain ⟨q, l', c', rfl⟩ := hb
 cases p <;> cases q <;> simp [isNilV, Op.equalIn, run_und ht] at hn ⊢
theorem run_equalIn_ptr {t e : TypeId} (ht : P.underlying t = some (.pointer e)) (d : Nat) {a b : Value} (ha : ∃ p, a = .pointer p) (hb : ∃ p, b = .pointer p)
  (hn : isNilV a = true ∨ isNilV b = true) : (Op.equalIn (d + 1) t a b).run P w = .ok (isNilV a && isNilV b) w := by
 obtain ⟨p, rfl⟩ := ha
 obtain ⟨q, rfl⟩ := hb
 cases p <;> cases q <;> simp [isNilV, Op.equalIn, run_und ht] at hn ⊢
theorem run_equalIn_func {t : TypeId} {ps rs : Array TypeId} {v : Bool} (ht : P.underlying t = some (.func ps rs v)) (d : Nat) {a b : Value} (ha : a = .nilFunc ∨ ∃ f p q, a = .func f p q) (hb : b = .nilFunc ∨ ∃ f p q, b = .func f p q)
  (hn : isNilV a = true ∨ isNilV b = true) : (Op.equalIn (d + 1) t a b).run P w = .ok (isNilV a && isNilV b) w := by
 rcases ha with rfl | ⟨f, p, q, rfl⟩ <;> rcases hb with rfl | ⟨f', p', q', rfl⟩ <;> simp [isNilV, Op.equalIn, run_und ht] at hn ⊢
theorem binOp_eq_of {t : TypeId} {a b : Value} {neg r : Bool} (h : (Op.equalIn (9999 + 1) t a b).run P w = .ok r w)
  (hab : ∀ (o : BinOp), (o = .eql → Go.binOp o t a b = (Op.equalIn (9999 + 1) t a b >>= fun r => pure (.bool r))) ∧ (o = .neq → Go.binOp o t a b = (Op.equalIn (9999 + 1) t a b >>= fun r => pure (.bool !r)))) :
  (Go.binOp (if neg then .neq else .eql) t a b).run P w = .ok (.bool (if neg then !r else r)) w := by
 cases neg
 ·rw [if_neg (by decide), (hab .eql).1 rfl, Sem.run_bind, h]; rfl
 ·rw [if_pos rfl, (hab .neq).2 rfl, Sem.run_bind, h]; rfl
theorem eqb_ok {neg : Bool} {x y v : PV} {a b : Value} (hv : eqb neg x y = some v) (hx : VR fid M x a) (hy : VR fid M y b) {xType : TypeId} (ht : P.underlying xType = some .bool)
  (X Y : Operand) : ∃ c, ((Go.eqGuard (if neg then .neq else .eql) xType X Y a b) >>= fun _ => Go.binOp (if neg then .neq else .eql) xType a b).run P w = .ok c w ∧ VR fid M v c := by
 unfold eqb at hv
 split at hv
 ·rename_i p q
  have ha := hx.bool_inv; have hb := hy.bool_inv
  subst ha; subst hb
  cases hv
  rw [Sem.run_bind, eqGuard_plain ⟨by intro u; simp, by simp⟩]
  exact ⟨_, binOp_eq_of (run_equalIn_bool ht 9999 _ _) (fun o => ⟨fun e => by subst e; rfl, fun e => by subst e; rfl⟩), .fr (.bool _)⟩
 ·cases hv

def nilKind (P : Program) (t : TypeId) (k : Nat) : Bool :=
 match P.underlying t with
 | some (.slice _) => k == 0
 | some (.pointer _) => k == 1
 | some (.func _ _ _) => decide (2 ≤ k)
 | _ => false
theorem eq_nil_ok {xType : TypeId} {a b : Value} {neg : Bool} {k : Nat} (hk : nilKind P xType k = true)
  (hab : (k = 0 ∧ (∃ p l c, a = .slice p l c) ∧ (∃ p l c, b = .slice p l c)) ∨ (k = 1 ∧ (∃ p, a = .pointer p) ∧ (∃ p, b = .pointer p)) ∨
   (2 ≤ k ∧ (a = .nilFunc ∨ ∃ f x y, a = .func f x y) ∧ (b = .nilFunc ∨ ∃ f x y, b = .func f x y))) (hn : isNilV a = true ∨ isNilV b = true) (X Y : Operand) :
  ((Go.eqGuard (if neg then .neq else .eql) xType X Y a b) >>= fun _ => Go.binOp (if neg then .neq else .eql) xType a b).run P w =
   .ok (.bool (if neg then !(isNilV a && isNilV b) else (isNilV a && isNilV b))) w := by
 unfold nilKind at hk
 rw [Sem.run_bind, eqGuard_plain (by
  rcases hab with ⟨_, ⟨p, l, c, rfl⟩, _⟩ | ⟨_, ⟨p, rfl⟩, _⟩ | ⟨_, rfl | ⟨f, x, y, rfl⟩, _⟩ <;> exact ⟨by intro u; simp, by simp⟩)]
 split at hk
 ·rename_i e hu
  have h0 : k = 0 := by simpa using hk
  subst h0
  rcases hab with ⟨_, ⟨p, l, c, rfl⟩, ⟨q, l', c', rfl⟩⟩ | ⟨h1, _⟩ | ⟨h1, _⟩
  ·exact binOp_eq_of (run_equalIn_slice hu 9999 ⟨_, _, _, rfl⟩ ⟨_, _, _, rfl⟩ hn) (fun o => ⟨fun e => by subst e; rfl, fun e => by subst e; rfl⟩)
  ·cases h1
  ·omega
 ·rename_i e hu
  have h0 : k = 1 := by simpa using hk
  subst h0
  rcases hab with ⟨h1, _⟩ | ⟨_, ⟨p, rfl⟩, ⟨q, rfl⟩⟩ | ⟨h1, _⟩
  ·cases h1
  ·cases p <;> cases q <;> exact binOp_eq_of (run_equalIn_ptr hu 9999 ⟨_, rfl⟩ ⟨_, rfl⟩ hn) (fun o => ⟨fun e => by subst e; rfl, fun e => by subst e; rfl⟩)
  ·omega
 ·rename_i p r v hu
  have h0 : 2 ≤ k := by simpa using hk
  rcases hab with ⟨h1, _⟩ | ⟨h1, _⟩ | ⟨_, h1, h2⟩
  ·omega
  ·omega
  ·have := run_equalIn_func (P := P) (w := w) hu 9999 h1 h2 hn
   refine binOp_eq_of this (fun o => ?_)
   rcases h1 with rfl | ⟨f, x, y, rfl⟩ <;> rcases h2 with rfl | ⟨f', x', y', rfl⟩ <;> exact ⟨fun e => by subst e; rfl, fun e => by subst e; rfl⟩
 ·cases hk
theorem nilS_ok {x : PV} {b : Bool} {c : Value} (h : nilS x = some b) (hx : VR fid M x c) : (∃ p l k, c = .slice p l k) ∧ isNilV c = b := by
 unfold nilS at h; split at h
 ·cases h; have := hx.nils_inv; subst this; exact ⟨⟨_, _, _, rfl⟩, rfl⟩
 ·cases h; have := hx.lst_inv; cases this; exact ⟨⟨_, _, _, rfl⟩, rfl⟩
 ·cases h; cases hx with
  | fr x => cases x
  | tok _ _ _ _ _ _ _ a cap => exact ⟨⟨_, _, _, rfl⟩, rfl⟩
 ·cases h
theorem nilP_ok {x : PV} {b : Bool} {c : Value} (h : nilP x = some b) (hx : VR fid M x c) : (∃ p, c = .pointer p) ∧ isNilV c = b := by
 unfold nilP at h; split at h
 ·cases h; have := hx.nilp_inv; subst this; exact ⟨⟨_, rfl⟩, rfl⟩
 ·cases h; obtain ⟨a, rfl⟩ := hx.lptr_inv; exact ⟨⟨_, rfl⟩, rfl⟩
 ·cases h; cases hx with
  | fr x => cases x
  | ptr _ _ _ _ a => exact ⟨⟨_, rfl⟩, rfl⟩
 ·cases h
theorem nilF_ok {x : PV} {b : Bool} {c : Value} (h : nilF x = some b) (hx : VR fid M x c) : (c = .nilFunc ∨ ∃ f p q, c = .func f p q) ∧ isNilV c = b := by
 unfold nilF at h; split at h
 ·cases h; have := hx.nilfn_inv; subst this; exact ⟨.inl rfl, rfl⟩
 ·cases h; obtain ⟨vs, rfl, _⟩ := hx.fn_inv; exact ⟨.inr ⟨_, _, _, rfl⟩, rfl⟩
 ·cases h
theorem eqn_ok {k : Nat} {neg : Bool} {x y v : PV} {a b : Value} (hv : eqn k neg x y = some v) (hx : VR fid M x a) (hy : VR fid M y b) {xType : TypeId} (ht : nilKind P xType k = true)
  (X Y : Operand) : ∃ c, ((Go.eqGuard (if neg then .neq else .eql) xType X Y a b) >>= fun _ => Go.binOp (if neg then .neq else .eql) xType a b).run P w = .ok c w ∧ VR fid M v c := by
 unfold eqn at hv
 split at hv
 ·split at hv
  ·simp only [Option.map_eq_some_iff] at hv
   obtain ⟨bb, h1, rfl⟩ := hv
   obtain ⟨hs, hn⟩ := nilS_ok h1 hy
   have ha := hx.nils_inv; subst ha
   exact ⟨_, eq_nil_ok ht (.inl ⟨rfl, ⟨_, _, _, rfl⟩, hs⟩) (.inl rfl) X Y, by rw [hn]; exact .fr (.bool _)⟩
  ·simp only [Option.map_eq_some_iff] at hv
   obtain ⟨bb, h1, rfl⟩ := hv
   obtain ⟨hs, hn⟩ := nilS_ok h1 hx
   have ha := hy.nils_inv; subst ha
   exact ⟨_, eq_nil_ok ht (.inl ⟨rfl, hs, ⟨_, _, _, rfl⟩⟩) (.inr rfl) X Y, by rw [hn]; simp [isNilV]; exact .fr (.bool _)⟩
  ·cases hv
 ·split at hv
  ·simp only [Option.map_eq_some_iff] at hv
   obtain ⟨bb, h1, rfl⟩ := hv
   obtain ⟨hs, hn⟩ := nilP_ok h1 hy
   have ha := hx.nilp_inv; subst ha
   exact ⟨_, eq_nil_ok ht (.inr (.inl ⟨rfl, ⟨_, rfl⟩, hs⟩)) (.inl rfl) X Y, by rw [hn]; exact .fr (.bool _)⟩
  ·simp only [Option.map_eq_some_iff] at hv
   obtain ⟨bb, h1, rfl⟩ := hv
   obtain ⟨hs, hn⟩ := nilP_ok h1 hx
   have ha := hy.nilp_inv; subst ha
   exact ⟨_, eq_nil_ok ht (.inr (.inl ⟨rfl, hs, ⟨_, rfl⟩⟩)) (.inr rfl) X Y, by rw [hn]; simp [isNilV]; exact .fr (.bool _)⟩
  ·cases hv
 ·rename_i h0 h1
  have h2 : 2 ≤ k := by
   rcases k with _ | _ | k
   ·exact absurd rfl h0
   ·exact absurd rfl h1
   ·omega
  split at hv
  ·simp only [Option.map_eq_some_iff] at hv
   obtain ⟨bb, h1, rfl⟩ := hv
   obtain ⟨hs, hn⟩ := nilF_ok h1 hy
   have ha := hx.nilfn_inv; subst ha
   exact ⟨_, eq_nil_ok ht (.inr (.inr ⟨h2, .inl rfl, hs⟩)) (.inl rfl) X Y, by rw [hn]; exact .fr (.bool _)⟩
  ·simp only [Option.map_eq_some_iff] at hv
   obtain ⟨bb, h1, rfl⟩ := hv
   obtain ⟨hs, hn⟩ := nilF_ok h1 hx
   have ha := hy.nilfn_inv; subst ha
   exact ⟨_, eq_nil_ok ht (.inr (.inr ⟨h2, hs, .inl rfl⟩)) (.inr rfl) X Y, by rw [hn]; simp [isNilV]; exact .fr (.bool _)⟩
  ·cases hv
theorem VR.tok_inv {r : Ref} {ver sz off len room : Nat} {c0 : Bool} {c : Value} (x : VR fid M (.tok r ver sz off len room c0) c) :
  ∃ a cap, c = .slice (some a) len cap ∧ ver ≤ M.cv r ∧ len ≤ room ∧ room ≤ cap ∧ (c0 = true → cap = 0) ∧
   ∀ loc, M.io r ver = some loc → loc.sz = sz ∧ (cap = 0 ∨ a = ⟨loc.b, loc.base + off * sz, none⟩ ∧ loc.base + off * sz + cap * sz ≤ loc.size) := by
 cases x with
 | fr x => cases x
 | tok _ _ _ _ _ _ _ a cap hv h2 h3 h4 h5 => exact ⟨a, cap, rfl, hv, h2, h3, h4, h5⟩
theorem VR.ptr_inv {r : Ref} {ver i o : Nat} {c : Value} (x : VR fid M (.ptr r ver i o) c) :
  ∃ a, c = .pointer (some a) ∧ ver ≤ M.cv r ∧ ∀ loc, M.io r ver = some loc → a = ⟨loc.b, loc.base + i * loc.sz + o, none⟩ := by
 cases x with
 | fr x => cases x
 | ptr _ _ _ _ a hv h => exact ⟨a, rfl, hv, h⟩
end
end Gv

namespace Gv
open Go

section
variable {fid : Nat → FuncId} {P : Program} {M : Mp} {w : World} {h : Heap}

theorem toInt_ok {k : IntKind} {x v : PV} {c : Value} {h' : Heap} (hv : (toIntPV k x).run h = some (v, h')) (hx : VR fid M x c) {src dst : TypeId} {d : TypeDesc}
  (hs : P.underlying src = some d) (ht : P.underlying dst = some (.int k)) : h' = h ∧ ∃ u, (Go.convert src dst c).run P w = .ok u w ∧ VR fid M v u := by
 unfold toIntPV at hv
 split at hv
 ·obtain ⟨rfl, rfl⟩ := HM.run_ret_some hv
  have := hx.int_inv; subst this
  refine ⟨rfl, _, ?_, .fr (.int _ _)⟩
  unfold Go.convert
  simp only [Sem.run_bind, run_und hs, run_und ht, Result.andThen_ok, Conv.intToInt, Sem.run_pure]
 ·simp [HM.run] at hv
theorem un_ok {op : UnOp} {x v : PV} {c : Value} (hv : un op x = some v) (hx : VR fid M x c) : ∃ u, (Go.Op.unary op c).run P w = .ok u w ∧ VR fid M v u := by
 unfold un at hv
 split at hv
 ·cases hv; have := hx.int_inv; subst this
  exact ⟨_, by simp [Op.unary, Op.intArith], .fr (.int _ _)⟩
 ·rename_i k n
  have := hx.int_inv; subst this
  simp [binI] at hv
  subst hv
  exact ⟨_, by simp [Op.unary, Op.intBits], .fr (.int _ _)⟩
 ·cases hv; have := hx.bool_inv; subst this
  exact ⟨_, by simp [Op.unary], .fr (.bool _)⟩
 ·cases hv

theorem asNat_inv {v : PV} {n : Nat} {c : Value} (h : asNat v = some n) (hc : VR fid M v c) : ∃ k z, c = .int k z ∧ 0 ≤ z ∧ n = z.toNat := by
 unfold asNat at h
 split at h
 ·rename_i k z
  split at h
  ·rename_i hz; cases h; exact ⟨k, z, hc.int_inv, hz, rfl⟩
  ·cases h
 ·cases h
inductive OVR (fid : Nat → FuncId) (M : Mp) : Option PV → Option Value → Prop
 | none : OVR fid M none none
 | some {v : PV} {c : Value} (h : VR fid M v c) : OVR fid M (some v) (some c)
theorem run_sliceBound {v : PV} {n y : Nat} {c : Value} (h : asNat v = some n) (hc : VR fid M v c) (hy : n ≤ y) (code : BoundsCode) :
  (Instr.sliceBound c y code).run P w = .ok n w := by
 obtain ⟨k, z, rfl, h0, rfl⟩ := asNat_inv h hc
 unfold Instr.sliceBound
 simp only [Sem.run_bind, asIntOf, Sem.run_pure, Result.andThen_ok]
 rw [if_pos ⟨h0, by omega⟩]; rfl
def mxOk (mx hi : Option PV) (m cap : Nat) : Prop := match mx with | some v => asNat v = some m ∧ m ≤ cap ∧ hi ≠ none | none => m = cap
theorem run_sliceBounds {isS : Bool} {len cap l hh m : Nat} {lo hi mx : Option PV} {clo chi cmx : Option Value} (hlo : OVR fid M lo clo) (hhi : OVR fid M hi chi) (hmx : OVR fid M mx cmx)
  (el : optNat 0 lo = some l) (eh : optNat len hi = some hh) (em : mxOk mx hi m cap)
  (h1 : l ≤ hh) (h2 : hh ≤ m) : (Instr.sliceBounds isS len cap clo chi cmx).run P w = .ok (l, hh, m) w := by
 unfold Instr.sliceBounds
 cases hmx with
 | none =>
  have em : m = cap := em
  subst em
  cases hhi with
  | none =>
   simp [optNat] at eh; subst eh
   cases hlo with
   | none => simp [optNat] at el; subst el; simp
   | some hv => simp only [optNat] at el; simp [run_sliceBound el hv h1]
  | some hv' =>
   simp only [optNat] at eh
   cases hlo with
   | none => simp [optNat] at el; subst el; simp [run_sliceBound eh hv' h2]
   | some hv => simp only [optNat] at el; simp [run_sliceBound el hv h1, run_sliceBound eh hv' h2]
 | some hm =>
  obtain ⟨e1, e2, e3⟩ : _ ∧ _ ∧ _ := em
  cases hhi with
  | none => exact absurd rfl e3
  | some hv' =>
   simp only [optNat] at eh
   cases hlo with
   | none => simp [optNat] at el; subst el; simp [run_sliceBound eh hv' h2, run_sliceBound e1 hm e2]
   | some hv => simp only [optNat] at el; simp [run_sliceBound el hv h1, run_sliceBound eh hv' h2, run_sliceBound e1 hm e2]

theorem lstSz_all {rd : RD} {es : List PV} {sz esz : Nat} (h : lstSz es sz = true) (h3 : ∀ (i : Nat) (e : PV), es[i]? = some e → e.cells.length = esz) (hne : es ≠ []) : esz = sz := by
 cases es with
 | nil => exact absurd rfl hne
 | cons e es => have := h3 0 e rfl; simp only [lstSz, beq_iff_eq] at h; omega

theorem FR.cut {rd : RD} {es : List PV} {c0 c0' : Bool} {a : Option Addr} {n cap l hh m sz : Nat} (hf : FR fid rd (.lst es c0) (.slice a n cap)) (hs : lstSz es sz = true)
  (h1 : l ≤ hh) (h2 : hh ≤ es.length) (h3 : hh ≤ m) (h4 : m ≤ cap) (hc : c0' = true → m - l = 0) :
  n = es.length ∧ FR fid rd (.lst ((es.drop l).take (hh - l)) c0') (.slice (if m = l then a else a.map (·.add (l * sz))) (hh - l) (m - l)) := by
 cases hf with
 | lst _ _ a _ esz us q1 q2 q3 q4 q5 =>
  refine ⟨rfl, ?_⟩
  have hlen : ((es.drop l).take (hh - l)).length = hh - l := by simp; omega
  have key : ∀ a', (l = 0 ∧ a' = a ∨ ((es.drop l).take (hh - l)) = [] ∨ a' = a.add (l * sz)) → FR fid rd (.lst ((es.drop l).take (hh - l)) c0') (.slice (some a') (hh - l) (m - l)) := by
   intro a' ha'
   suffices hq : FR fid rd (.lst ((es.drop l).take (hh - l)) c0') (.slice (some a') ((es.drop l).take (hh - l)).length (m - l)) by rw [hlen] at hq; exact hq
   have hget : ∀ (i : Nat) (e : PV), ((es.drop l).take (hh - l))[i]? = some e → es[l + i]? = some e := by
    intro i e hi
    rw [List.getElem?_take] at hi
    split at hi
    ·rw [List.getElem?_drop] at hi; exact hi
    ·cases hi
   refine .lst _ c0' a' (m - l) esz (fun i j => us (l + i) j) (by rw [hlen]; omega) hc (fun i e hi => q3 _ e (hget i e hi)) ?_ (fun i e j c hi hj => q5 _ e j c (hget i e hi) hj)
   intro i e j c hi hj
   obtain ⟨r1, r2, vs, r3, r4⟩ := q4 _ e j c (hget i e hi) hj
   have hne : es ≠ [] := by intro h0; rw [h0] at hi; simp at hi
   have hsz := lstSz_all (rd := rd) hs q3 hne
   refine ⟨r1, ?_⟩
   rcases ha' with ⟨h0, rfl⟩ | h0 | rfl
   ·subst h0; exact ⟨r2, vs, r3, by rw [← r4, Nat.zero_add]⟩
   ·rw [h0] at hi; simp at hi
   ·rw [add_spot r2]
    refine ⟨rfl, vs, r3, ?_⟩
    show vs[a.off + l * sz + (i * esz + j)]? = _
    rw [← r4, hsz, Nat.add_mul]; congr 1; omega
  by_cases hm : m = l
  ·rw [if_pos hm]
   refine key a (.inr (.inl ?_))
   have : hh - l = 0 := by omega
   rw [this]; rfl
  ·rw [if_neg hm]; exact key _ (.inr (.inr rfl))
theorem FR.lst_inv {rd : RD} {es : List PV} {c0 : Bool} {c : Value} (h : FR fid rd (.lst es c0) c) : ∃ a cap, c = .slice (some a) es.length cap ∧ es.length ≤ cap ∧ (c0 = true → cap = 0) := by
 cases h with | lst _ _ a cap esz us h1 h2 => exact ⟨a, cap, rfl, h1, h2⟩

theorem slice_ok {sz : Nat} {x v : PV} {lo hi mx : Option PV} {c : Value} {clo chi cmx : Option Value} (hv : slicePV sz x lo hi mx = some v) (hx : VR fid M x c)
  (hlo : OVR fid M lo clo) (hhi : OVR fid M hi chi) (hmx : OVR fid M mx cmx) {t : TypeId}
  (ht : (∃ e i, P.underlying t = some (.slice e) ∧ P.info? e = some i ∧ i.size = sz) ∨ P.underlying t = some .string)
  (hk : ∀ (s : List UInt8), x = .str s → P.underlying t = some .string) (hk' : (∀ (s : List UInt8), x ≠ .str s) → P.underlying t ≠ some .string) :
  ∃ u, (Instr.sliceAt t c clo chi cmx).run P w = .ok u w ∧ VR fid M v u := by
 have hsl : (∃ e i, P.underlying t = some (.slice e) ∧ P.info? e = some i ∧ i.size = sz) → ∀ a n cap l hh m, c = .slice a n cap → (Instr.sliceBounds true n cap clo chi cmx).run P w = .ok (l, hh, m) w →
   (Instr.sliceAt t c clo chi cmx).run P w = .ok (.slice (if m = l then a else a.map (·.add (l * sz))) (hh - l) (m - l)) w := by
  rintro ⟨e, i, hu, hi', hsz⟩ a n cap l hh m rfl hb
  unfold Instr.sliceAt Instr.slice
  simp only [Sem.run_bind, run_und hu, Result.andThen_ok, hb, run_size hi', hsz, Sem.run_pure]
 unfold slicePV at hv
 by_cases hmh : (mx.isSome && hi.isNone) = true
 ·rw [if_pos hmh] at hv; cases hv
 rw [if_neg hmh] at hv
 have hmh' : mx = none ∨ hi ≠ none := by
  cases mx with
  | none => exact .inl rfl
  | some m => right; intro h0; rw [h0] at hmh; exact hmh rfl
 -- the greatest bound, given or not
 have mxn : ∀ {d m cap : Nat}, optNat d mx = some m → d ≤ cap → m ≤ d → ∃ m', mxOk mx hi m' cap ∧ (mx.isSome = true → m' = m) ∧ (mx.isSome = false → m' = cap ∧ m = d) := by
  intro d m cap h1 h2 h3
  cases mx with
  | none => simp only [optNat, Option.some.injEq] at h1; exact ⟨cap, rfl, by simp, fun _ => ⟨rfl, h1.symm⟩⟩
  | some v => exact ⟨m, ⟨h1, by omega, hmh'.resolve_left (by simp)⟩, fun _ => rfl, by simp⟩
 cases x with
 | nils =>
  have h0 := hx.nils_inv
  have hty := hk' (by intro s; simp)
  simp only [sliceNils] at hv
  cases e1 : optNat 0 lo with
  | none => simp [e1] at hv
  | some l =>
  cases e2 : optNat 0 hi with
  | none => simp [e1, e2] at hv
  | some hh =>
  cases e3 : optNat 0 mx with
  | none => simp [e1, e2, e3] at hv
  | some m =>
  simp only [e1, e2, e3] at hv
  by_cases hz : l = 0 ∧ hh = 0 ∧ m = 0
  case neg => rw [if_neg hz] at hv; cases hv
  rw [if_pos hz] at hv
  obtain ⟨rfl, rfl, rfl⟩ := hz
  cases hv
  rcases ht with ht | ht
  case inr => exact absurd ht hty
  obtain ⟨m', em, ea, eb⟩ := mxn e3 (Nat.le_refl 0) (Nat.le_refl 0)
  have hm0 : m' = 0 := by
   cases hms : mx.isSome with
   | true => exact ea hms
   | false => exact (eb hms).1
  subst hm0
  exact ⟨_, hsl ht none 0 0 0 0 0 h0 (run_sliceBounds hlo hhi hmx e1 e2 em (Nat.le_refl _) (Nat.le_refl _)), by simpa using .fr .nils⟩
 | str s =>
  have h0 := hx.str_inv
  have hty := hk s rfl
  cases mx with
  | some m => simp at hv
  | none =>
  simp only [Option.isSome_none, Bool.false_eq_true, if_false, sliceStr] at hv
  cases e1 : optNat 0 lo with
  | none => simp [e1] at hv
  | some l =>
  cases e2 : optNat s.length hi with
  | none => simp [e1, e2] at hv
  | some hh =>
  simp only [e1, e2] at hv
  by_cases hc : l ≤ hh ∧ hh ≤ s.length
  case neg => rw [if_neg hc] at hv; cases hv
  rw [if_pos hc] at hv
  cases hv
  have hb := run_sliceBounds (P := P) (w := w) (isS := false) (m := s.length) (cap := s.length) hlo hhi (OVR.none) e1 e2 rfl hc.1 hc.2
  have hsz : (⟨s.toArray⟩ : ByteArray).size = s.length := by simp [ByteArray.size]
  cases hmx
  refine ⟨.string ((⟨s.toArray⟩ : ByteArray).extract l hh), ?_, ?_⟩
  ·subst h0
   unfold Instr.sliceAt Instr.slice
   simp only [Sem.run_bind, run_und hty, Result.andThen_ok, hsz, Option.isSome_none, Bool.false_eq_true, if_false, hb, Sem.run_pure]
  ·have : (⟨s.toArray⟩ : ByteArray).extract l hh = ⟨((s.drop l).take (hh - l)).toArray⟩ := by
    apply ByteArray.ext
    simp [ByteArray.data_extract, List.extract_eq_take_drop]
   rw [this]; exact .fr (.str _)
 | lst es c0 =>
  have hf := hx.lst_inv
  have hty := hk' (by intro s; simp)
  obtain ⟨a, cap, rfl, hcap, hc0⟩ := hf.lst_inv
  rcases ht with ht | ht
  case inr => exact absurd ht hty
  simp only [sliceLst] at hv
  cases e1 : optNat 0 lo with
  | none => simp [e1] at hv
  | some l =>
  cases e2 : optNat es.length hi with
  | none => simp [e1, e2] at hv
  | some hh =>
  cases e3 : optNat es.length mx with
  | none => simp [e1, e2, e3] at hv
  | some m =>
  simp only [e1, e2, e3] at hv
  by_cases hc : l ≤ hh ∧ hh ≤ m ∧ m ≤ es.length ∧ lstSz es sz = true
  case neg => rw [if_neg hc] at hv; cases hv
  rw [if_pos hc] at hv
  cases hv
  obtain ⟨m', em, ea, eb⟩ := mxn e3 hcap hc.2.2.1
  have hm' : m ≤ m' ∧ m' ≤ cap := by
   cases hms : mx.isSome with
   | true => have := ea hms; omega
   | false => have := eb hms; omega
  obtain ⟨q1, q2⟩ := hf.cut (c0' := if mx.isSome then m == l else c0) (m := m') hc.2.2.2 hc.1 (by omega) (by omega) hm'.2 (by
   cases hms : mx.isSome with
   | true => intro h1; simp at h1; have := ea hms; omega
   | false => intro h1; simp at h1; have := hc0 h1; omega)
  exact ⟨_, hsl ht _ _ _ _ _ _ rfl (run_sliceBounds hlo hhi hmx e1 e2 em hc.1 (by omega)), .fr q2⟩
 | tok r ver z off len room c0 =>
  by_cases hz : z = sz
  case neg => simp only [if_neg hz] at hv; cases hv
  simp only [if_pos hz] at hv
  subst hz
  have hty := hk' (by intro s; simp)
  obtain ⟨a, cap, rfl, hver, h2, h3, h4, h5⟩ := hx.tok_inv
  rcases ht with ht | ht
  case inr => exact absurd ht hty
  have key : ∀ {l hh m : Nat} {c0' : Bool} {rm : Nat}, l ≤ hh → hh ≤ m → m ≤ cap → rm ≤ m - l → hh - l ≤ rm → (c0' = true → m - l = 0) →
    VR fid M (.tok r ver z (off + l) (hh - l) rm c0') (.slice (if m = l then some a else (some a).map (·.add (l * z))) (hh - l) (m - l)) := by
   intro l hh m c0' rm k1 k2 k3 k4 k5 k6
   by_cases hm : m = l
   ·rw [if_pos hm]
    exact .tok _ _ _ _ _ _ _ _ _ hver k5 k4 k6 (fun loc hl => ⟨(h5 loc hl).1, .inl (by omega)⟩)
   ·rw [if_neg hm]
    refine .tok _ _ _ _ _ _ _ _ _ hver k5 k4 k6 (fun loc hl => ⟨(h5 loc hl).1, .inr ?_⟩)
    obtain ⟨hs, hcc⟩ := h5 loc hl
    rcases hcc with hcc | ⟨rfl, hb⟩
    ·omega
    ·show Addr.add _ _ = _ ∧ _
     rw [add_at]
     refine ⟨by rw [Nat.add_mul, Nat.add_assoc], ?_⟩
     have e1 : (off + l) * z + (m - l) * z = off * z + m * z := by rw [← Nat.add_mul, ← Nat.add_mul]; congr 1; omega
     have e2 : m * z ≤ cap * z := Nat.mul_le_mul_right _ k3
     omega
  simp only [sliceTok] at hv
  cases e1 : optNat 0 lo with
  | none => simp [e1] at hv
  | some l =>
  cases e2 : optNat len hi with
  | none => simp [e1, e2] at hv
  | some hh =>
  cases e3 : optNat room mx with
  | none => simp [e1, e2, e3] at hv
  | some m =>
  simp only [e1, e2, e3] at hv
  by_cases hc : l ≤ hh ∧ hh ≤ m ∧ m ≤ room
  case neg => rw [if_neg hc] at hv; cases hv
  rw [if_pos hc] at hv
  cases hv
  obtain ⟨m', em, ea, eb⟩ := mxn e3 h3 hc.2.2
  have hm' : m ≤ m' ∧ m' ≤ cap := by
   cases hms : mx.isSome with
   | true => have := ea hms; omega
   | false => have := eb hms; omega
  refine ⟨_, hsl ht _ _ _ _ _ _ rfl (run_sliceBounds hlo hhi hmx e1 e2 em hc.1 (by omega)), key hc.1 (by omega) hm'.2 (by omega) (by omega) ?_⟩
  cases hms : mx.isSome with
  | true => intro h1; simp at h1; have := ea hms; omega
  | false => intro h1; simp at h1; have := h4 h1; omega
 | _ => cases hv
end
end Gv

namespace Gv
open Go

section
variable {fid : Nat → FuncId} {P : Program} {M : Mp} {w : World} {h : Heap}

def fieldOk (P : Program) (s : TypeId) (k off : Nat) (sz : Option Nat) : Bool :=
 match P.underlying s with
 | some (.struct fs) => match fs[k]? with
  | some f => f.offset == off && szOk P f.type sz && szN sz != 0
  | none => false
 | _ => false
theorem fieldOk_inv {s : TypeId} {k off : Nat} {sz : Option Nat} (h : fieldOk P s k off sz = true) :
  ∃ fs f, P.underlying s = some (.struct fs) ∧ fs[k]? = some f ∧ f.offset = off ∧ szOk P f.type sz = true ∧ szN sz ≠ 0 := by
 unfold fieldOk at h
 split at h
 ·rename_i fs hu
  split at h
  ·rename_i f hf
   simp only [Bool.and_eq_true, beq_iff_eq, bne_iff_ne] at h
   exact ⟨fs, f, hu, hf, h.1.1, h.1.2, h.2⟩
  ·cases h
 ·cases h
theorem FR.lptr_drop {rd : RD} {cs : List PV} {a : Addr} (hf : FR fid rd (.lptr cs) (.pointer (some a))) (off : Nat) : FR fid rd (.lptr (cs.drop off)) (.pointer (some (a.add off))) := by
 cases hf with
 | lptr _ _ us h1 h2 h3 =>
  refine .lptr _ _ (fun j => us (off + j)) ?_ ?_ ?_
  ·intro j c hj
   rw [List.getElem?_drop] at hj
   obtain ⟨q1, q2, vs, q3, q4⟩ := h1 _ _ hj
   refine ⟨q1, ?_⟩
   rw [add_spot h3]
   exact ⟨rfl, vs, q3, by rw [← q4]; show vs[a.off + off + j]? = _; congr 1; omega⟩
  ·intro j c hj
   rw [List.getElem?_drop] at hj
   exact h2 _ _ hj
  ·rw [add_spot h3]
theorem VR.at_off {x v : PV} {off : Nat} {c : Value} (hv : fieldAddrPV x off = some v) (hx : VR fid M x c) : ∃ a, c = .pointer (some a) ∧ VR fid M v (.pointer (some (a.add off))) := by
 unfold fieldAddrPV at hv
 split at hv
 ·cases hv
  obtain ⟨a, rfl, h1, h2⟩ := hx.ptr_inv
  refine ⟨a, rfl, .ptr _ _ _ _ _ h1 (fun loc hl => ?_)⟩
  rw [h2 loc hl, add_at, Nat.add_assoc]
 ·cases hv
  have hf := hx.of_lptr
  obtain ⟨a, rfl⟩ := hx.lptr_inv
  exact ⟨a, rfl, .fr (hf.lptr_drop off)⟩
 ·cases hv
theorem fieldAddr_ok {x v : PV} {off k : Nat} {c : Value} {s : TypeId} {sz : Option Nat} (hv : fieldAddrPV x off = some v) (hx : VR fid M x c) (ht : fieldOk P s k off sz = true) :
  ∃ u, (Instr.fieldAt s c k).run P w = .ok u w ∧ VR fid M v u := by
 obtain ⟨a, rfl, hr⟩ := VR.at_off hv hx
 obtain ⟨fs, f, h1, h2, h3, h4, h5⟩ := fieldOk_inv ht
 refine ⟨_, ?_, hr⟩
 unfold Instr.fieldAt
 simp only [Sem.run_bind, run_und h1, Result.andThen_ok, h2, Instr.sureAddr, Sem.run_pure, fieldPlace, run_sizeN h4]
 rw [if_neg h5, h3]; rfl

theorem idxArr_ok {n sz : Nat} {x i v : PV} {c ci : Value} {t : TypeId} (hv : idxArrPV n sz x i = some v) (hx : VR fid M x c) (hi : VR fid M i ci)
  (ht : ∃ e inf, P.underlying t = some (.array n e) ∧ P.info? e = some inf ∧ inf.size = sz) : ∃ u, (Instr.indexAt t c ci).run P w = .ok u w ∧ VR fid M v u := by
 unfold idxArrPV at hv
 split at hv
 ·rename_i k j
  have := hi.int_inv; subst this
  split at hv
  ·rename_i hj
   obtain ⟨a, rfl, hr⟩ := VR.at_off hv hx
   obtain ⟨e, inf, h1, h2, h3⟩ := ht
   refine ⟨_, ?_, hr⟩
   unfold Instr.indexAt
   simp only [asIntOf, Sem.run_bind, Sem.run_pure, Result.andThen_ok, run_und h1, Instr.sureAddr, if_pos hj, run_size h2, h3]
  ·cases hv
 ·cases hv
theorem indexAddr_ok {sz : Nat} {x i v : PV} {c ci : Value} {t : TypeId} (hv : indexAddrPV sz x i = some v) (hx : VR fid M x c) (hi : VR fid M i ci)
  (ht : ∃ e inf, P.underlying t = some (.slice e) ∧ P.info? e = some inf ∧ inf.size = sz) (hs0 : 0 < sz) : ∃ u, (Instr.indexAt t c ci).run P w = .ok u w ∧ VR fid M v u := by
 obtain ⟨e, inf, h1, h2, h3⟩ := ht
 unfold indexAddrPV at hv
 split at hv
 ·rename_i k j
  have := hi.int_inv; subst this
  have run : ∀ (a : Addr) (len cap : Nat), c = .slice (some a) len cap → 0 ≤ j → j < len → (Instr.indexAt t c (.int k j)).run P w = .ok (.pointer (some (a.add (j.toNat * sz)))) w := by
   rintro a len cap rfl q1 q2
   unfold Instr.indexAt
   simp only [asIntOf, Sem.run_bind, Sem.run_pure, Result.andThen_ok, run_und h1, if_pos (And.intro q1 q2), run_size h2, h3]
  split at hv
  ·rename_i r ver z off len room c0
   split at hv
   ·rename_i hc
    obtain ⟨hz, q1, q2⟩ := hc
    cases hv
    obtain ⟨a, cap, rfl, hver, k2, k3, k4, k5⟩ := hx.tok_inv
    refine ⟨_, run a len cap rfl q1 q2, .ptr _ _ _ _ _ hver (fun loc hl => ?_)⟩
    obtain ⟨e1, e2⟩ := k5 loc hl
    rcases e2 with e2 | ⟨rfl, e2⟩
    ·omega
    ·rw [add_at, e1, hz, Nat.add_mul]; congr 1; omega
   ·cases hv
  ·rename_i es c0
   split at hv
   ·rename_i hc
    obtain ⟨q1, q2⟩ := hc
    split at hv
    ·rename_i el hel
     split at hv
     ·rename_i hsz
      cases hv
      have hf := hx.lst_inv
      cases hf with
      | lst _ _ a cap esz us r1 r2 r3 r4 r5 =>
       refine ⟨_, run a _ _ rfl q1 q2, .fr (.lptr _ _ (us j.toNat) ?_ (fun j' c hj => r5 _ _ _ _ hel hj) ?_)⟩
       ·intro j' c hj
        obtain ⟨s1, s2, vs, s3, s4⟩ := r4 _ _ _ _ hel hj
        refine ⟨s1, ?_⟩
        rw [add_spot s2]
        refine ⟨rfl, vs, s3, ?_⟩
        have : esz = sz := by rw [← r3 _ _ hel, hsz]
        rw [← s4, this]; show vs[a.off + j.toNat * sz + j']? = _; congr 1; omega
       ·have hne : ∃ c, el.cells[0]? = some c ∨ el.cells = [] := by
         cases el.cells with
         | nil => exact ⟨.junk, .inr rfl⟩
         | cons y ys => exact ⟨y, .inl rfl⟩
        obtain ⟨c, hc | hc⟩ := hne
        ·obtain ⟨s1, s2, _⟩ := r4 _ _ _ _ hel hc
         rw [add_spot s2]
        ·rw [hc] at hsz
         simp at hsz
         omega
     ·cases hv
    ·cases hv
   ·cases hv
  ·cases hv
 ·cases hv
theorem field_ok {sz : Option Nat} {x v : PV} {off k : Nat} {c : Value} {s : TypeId} {h' : Heap} (hv : (fieldPV sz x off).run h = some (v, h')) (hx : VR fid M x c) (ht : fieldOk P s k off sz = true) :
  h' = h ∧ ∃ u, (Instr.field s c k).run P w = .ok u w ∧ VR fid M v u := by
 unfold fieldPV at hv
 split at hv
 ·rename_i cs
  obtain ⟨hl, rfl⟩ := HM.run_ofO_some hv
  refine ⟨rfl, ?_⟩
  obtain ⟨vs, rfl, q1, q2⟩ := hx.agg_inv
  obtain ⟨fs, f, h1, h2, h3, h4, h5⟩ := fieldOk_inv ht
  unfold Instr.field
  simp only [Sem.run_bind, run_und h1, Result.andThen_ok, h2, asAgg, Sem.run_pure, part, run_isAgg h4]
  cases sz with
  | none =>
   have h0 := loadC_none hl
   have hlt : off < vs.size := by
    rw [← q1]
    rcases Nat.lt_or_ge off cs.length with z | z
    ·exact z
    ·rw [List.getElem?_eq_none z] at h0; cases h0
   have hu : vs[f.offset]? = some vs[off] := by rw [h3, Array.getElem?_eq_getElem hlt]
   exact ⟨vs[off], by simp [hu], q2 _ _ _ h0 (Array.getElem?_eq_getElem hlt)⟩
  | some n =>
   obtain ⟨hb, rfl⟩ := loadC_some hl
   refine ⟨.agg (vs.extract off (off + n)), by simp [run_sizeN h4, szN, h3], .agg _ _ (by simp; omega) ?_⟩
   intro i y u hi hu
   rw [List.getElem?_take] at hi
   split at hi
   ·rename_i hin
    rw [List.getElem?_drop] at hi
    rw [Array.getElem?_extract] at hu
    split at hu
    ·exact q2 _ _ _ hi hu
    ·cases hu
   ·cases hi
 ·simp [HM.run] at hv
theorem extract_ok {x v : PV} {i : Nat} {c : Value} {h' : Heap} (hv : (extractPV x i).run h = some (v, h')) (hx : VR fid M x c) : h' = h ∧ ∃ u, (Instr.extract c i).run P w = .ok u w ∧ VR fid M v u := by
 unfold extractPV at hv
 split at hv
 ·rename_i cs
  obtain ⟨hl, rfl⟩ := HM.run_ofO_some hv
  refine ⟨rfl, ?_⟩
  obtain ⟨vs, rfl, q1, q2⟩ := hx.tup_inv
  have hlt : i < vs.size := by
   rw [← q1]
   rcases Nat.lt_or_ge i cs.length with z | z
   ·exact z
   ·rw [List.getElem?_eq_none z] at hl; cases hl
  exact ⟨vs[i], by simp [Instr.extract, Array.getElem?_eq_getElem hlt], q2 _ _ _ hl (Array.getElem?_eq_getElem hlt)⟩
 ·simp [HM.run] at hv
theorem len_ok {x v : PV} {c : Value} {t ty : TypeId} (hv : lenPV x = some v) (hx : VR fid M x c) {e : TypeId} (hu : P.underlying t = some (.slice e)) :
  ∃ u, (Builtin.len_ #[t] ty #[c]).run P w = .ok u w ∧ VR fid M v u := by
 unfold lenPV at hv
 split at hv
 ·cases hv
  have := hx.nils_inv; subst this
  exact ⟨_, by simp [Builtin.len_, run_und hu, goInt], .fr (.int _ _)⟩
 ·rename_i es c0
  cases hv
  obtain ⟨a, cap, rfl, _⟩ := hx.lst_inv.lst_inv
  exact ⟨_, by simp [Builtin.len_, run_und hu, goInt], .fr (.int _ _)⟩
 ·cases hv
  obtain ⟨a, cap, rfl, _⟩ := hx.tok_inv
  exact ⟨_, by simp [Builtin.len_, run_und hu, goInt], .fr (.int _ _)⟩
 ·cases hv
theorem mmL_ok {b : Bool} : ∀ (ys : List PV) (us : List Value) {x v : PV} {c : Value}, mmPV b x ys = some v → VR fid M x c → ys.length = us.length → (∀ (i : Nat) (e : PV) (u : Value), ys[i]? = some e → us[i]? = some u → VR fid M e u) →
  ∃ u, (us.foldlM (if b then Builtin.max2 else Builtin.min2) c).run P w = .ok u w ∧ VR fid M v u
 | [], us, x, v, c, hv, hx, hl, _ => by
  cases us with
  | nil => cases hv; exact ⟨c, rfl, hx⟩
  | cons u us => simp at hl
 | y :: ys, us, x, v, c, hv, hx, hl, hr => by
  cases us with
  | nil => simp at hl
  | cons u us =>
   simp only [mmPV] at hv
   split at hv
   case h_2 => cases hv
   rename_i z hz
   unfold mm2 at hz
   split at hz
   case h_2 => cases hz
   rename_i k n k' m
   cases hz
   have h1 := hx.int_inv; subst h1
   have h2 := (hr 0 _ _ rfl rfl).int_inv; subst h2
   obtain ⟨r, e1, e2⟩ := mmL_ok ys us (c := .int k (if b then (if m > n then m else n) else (if m < n then m else n))) hv (.fr (.int _ _)) (by simpa using hl) (fun i e u hi hu => hr (i + 1) e u (by simpa using hi) (by simpa using hu))
   refine ⟨r, ?_, e2⟩
   rw [List.foldlM_cons, Sem.run_bind]
   have : ((if b then Builtin.max2 else Builtin.min2) (.int k n) (.int k' m)).run P w = .ok (.int k (if b then (if m > n then m else n) else (if m < n then m else n))) w := by
    cases b <;> rfl
   rw [this]
   exact e1
theorem sidx_ok {x i v : PV} {c d : Value} {t : TypeId} (hv : sidxPV x i = some v) (hx : VR fid M x c) (hi : VR fid M i d) (hu : P.underlying t = some .string) :
  ∃ u, (Instr.index t c d).run P w = .ok u w ∧ VR fid M v u := by
 unfold sidxPV at hv
 split at hv
 case h_2 => cases hv
 rename_i s k n
 by_cases h0 : 0 ≤ n
 case neg => rw [if_neg h0] at hv; cases hv
 rw [if_pos h0] at hv
 split at hv
 case h_2 => cases hv
 rename_i b hb
 cases hv
 have h1 := hx.str_inv; subst h1
 have h2 := hi.int_inv; subst h2
 refine ⟨.int .u8 b.toNat, ?_, .fr (.int _ _)⟩
 have hg : (⟨s.toArray⟩ : ByteArray)[n.toNat]? = some b := by
  have hlt : n.toNat < s.length := by
   rcases Nat.lt_or_ge n.toNat s.length with z | z
   ·exact z
   ·rw [List.getElem?_eq_none z] at hb; cases hb
  rw [List.getElem?_eq_getElem hlt] at hb
  have hsz : n.toNat < (⟨s.toArray⟩ : ByteArray).size := by simpa [ByteArray.size] using hlt
  rw [getElem?_pos (⟨s.toArray⟩ : ByteArray) n.toNat hsz]
  rw [← hb]; rfl
 simp [Instr.index, run_und hu, h0, hg, asIntOf]
theorem lenS_ok {x v : PV} {c : Value} {t ty : TypeId} (hv : lenSPV x = some v) (hx : VR fid M x c) (hu : P.underlying t = some .string) :
  ∃ u, (Builtin.len_ #[t] ty #[c]).run P w = .ok u w ∧ VR fid M v u := by
 unfold lenSPV at hv
 split at hv
 ·rename_i s
  cases hv
  have := hx.str_inv; subst this
  refine ⟨.int .i64 s.length, ?_, .fr (.int _ _)⟩
  have hsz : (⟨s.toArray⟩ : ByteArray).size = s.length := by simp [ByteArray.size]
  simp [Builtin.len_, run_und hu, goInt, hsz]
 ·cases hv
end
end Gv

namespace Gv
open Go

section
variable {fid : Nat → FuncId} {P : Program} {M : Mp} {w : World} {h : Heap}

theorem VR.fits_cells {v : PV} {sz : Option Nat} {c : Value} (hf : v.fits sz = true) (hx : VR fid M v c) :
  c.cells.size = szN sz ∧ v.cells.length = szN sz ∧ ∀ (j : Nat) (x : PV), v.cells[j]? = some x → ∃ u, c.cells[j]? = some u ∧ VR fid M x u := by
 cases sz with
 | none =>
  have one : v.cells = [v] ∧ c.cells = #[c] := by
   cases hx with
   | fr hx => cases hx <;> first | exact ⟨rfl, rfl⟩ | (simp [PV.fits] at hf; done)
   | junk => simp [PV.fits] at hf
   | tok => exact ⟨rfl, rfl⟩
   | ptr => exact ⟨rfl, rfl⟩
   | agg => simp [PV.fits] at hf
   | tup => simp [PV.fits] at hf
   | fn => exact ⟨rfl, rfl⟩
  rw [one.1, one.2]
  refine ⟨rfl, rfl, fun j x hj => ?_⟩
  cases j with
  | zero => cases hj; exact ⟨c, rfl, hx⟩
  | succ j => cases hj
 | some n =>
  cases v with
  | agg cs =>
   obtain ⟨vs, rfl, q1, q2⟩ := hx.agg_inv
   simp only [PV.fits, beq_iff_eq] at hf
   refine ⟨by show vs.size = n; omega, hf, fun j x hj => ?_⟩
   have hlt : j < vs.size := by
    rw [← q1]
    rcases Nat.lt_or_ge j cs.length with z | z
    ·exact z
    ·have hj' : cs[j]? = some x := hj
     rw [List.getElem?_eq_none z] at hj'; cases hj'
   exact ⟨vs[j], Array.getElem?_eq_getElem hlt, q2 _ _ _ hj (Array.getElem?_eq_getElem hlt)⟩
  | _ => simp [PV.fits] at hf

theorem foldl_sets (off : Nat) : ∀ (l : List Value) (i : Nat) (A : Array Value),
  ((l.zipIdx i).foldl (fun cs p => cs.setIfInBounds (off + p.2) p.1) A).size = A.size ∧
  (off + i + l.length ≤ A.size → ∀ k, ((l.zipIdx i).foldl (fun cs p => cs.setIfInBounds (off + p.2) p.1) A)[k]? = if off + i ≤ k ∧ k < off + i + l.length then l[k - (off + i)]? else A[k]?)
 | [], i, A => ⟨rfl, fun _ k => by rw [if_neg (by simp)]; rfl⟩
 | x :: l, i, A => by
  obtain ⟨h1, h2⟩ := foldl_sets off l (i + 1) (A.setIfInBounds (off + i) x)
  simp only [List.zipIdx_cons, List.foldl_cons, List.length_cons]
  refine ⟨by rw [h1]; simp, fun hb k => ?_⟩
  rw [h2 (by rw [Array.size_setIfInBounds]; omega)]
  by_cases hk : off + i ≤ k ∧ k < off + i + (l.length + 1)
  ·rw [if_pos hk]
   by_cases hk' : off + (i + 1) ≤ k ∧ k < off + (i + 1) + l.length
   ·rw [if_pos hk']
    have : k - (off + i) = (k - (off + (i + 1))) + 1 := by omega
    rw [this]; rfl
   ·rw [if_neg hk']
    have : k = off + i := by omega
    subst this
    rw [Nat.sub_self, Array.getElem?_setIfInBounds_self_of_lt (by omega)]
    rfl
  ·rw [if_neg hk, if_neg (by omega)]
   exact Array.getElem?_setIfInBounds_ne (by omega)

inductive PartsR (fid : Nat → FuncId) (M : Mp) (place : Nat → Option (Nat × Nat)) : List (Nat × Option Nat × PV) → List (Nat × Value) → Prop
 | nil : PartsR fid M place [] []
 | cons (off : Nat) (sz : Option Nat) (v : PV) (i : Nat) (c : Value) (ps : List (Nat × Option Nat × PV)) (cs : List (Nat × Value)) (h : VR fid M v c) (hp : place i = some (off, szN sz))
   (hr : PartsR fid M place ps cs) : PartsR fid M place ((off, sz, v) :: ps) ((i, c) :: cs)
theorem fill_ok {place : Nat → Option (Nat × Nat)} : ∀ {ps : List (Nat × Option Nat × PV)} {cs : List (Nat × Value)}, PartsR fid M place ps cs → ∀ {z r : List PV} {Z : Array Value},
  fillPV z ps = some r → z.length = Z.size → (∀ (i : Nat) (e : PV) (u : Value), z[i]? = some e → Z[i]? = some u → VR fid M e u) →
  ∃ R, Instr.fill place Z cs = some R ∧ r.length = R.size ∧ ∀ (i : Nat) (e : PV) (u : Value), r[i]? = some e → R[i]? = some u → VR fid M e u := by
 intro ps cs hp
 induction hp with
 | nil => intro z r Z hf hl hz; simp [fillPV] at hf; subst hf; exact ⟨Z, rfl, hl, hz⟩
 | cons off sz v i c ps cs hv hpl _ ih =>
  intro z r Z hf hl hz
  simp only [fillPV] at hf
  by_cases hc : v.fits sz = true ∧ off + v.cells.length ≤ z.length
  case neg => rw [if_neg hc] at hf; cases hf
  rw [if_pos hc] at hf
  obtain ⟨q1, q2, q3⟩ := VR.fits_cells hc.1 hv
  simp only [Instr.fill, hpl]
  have hno : ¬ ((decide (c.cells.size ≠ szN sz) || decide (off + c.cells.size > Z.size)) = true) := by
   simp only [Bool.or_eq_true, decide_eq_true_eq, not_or, Decidable.not_not]
   have := hc.2
   refine ⟨q1, ?_⟩
   omega
  rw [if_neg hno]
  have hfold := foldl_sets off c.cells.toList 0 Z
  have hfe : c.cells.zipIdx.foldl (fun cs (p : Value × Nat) => cs.setIfInBounds (off + p.2) p.1) Z = (c.cells.toList.zipIdx 0).foldl (fun cs p => cs.setIfInBounds (off + p.2) p.1) Z := by
   rw [← Array.foldl_toList]; simp
  have hget := hfold.2 (by have := hc.2; simp; omega)
  have hfe' : (c.cells.zipIdx.foldl (fun cs (x : Value × Nat) => match x with | (c, j) => cs.setIfInBounds (off + j) c) Z) = (c.cells.toList.zipIdx 0).foldl (fun cs p => cs.setIfInBounds (off + p.2) p.1) Z := hfe
  rw [hfe']
  refine ih hf ?_ ?_
  ·rw [hfold.1]; simp; have := hc.2; omega
  ·intro k e u hk hu
   rw [hget k] at hu
   simp only [Nat.add_zero, Array.length_toList] at hu
   have hb := hc.2
   by_cases h1 : off ≤ k ∧ k < off + c.cells.size
   ·rw [if_pos h1] at hu
    rw [List.append_assoc, List.getElem?_append_right (by simp; omega)] at hk
    simp only [List.length_take] at hk
    rw [List.getElem?_append_left (by omega)] at hk
    have e1 : k - min off z.length = k - off := by omega
    rw [e1] at hk
    obtain ⟨u', hu', hr⟩ := q3 _ _ hk
    have : u = u' := by
     rw [Array.getElem?_toList] at hu
     rw [hu'] at hu; exact (Option.some.inj hu).symm
    rw [this]; exact hr
   ·rw [if_neg h1] at hu
    refine hz k e u ?_ hu
    rw [← hk]
    rcases Nat.lt_or_ge k off with h2 | h2
    ·rw [List.append_assoc, List.getElem?_append_left (by simp; omega), List.getElem?_take, if_pos h2]
    ·rw [List.append_assoc, List.getElem?_append_right (by simp; omega), List.getElem?_append_right (by simp; omega), List.getElem?_drop]
     congr 1; simp; omega

def constOkN : Nat → PV → Value → Bool
 | 0, _, _ => false
 | n + 1, v, c => match v, c with
  | .int k a, .int k' b => k == k' && a == b
  | .bool a, .bool b => a == b
  | .str s, .string b => s == b.toList
  | .nils, .slice none 0 0 => true
  | .nilp, .pointer none => true
  | .nilfn, .nilFunc => true
  | .agg cs, .agg vs => cs.length == vs.size && (cs.zip vs.toList).all fun p => constOkN n p.1 p.2
  | .tup cs, .tuple vs => cs.length == vs.size && (cs.zip vs.toList).all fun p => constOkN n p.1 p.2
  | _, _ => false
theorem constOkN_ok {rd : RD} : ∀ (n : Nat) {v : PV} {c : Value}, constOkN n v c = true → FR fid rd v c
 | 0, v, c, h => by simp [constOkN] at h
 | n + 1, v, c, h => by
  have many : ∀ (cs : List PV) (vs : Array Value), (cs.length == vs.size && (cs.zip vs.toList).all fun p => constOkN n p.1 p.2) = true →
    cs.length = vs.size ∧ ∀ (i : Nat) (e : PV) (u : Value), cs[i]? = some e → vs[i]? = some u → FR fid rd e u := by
   intro cs vs h
   simp only [Bool.and_eq_true, beq_iff_eq, List.all_eq_true] at h
   refine ⟨h.1, fun i e u h1 h2 => constOkN_ok n (h.2 (e, u) ?_)⟩
   rw [List.mem_iff_getElem?]
   refine ⟨i, ?_⟩
   rw [List.getElem?_zip_eq_some]
   exact ⟨h1, by rw [Array.getElem?_toList]; exact h2⟩
  unfold constOkN at h
  split at h
  ·simp only [Bool.and_eq_true, beq_iff_eq] at h; obtain ⟨rfl, rfl⟩ := h; exact .int _ _
  ·simp only [beq_iff_eq] at h; subst h; exact .bool _
  ·rename_i s b
   simp only [beq_iff_eq] at h; subst h
   rw [ByteArray.toList_eq]
   have : (Value.string b) = .string ⟨b.data.toList.toArray⟩ := by cases b; simp
   rw [this]; exact .str _
  ·exact .nils
  ·exact .nilp
  ·exact .nilfn
  ·obtain ⟨h1, h2⟩ := many _ _ h; exact .agg _ _ h1 h2
  ·obtain ⟨h1, h2⟩ := many _ _ h; exact .tup _ _ h1 h2
  ·cases h

def places (P : Program) (t : TypeId) : Option (Nat → Option (Nat × Nat)) :=
 match P.underlying t with
 | some (.array _ e) => match P.info? e with
  | some ie => some fun i => some (i * ie.size, ie.size)
  | none => none
 | some (.struct fields) => match fields.toList.mapM (fun f => (P.info? f.type).map fun i => (f.offset, i.size)) with
  | some pl => some fun i => pl.toArray[i]?
  | none => none
 | _ => none
def zeroOk (P : Program) (t : TypeId) (z : PV) : Bool :=
 match P.info? t with
 | some i => match i.zero with
  | some v => constOkN 20 z v
  | none => false
 | none => false
theorem zeroOk_inv {t : TypeId} {z : PV} (h : zeroOk P t z = true) : ∃ i v, P.info? t = some i ∧ i.zero = some v ∧ ∀ rd, FR fid rd z v := by
 unfold zeroOk at h
 split at h
 ·rename_i i hi
  split at h
  ·rename_i v hv; exact ⟨i, v, hi, hv, fun rd => constOkN_ok 20 h⟩
  ·cases h
 ·cases h
theorem build_ok {t : TypeId} {z : List PV} {ps : List (Nat × Option Nat × PV)} {cs : List (Nat × Value)} {pl : Nat → Option (Nat × Nat)} {v : PV} {h' : Heap}
  (hv : (buildHM z ps).run h = some (v, h')) (hz : zeroOk P t (.agg z) = true) (hpl : places P t = some pl) (hp : PartsR fid M pl ps cs) :
  h' = h ∧ ∃ u, (Instr.build t cs.toArray).run P w = .ok u w ∧ VR fid M v u := by
 unfold buildHM at hv
 cases hf : fillPV z ps with
 | none => simp [hf, HM.run] at hv
 | some r =>
  simp only [hf] at hv
  obtain ⟨rfl, rfl⟩ := HM.run_ret_some hv
  refine ⟨rfl, ?_⟩
  obtain ⟨i, zv, hi, hzv, hfr⟩ := zeroOk_inv (fid := fid) hz
  have hfr' := hfr M.rd
  cases hfr' with
  | agg _ vs q1 q2 =>
   obtain ⟨R, hR, r1, r2⟩ := fill_ok hp hf q1 (fun i e u a b => .fr (q2 i e u a b))
   refine ⟨.agg R, run_build w t _ R ?_, .agg _ _ r1 r2⟩
   unfold places at hpl
   unfold Program.built
   rw [hi]
   split at hpl
   ·rename_i n e hu
    split at hpl
    ·rename_i ie hie
     simp only [Option.some.injEq] at hpl; subst hpl
     simp only [hu, hzv, hie]; exact hR
    ·cases hpl
   ·rename_i fields hu
    split at hpl
    ·rename_i pl' hm
     simp only [Option.some.injEq] at hpl; subst hpl
     simp only [hu, hzv, hm]; exact hR
    ·cases hpl
   ·cases hpl
end
end Gv

namespace Gv
open Go

def tsize (P : Program) (t : TypeId) : Nat := match P.info? t with | some i => i.size | none => 0
def flatFs (P : Program) (ft : TypeId → List Bool → Bool) (ks : List Bool) (total : Nat) : Nat → List Field → Bool
 | off, [] => off == total
 | off, f :: fs => f.name != "_" && f.offset == off && ft f.type ((ks.drop off).take (tsize P f.type)) && flatFs P ft ks total (off + tsize P f.type) fs
def flatT (P : Program) : Nat → TypeId → List Bool → Bool
 | 0, _, _ => false
 | n + 1, t, ks => match P.underlying t with
  | some (.int _) => szOk P t none && ks == [false]
  | some .bool => szOk P t none && ks == [true]
  | some (.struct fs) => szOk P t (some (tsize P t)) && !P.stoodInHeld t && ks.length == tsize P t && flatFs P (flatT P n) ks (tsize P t) 0 fs.toList
  | _ => false
def valOf : PV → Value
 | .int k n => .int k n
 | .bool b => .bool b
 | _ => undef

theorem eqCells_append : ∀ (k1 k2 : List Bool) (a b a' b' : List PV) (r : Bool), k1.length = a.length → a.length = a'.length → eqCells (k1 ++ k2) (a ++ b) (a' ++ b') = some r →
  ∃ r1 r2, eqCells k1 a a' = some r1 ∧ eqCells k2 b b' = some r2 ∧ r = (r1 && r2)
 | [], k2, [], b, [], b', r, _, _, h => ⟨true, r, rfl, h, by simp⟩
 | [], k2, [], b, y :: a', b', r, _, hl, h => by simp at hl
 | [], k2, x :: a, b, _, b', r, hk, hl, h => by simp at hk
 | k :: k1, k2, [], b, _, b', r, hk, hl, h => by simp at hk
 | k :: k1, k2, x :: a, b, [], b', r, hk, hl, h => by simp at hl
 | k :: k1, k2, x :: a, b, y :: a', b', r, hkl, hl, h => by
  simp only [List.length_cons, Nat.add_right_cancel_iff] at hl hkl
  simp only [List.cons_append] at h
  unfold eqCells at h
  split at h
  ·rename_i he _ _; cases he
  ·rename_i ks k p xs k' q ys h0 h1 h2
   simp only [List.cons.injEq] at h0 h1 h2
   obtain ⟨rfl, rfl⟩ := h0
   obtain ⟨rfl, rfl⟩ := h1
   obtain ⟨rfl, rfl⟩ := h2
   split at h
   ·cases h
   ·rename_i hk
    cases hr : eqCells (k1 ++ k2) (a ++ b) (a' ++ b') with
    | none => simp [hr] at h
    | some r' =>
     simp only [hr, Option.some.injEq] at h
     obtain ⟨r1, r2, e1, e2, e3⟩ := eqCells_append k1 k2 a b a' b' r' hkl hl hr
     refine ⟨p == q && r1, r2, ?_, e2, by rw [← h, e3, Bool.and_assoc]⟩
     unfold eqCells
     simp only [hk, if_false, e1]
  ·rename_i ks p xs q ys h0 h1 h2
   simp only [List.cons.injEq] at h0 h1 h2
   obtain ⟨rfl, rfl⟩ := h0
   obtain ⟨rfl, rfl⟩ := h1
   obtain ⟨rfl, rfl⟩ := h2
   cases hr : eqCells (k1 ++ k2) (a ++ b) (a' ++ b') with
   | none => simp [hr] at h
   | some r' =>
    simp only [hr, Option.some.injEq] at h
    obtain ⟨r1, r2, e1, e2, e3⟩ := eqCells_append k1 k2 a b a' b' r' hkl hl hr
    refine ⟨p == q && r1, r2, ?_, e2, by rw [← h, e3, Bool.and_assoc]⟩
    unfold eqCells
    simp only [e1]
  ·cases h

section
variable {fid : Nat → FuncId} {P : Program} {M : Mp} {w : World} {h : Heap}
def CellsIn (xs : Array Value) (X : List PV) : Prop := X.length = xs.size ∧ ∀ (i : Nat) (x : PV), X[i]? = some x → xs[i]? = some (valOf x)

theorem part_none {t : TypeId} (ht : szOk P t none = true) {xs : Array Value} {off : Nat} {u : Value} (h : xs[off]? = some u) : (part t xs off).run P w = .ok u w := by
 simp [part, run_isAgg ht, h]
theorem part_some {t : TypeId} {n : Nat} (ht : szOk P t (some n) = true) (xs : Array Value) (off : Nat) : (part t xs off).run P w = .ok (.agg (xs.extract off (off + n))) w := by
 simp [part, run_isAgg ht, run_sizeN ht, szN]

def FlatV (P : Program) (t : TypeId) (X : List PV) (v : Value) : Prop :=
 match P.underlying t with
 | some (.struct _) => ∃ xs, v = .agg xs ∧ CellsIn xs X ∧ X.length = tsize P t
 | _ => ∃ x, X = [x] ∧ v = valOf x

theorem eqFields_ok (n : Nat) (ih : ∀ (t : TypeId) (ks : List Bool) (d : Nat) (X Y : List PV) (b : Bool) (vx vy : Value), flatT P n t ks = true → eqCells ks X Y = some b → FlatV P t X vx → FlatV P t Y vy →
   (Op.equalIn (d + n) t vx vy).run P w = .ok b w) (ks : List Bool) (d total : Nat) (hks : ks.length = total) (xs ys : Array Value) (X Y : List PV) (hX : CellsIn xs X) (hY : CellsIn ys Y) (hlX : X.length = total) (hlY : Y.length = total) :
  ∀ (fs : List Field) (off : Nat) (b : Bool), flatFs P (flatT P n) ks total off fs = true → eqCells (ks.drop off) (X.drop off) (Y.drop off) = some b → (Op.eqFields (d + n) xs ys fs).run P w = .ok b w
 | [], off, b, h, he => by
  simp only [flatFs, beq_iff_eq] at h
  subst h
  rw [List.drop_of_length_le (by omega), List.drop_of_length_le (by omega), List.drop_of_length_le (by omega)] at he
  simp only [eqCells, Option.some.injEq] at he
  subst he
  rfl
 | f :: fs, off, b, h, he => by
  simp only [flatFs, Bool.and_eq_true, beq_iff_eq, bne_iff_ne] at h
  obtain ⟨⟨⟨hn, ho⟩, hf⟩, hr⟩ := h
  -- the field lies within
  have hfit : ∀ (fs : List Field) (off : Nat), flatFs P (flatT P n) ks total off fs = true → off ≤ total := by
   intro fs
   induction fs with
   | nil => intro off h; simp only [flatFs, beq_iff_eq] at h; omega
   | cons f fs ih' => intro off h; simp only [flatFs, Bool.and_eq_true] at h; have := ih' _ h.2; omega
  have hle := hfit _ _ hr
  have s1 : X.drop off = (X.drop off).take (tsize P f.type) ++ X.drop (off + tsize P f.type) := by rw [← List.drop_drop]; exact (List.take_append_drop _ _).symm
  have s2 : Y.drop off = (Y.drop off).take (tsize P f.type) ++ Y.drop (off + tsize P f.type) := by rw [← List.drop_drop]; exact (List.take_append_drop _ _).symm
  have s0 : ks.drop off = (ks.drop off).take (tsize P f.type) ++ ks.drop (off + tsize P f.type) := by rw [← List.drop_drop]; exact (List.take_append_drop _ _).symm
  rw [s0, s1, s2] at he
  obtain ⟨r1, r2, e1, e2, rfl⟩ := eqCells_append _ _ _ _ _ _ _ (by simp; omega) (by simp; omega) he
  have hrest := eqFields_ok n ih ks d total hks xs ys X Y hX hY hlX hlY fs _ r2 hr e2
  -- the field's values
  have fv : ∀ (zs : Array Value) (Z : List PV), CellsIn zs Z → Z.length = total → ∃ v, (part f.type zs f.offset).run P w = .ok v w ∧ FlatV P f.type ((Z.drop off).take (tsize P f.type)) v := by
   intro zs Z hZ hlZ
   cases n with
   | zero => simp [flatT] at hf
   | succ n =>
    unfold flatT at hf
    unfold FlatV
    split at hf
    ·rename_i k hu
     simp only [Bool.and_eq_true] at hf
     replace hf := hf.1
     obtain ⟨_, i, _, hi, hsz, _⟩ := szOk_cases hf
     have hs : tsize P f.type = 1 := by simp [tsize, hi, hsz, szN]
     have hz : Z[off]? = some Z[off] := List.getElem?_eq_getElem (by omega)
     refine ⟨valOf Z[off], part_none hf (by rw [ho]; exact hZ.2 _ _ hz), ?_⟩
     simp only [hu]
     refine ⟨Z[off], ?_, rfl⟩
     rw [hs, List.take_one]
     simp [hz]
    ·rename_i hu
     simp only [Bool.and_eq_true] at hf
     replace hf := hf.1
     obtain ⟨_, i, _, hi, hsz, _⟩ := szOk_cases hf
     have hs : tsize P f.type = 1 := by simp [tsize, hi, hsz, szN]
     have hz : Z[off]? = some Z[off] := List.getElem?_eq_getElem (by omega)
     refine ⟨valOf Z[off], part_none hf (by rw [ho]; exact hZ.2 _ _ hz), ?_⟩
     simp only [hu]
     refine ⟨Z[off], ?_, rfl⟩
     rw [hs, List.take_one]
     simp [hz]
    ·rename_i fs' hu
     simp only [Bool.and_eq_true] at hf
     refine ⟨_, part_some hf.1.1.1 _ _, ?_⟩
     simp only [hu]
     refine ⟨_, rfl, ⟨?_, ?_⟩, ?_⟩
     ·have := hZ.1; simp; omega
     ·intro i x hi
      rw [List.getElem?_take] at hi
      split at hi
      ·rename_i hin
       rw [List.getElem?_drop] at hi
       rw [Array.getElem?_extract, if_pos (by have := hZ.1; omega), ho]
       exact hZ.2 _ _ hi
      ·cases hi
     ·simp; omega
    ·cases hf
  obtain ⟨va, ha, hfa⟩ := fv xs X hX hlX
  obtain ⟨vb, hb, hfb⟩ := fv ys Y hY hlY
  have hq := ih f.type _ d _ _ r1 va vb hf e1 hfa hfb
  simp only [Op.eqFields, if_pos hn, Sem.run_bind, ha, hb, hq, Result.andThen_ok]
  cases r1
  ·simp
  ·simpa using hrest

theorem equalIn_ok : ∀ (n : Nat) (t : TypeId) (ks : List Bool) (d : Nat) (X Y : List PV) (b : Bool) (vx vy : Value), flatT P n t ks = true → eqCells ks X Y = some b → FlatV P t X vx → FlatV P t Y vy →
   (Op.equalIn (d + n) t vx vy).run P w = .ok b w
 | 0, t, ks, d, X, Y, b, vx, vy, h, _, _, _ => by simp [flatT] at h
 | n + 1, t, ks, d, X, Y, b, vx, vy, h, he, hx, hy => by
  unfold flatT at h
  unfold FlatV at hx hy
  split at h
  ·rename_i k hu
   simp only [hu] at hx hy
   obtain ⟨x, rfl, rfl⟩ := hx
   obtain ⟨y, rfl, rfl⟩ := hy
   simp only [Bool.and_eq_true, beq_iff_eq] at h
   obtain ⟨_, rfl⟩ := h
   cases x <;> cases y <;> try (simp [eqCells] at he; done)
   rename_i k1 p k2 q
   simp only [eqCells] at he
   split at he
   ·cases he
   ·rename_i hk
    simp only [ne_eq, Decidable.not_not] at hk
    subst hk
    simp only [Option.some.injEq, Bool.and_true] at he
    subst he
    exact run_equalIn_int w (d + n) t k1 k p q hu
  ·rename_i hu
   simp only [hu] at hx hy
   obtain ⟨x, rfl, rfl⟩ := hx
   obtain ⟨y, rfl, rfl⟩ := hy
   simp only [Bool.and_eq_true, beq_iff_eq] at h
   obtain ⟨_, rfl⟩ := h
   cases x <;> cases y <;> try (simp [eqCells] at he; done)
   simp only [eqCells, Option.some.injEq, Bool.and_true] at he
   subst he
   exact run_equalIn_bool hu (d + n) _ _
  ·rename_i fs hu
   simp only [hu] at hx hy
   obtain ⟨xs, rfl, hX, hlX⟩ := hx
   obtain ⟨ys, rfl, hY, hlY⟩ := hy
   simp only [Bool.and_eq_true, Bool.not_eq_true', beq_iff_eq] at h
   have hfo : P.fieldsOf t = fs := by simp [Program.fieldsOf, hu]
   show (Op.equalIn (d + n + 1) t (.agg xs) (.agg ys)).run P w = _
   rw [run_equalIn_struct (P := P) w (d + n) t xs ys (by rw [hfo]; exact hu) h.1.1.2, hfo]
   exact eqFields_ok n (equalIn_ok n) ks d _ h.1.2 xs ys X Y hX hY hlX hlY fs.toList 0 b h.2 (by simpa using he)
  ·cases h

theorem eqCells_vals : ∀ {ks : List Bool} {X Y : List PV} {b : Bool}, eqCells ks X Y = some b → (∀ x ∈ X, (∃ k n, x = .int k n) ∨ ∃ b, x = .bool b) ∧ (∀ y ∈ Y, (∃ k n, y = .int k n) ∨ ∃ b, y = .bool b) ∧ X.length = ks.length ∧ Y.length = ks.length := by
 intro ks
 induction ks with
 | nil =>
  intro X Y b h
  cases X <;> cases Y <;> simp [eqCells] at h
  simp
 | cons k ks ih =>
  intro X Y b h
  cases X with
  | nil => simp [eqCells] at h
  | cons x X =>
  cases Y with
  | nil => simp [eqCells] at h
  | cons y Y =>
   have : ∃ r, eqCells ks X Y = some r ∧ ((∃ k n, x = .int k n) ∨ ∃ b, x = .bool b) ∧ ((∃ k n, y = .int k n) ∨ ∃ b, y = .bool b) := by
    unfold eqCells at h
    split at h
    ·rename_i h0 _ _; cases h0
    ·rename_i h0 h1 h2
     simp only [List.cons.injEq] at h0 h1 h2
     obtain ⟨rfl, rfl⟩ := h0; obtain ⟨rfl, rfl⟩ := h1; obtain ⟨rfl, rfl⟩ := h2
     split at h
     ·cases h
     ·cases hr : eqCells ks X Y with
      | none => simp [hr] at h
      | some r => exact ⟨r, rfl, .inl ⟨_, _, rfl⟩, .inl ⟨_, _, rfl⟩⟩
    ·rename_i h0 h1 h2
     simp only [List.cons.injEq] at h0 h1 h2
     obtain ⟨rfl, rfl⟩ := h0; obtain ⟨rfl, rfl⟩ := h1; obtain ⟨rfl, rfl⟩ := h2
     cases hr : eqCells ks X Y with
     | none => simp [hr] at h
     | some r => exact ⟨r, rfl, .inr ⟨_, rfl⟩, .inr ⟨_, rfl⟩⟩
    ·cases h
   obtain ⟨r, hr, hx, hy⟩ := this
   obtain ⟨q1, q2, q3, q4⟩ := ih hr
   refine ⟨?_, ?_, by simp [q3], by simp [q4]⟩
   ·intro z hz; cases hz with
    | head => exact hx
    | tail _ hz => exact q1 z hz
   ·intro z hz; cases hz with
    | head => exact hy
    | tail _ hz => exact q2 z hz
theorem flatV_of {t : TypeId} {fs : Array Field} (hu : P.underlying t = some (.struct fs)) {x : PV} {c : Value} {X : List PV} (hX : x.cells = X) (hl : X.length = tsize P t)
  (hv : ∀ y ∈ X, (∃ k n, y = .int k n) ∨ ∃ b, y = .bool b) (hx : VR fid M x c) (hag : ∃ cs, x = .agg cs) : FlatV P t X c := by
 obtain ⟨cs, rfl⟩ := hag
 have : cs = X := hX
 subst this
 obtain ⟨vs, rfl, q1, q2⟩ := hx.agg_inv
 unfold FlatV
 simp only [hu]
 refine ⟨vs, rfl, ⟨q1, fun i y hi => ?_⟩, hl⟩
 have hlt : i < vs.size := by
  rw [← q1]
  rcases Nat.lt_or_ge i cs.length with z | z
  ·exact z
  ·rw [List.getElem?_eq_none z] at hi; cases hi
 have := q2 i y vs[i] hi (Array.getElem?_eq_getElem hlt)
 rw [Array.getElem?_eq_getElem hlt]
 congr 1
 rcases hv y (List.mem_of_getElem? hi) with ⟨k, n, rfl⟩ | ⟨b, rfl⟩
 ·exact this.int_inv
 ·exact this.bool_inv
theorem eqs_ok {neg : Bool} {ks : List Bool} {x y v : PV} {a b : Value} {h' : Heap} (hv : (eqsPV neg ks x y).run h = some (v, h')) (hx : VR fid M x a) (hy : VR fid M y b) {t : TypeId}
  {fs : Array Field} (hu : P.underlying t = some (.struct fs)) (hf : flatT P 20 t ks = true) (hg : P.eqGuardType P.depth t = false) (X Y : Operand) :
  h' = h ∧ ∃ c, ((Go.eqGuard (if neg then .neq else .eql) t X Y a b) >>= fun _ => Go.binOp (if neg then .neq else .eql) t a b).run P w = .ok c w ∧ VR fid M v c := by
 unfold eqsPV at hv
 split at hv
 case h_2 => simp [HM.run] at hv
 rename_i xs ys
 cases he : eqCells ks xs ys with
 | none => simp [he, HM.run] at hv
 | some r =>
  simp only [he] at hv
  obtain ⟨rfl, rfl⟩ := HM.run_ret_some hv
  refine ⟨rfl, ?_⟩
  obtain ⟨q1, q2, q3, q4⟩ := eqCells_vals he
  have hl : ks.length = tsize P t := by
   unfold flatT at hf
   simp only [hu, Bool.and_eq_true, beq_iff_eq] at hf
   exact hf.1.2
  have fx := flatV_of (P := P) hu (x := .agg xs) (X := xs) rfl (by omega) q1 hx ⟨_, rfl⟩
  have fy := flatV_of (P := P) hu (x := .agg ys) (X := ys) rfl (by omega) q2 hy ⟨_, rfl⟩
  have hq := equalIn_ok (P := P) (w := w) 20 t ks 9980 xs ys r a b hf he fx fy
  obtain ⟨va, rfl, _⟩ := hx.agg_inv
  obtain ⟨vb, rfl, _⟩ := hy.agg_inv
  rw [Sem.run_bind, run_eqGuard_agg (P := P) w _ t X Y va vb hg]
  exact ⟨_, binOp_eq_of hq (fun o => ⟨fun e => by subst e; rfl, fun e => by subst e; rfl⟩), .fr (.bool _)⟩
end
end Gv

namespace Gv
open Go

theorem okCells_get : ∀ {cs : List PV} {j : Nat} {x : PV}, okCells cs = true → cs[j]? = some x → x.isCell = true
 | c :: cs, 0, x, h, hj => by simp only [okCells, Bool.and_eq_true] at h; cases hj; exact h.1
 | c :: cs, j + 1, x, h, hj => by simp only [okCells, Bool.and_eq_true] at h; exact okCells_get h.2 hj

section
variable {fid : Nat → FuncId} {P : Program} {M : Mp} {w : World} {h : Heap}

def OkR (fid : Nat → FuncId) (P : Program) (M : Mp) (w : World) (s : Sem Value) (v : PV) (h' : Heap) : Prop :=
 ∃ c w' M', s.run P w = .ok c w' ∧ Stp M w M' w' ∧ HR fid M' h' w' ∧ VR fid M' v c
theorem OkR.pure {s : Sem Value} {v : PV} {c : Value} (H : HR fid M h w) (hs : s.run P w = .ok c w) (hv : VR fid M v c) : OkR fid P M w s v h :=
 ⟨c, w, M, hs, .refl _ _, H, hv⟩
theorem VR.isCell_one {v : PV} {c : Value} (h : VR fid M v c) (hc : v.isCell = true) : c.oneCell' = true := by
 cases h with
 | fr h => cases h <;> first | rfl | (simp [PV.isCell] at hc; done)
 | junk => simp [PV.isCell] at hc
 | tok => rfl
 | ptr => rfl
 | agg => simp [PV.isCell] at hc
 | tup => simp [PV.isCell] at hc
 | fn => rfl

theorem newVar_ok {t : TypeId} {sz : Option Nat} {x : PV} {s v : Nat} {c : Value} {h' : Heap} (H : HR fid M h w) (hf : x.fits sz = true) (hk : okCells x.cells = true)
  (hb : (newBlk s ⟨x.cells.length, [x], false⟩).run h = some (v, h')) (hx : VR fid M x c) :
  OkR fid P M w (do pure (.pointer (some (← newVar t c)))) (.ptr (.l s) v 0 0) h' := by
 obtain ⟨e, he, rfl, rfl⟩ := newBlk_some hb
 obtain ⟨q1, q2, q3⟩ := VR.fits_cells hf hx
 obtain ⟨H', S'⟩ := H.alloc he (b := ⟨x.cells.length, [x], false⟩) (cs := c.cells) (t := t) rfl (by simp; omega) (by show c.cells.size ≤ 9223372036854775807 * x.cells.length; omega) (by
  intro i e hi
  cases i with
  | succ i => simp at hi
  | zero =>
   simp only [List.getElem?_cons_zero, Option.some.injEq] at hi; subst hi
   refine ⟨rfl, fun j y hj => ⟨okCells_get hk hj, ?_⟩⟩
   obtain ⟨u, h1, h2⟩ := q3 j y hj
   exact ⟨u, by simpa using h1, h2⟩)
 refine ⟨_, _, _, by simp [newVar, newRow]; rfl, S', H', ?_⟩
 refine .ptr _ _ _ _ _ ?_ (fun loc hl => ?_)
 ·show e.ver + 1 ≤ (if (Ref.l s) = .l s then _ else _); rw [if_pos rfl]; exact Nat.le_refl _
 ·have hl' : (if (Ref.l s) = .l s then (if e.ver + 1 = e.ver + 1 then some _ else none) else _) = some loc := hl
  rw [if_pos rfl, if_pos rfl] at hl'
  simp only [Option.some.injEq] at hl'
  subst hl'
  simp
theorem box_ok {t : TypeId} {sz : Option Nat} {x v : PV} {s : Nat} {c : Value} {h' : Heap} (H : HR fid M h w) (hv : (boxHM sz x s).run h = some (v, h')) (hx : VR fid M x c) :
  OkR fid P M w (Instr.box t c) v h' := by
 unfold boxHM at hv
 by_cases hc : x.fits sz = true ∧ okCells x.cells = true
 case neg => rw [if_neg hc] at hv; simp [HM.run] at hv
 rw [if_pos hc] at hv
 obtain ⟨n, h1, hb, hv⟩ := HM.run_bind_some hv
 obtain ⟨rfl, rfl⟩ := HM.run_ret_some hv
 exact newVar_ok H hc.1 hc.2 hb hx
theorem alloc_ok {t : TypeId} {sz : Option Nat} {x v : PV} {s : Nat} {h' : Heap} (H : HR fid M h w) (hv : (boxHM sz x s).run h = some (v, h')) (hz : zeroOk P t x = true) :
  OkR fid P M w (Instr.alloc t true (.tuple #[])) v h' := by
 obtain ⟨i, zv, hi, hzv, hfr⟩ := zeroOk_inv (fid := fid) hz
 obtain ⟨c, w', M', h1, h2⟩ := box_ok (P := P) (t := t) H hv (.fr (hfr M.rd))
 refine ⟨c, w', M', ?_, h2⟩
 rw [← h1]
 simp [Instr.alloc, Instr.box, zeroValue, typeInfo, hi, hzv]
theorem newRow_ok {t : TypeId} {s v : Nat} {b : Blk} {cs : Array Value} {h' : Heap} (H : HR fid M h w) (hb : (newBlk s b).run h = some (v, h')) (hro : b.ro = false)
  (hsz : b.es.length * b.sz ≤ cs.size) (hbg : cs.size ≤ 9223372036854775807 * b.sz) (hc : CellsAt fid M cs 0 b.sz b.es) :
  ∃ M', Stp M w M' (w.alloc (.cells cs t)) ∧ HR fid M' h' (w.alloc (.cells cs t)) ∧ v ≤ M'.cv (.l s) ∧ M'.io (.l s) v = some ⟨w.heap.size, 0, b.sz, cs.size⟩ := by
 obtain ⟨e, he, rfl, rfl⟩ := newBlk_some hb
 obtain ⟨H', S'⟩ := H.alloc he (b := b) (cs := cs) (t := t) hro hsz hbg hc
 refine ⟨_, S', H', ?_, ?_⟩
 ·show e.ver + 1 ≤ (if (Ref.l s) = .l s then _ else _); rw [if_pos rfl]; exact Nat.le_refl _
 ·show (if (Ref.l s) = .l s then (if e.ver + 1 = e.ver + 1 then some _ else none) else _) = _
  rw [if_pos rfl, if_pos rfl]
theorem tok_of_new {M' : Mp} {s v sz n room cap base size : Nat} (hv : v ≤ M'.cv (.l s)) (hio : M'.io (.l s) v = some ⟨base, 0, sz, size⟩) (h1 : n ≤ room) (h2 : room ≤ cap) (h3 : cap * sz ≤ size) :
  VR fid M' (.tok (.l s) v sz 0 n room false) (.slice (some ⟨base, 0, none⟩) n cap) := by
 refine .tok _ _ _ _ _ _ _ _ _ hv h1 h2 (by intro h; cases h) (fun loc hl => ?_)
 rw [hio] at hl
 simp only [Option.some.injEq] at hl
 subst hl
 exact ⟨rfl, .inr ⟨by simp, by simpa using h3⟩⟩

structure SrcAt (fid : Nat → FuncId) (M : Mp) (w : World) (ad : Addr) (sz : Nat) (es : List PV) (us : Nat → Nat → Value) : Prop where
 len : ∀ (i : Nat) (e : PV), es[i]? = some e → e.cells.length = sz
 cell : ∀ (i : Nat) (e : PV) (j : Nat) (x : PV), es[i]? = some e → e.cells[j]? = some x → x.isCell = true ∧ w.cell? (ad.add (i * sz + j)) = some (us i j) ∧ VR fid M x (us i j)
inductive SliceR (fid : Nat → FuncId) (M : Mp) (w : World) : List PV → Value → Prop
 | none (n cap : Nat) (h : n = 0) : SliceR fid M w [] (.slice none n cap)
 | empty (a : Option Addr) (cap : Nat) : SliceR fid M w [] (.slice a 0 cap)
 | some (ad : Addr) (cap sz : Nat) (es : List PV) (us : Nat → Nat → Value) (h : SrcAt fid M w ad sz es us) (hne : es ≠ []) : SliceR fid M w es (.slice (some ad) es.length cap)
 | str (s : List UInt8) : SliceR fid M w (s.map fun b => .int .u8 b.toNat) (.string ⟨s.toArray⟩)
theorem elems_ok {x : PV} {es : List PV} {c : Value} {h' : Heap} (hv : (elems x).run h = some (es, h')) (H : HR fid M h w) (hx : VR fid M x c) : h' = h ∧ SliceR fid M w es c := by
 unfold elems at hv
 split at hv
 ·obtain ⟨rfl, rfl⟩ := HM.run_ret_some hv
  have := hx.nils_inv; subst this
  exact ⟨rfl, .none 0 0 rfl⟩
 ·rename_i es c0
  obtain ⟨rfl, rfl⟩ := HM.run_ret_some hv
  refine ⟨rfl, ?_⟩
  have hf := hx.lst_inv
  cases hf with
  | lst _ _ a cap esz us h1 h2 h3 h4 h5 =>
   by_cases hne : es = []
   ·subst hne; exact .empty _ _
   ·refine .some a cap esz es us ⟨h3, fun i e j x hi hj => ?_⟩ hne
    obtain ⟨q1, q2, vs, q3, q4⟩ := h4 i e j x hi hj
    obtain ⟨t, fz, hh⟩ := H.rd _ _ q3
    exact ⟨q1, by rw [add_spot q2, cell_of_heap hh, q4], .fr (h5 i e j x hi hj)⟩
 ·rename_i s
  obtain ⟨rfl, rfl⟩ := HM.run_ret_some hv
  have := hx.str_inv; subst this
  exact ⟨rfl, .str s⟩
 ·rename_i r ver sz off len room c0
  obtain ⟨a, cap, rfl, hver, k2, k3, k4, k5⟩ := hx.tok_inv
  split at hv
  ·rename_i hl
   obtain ⟨rfl, rfl⟩ := HM.run_ret_some hv
   subst hl
   exact ⟨rfl, .empty _ _⟩
  ·rename_i hl0
   obtain ⟨b, h1, hb, hv⟩ := HM.run_bind_some hv
   obtain ⟨rfl, hg⟩ := liveBlk_some hb
   split at hv
   ·rename_i hc
    obtain ⟨rfl, rfl⟩ := HM.run_ret_some hv
    refine ⟨rfl, ?_⟩
    obtain ⟨loc, ca, ty, lo, hi, hl, B⟩ := H.live hg
    obtain ⟨e1, e2⟩ := k5 loc hl
    have hlen : ((b.es.drop off).take len).length = len := by simp; omega
    rcases e2 with e2 | ⟨rfl, e2⟩
    ·omega
    have key : SliceR fid M w ((b.es.drop off).take len) (.slice (some ⟨loc.b, loc.base + off * sz, none⟩) ((b.es.drop off).take len).length cap) := by
     have hget : ∀ (i : Nat) (e : PV), ((b.es.drop off).take len)[i]? = some e → b.es[off + i]? = some e := by
      intro i e hi
      rw [List.getElem?_take] at hi
      split at hi
      ·rw [List.getElem?_drop] at hi; exact hi
      ·cases hi
     refine .some _ cap sz _ (fun i j => ca.getD (loc.base + (off + i) * sz + j) undef) ⟨?_, ?_⟩ ?_
     ·intro i e hi; rw [(B.cells _ _ (hget i e hi)).1, hc.2]
     ·intro i e j x hi hj
      obtain ⟨q1, u, q2, q3⟩ := (B.cells _ _ (hget i e hi)).2 j x hj
      rw [hc.2] at q2
      rw [add_at, cell_of_heap B.heap]
      have e3 : loc.base + off * sz + (i * sz + j) = loc.base + (off + i) * sz + j := by rw [Nat.add_mul]; omega
      rw [e3, q2]
      exact ⟨q1, by simp [q2], by simpa [q2] using q3⟩
     ·intro h0; rw [h0] at hlen; simp at hlen; omega
    rw [hlen] at key
    exact key
   ·simp [HM.run] at hv
 ·simp [HM.run] at hv

def rowOf (n sz : Nat) (us : Nat → Nat → Value) : List Value := (List.range (n * sz)).map fun k => us (k / sz) (k % sz)
theorem rowOf_length (n sz : Nat) (us : Nat → Nat → Value) : (rowOf n sz us).length = n * sz := by simp [rowOf]
theorem rowOf_get {n sz i j : Nat} (us : Nat → Nat → Value) (hi : i < n) (hj : j < sz) : (rowOf n sz us)[i * sz + j]? = some (us i j) := by
 have hlt : i * sz + j < n * sz := by
  have : (i + 1) * sz ≤ n * sz := Nat.mul_le_mul_right _ hi
  rw [Nat.add_mul] at this; omega
 unfold rowOf
 rw [List.getElem?_map, List.getElem?_range hlt]
 have h0 : 0 < sz := by omega
 simp only [Option.map_some, Option.some.injEq]
 rw [Nat.add_comm, Nat.add_mul_div_right _ _ h0, Nat.add_mul_mod_self_right, Nat.div_eq_of_lt hj, Nat.mod_eq_of_lt hj, Nat.zero_add]
theorem SrcAt.row {ad : Addr} {sz : Nat} {es : List PV} {us : Nat → Nat → Value} (S : SrcAt fid M w ad sz es us) (k : Nat) (v : Value) (h : (rowOf es.length sz us)[k]? = some v) :
  w.cell? (ad.add k) = some v ∧ ∃ i j e x, es[i]? = some e ∧ e.cells[j]? = some x ∧ k = i * sz + j ∧ v = us i j := by
 unfold rowOf at h
 rw [List.getElem?_map] at h
 have hlt : k < es.length * sz := by
  rcases Nat.lt_or_ge k (es.length * sz) with z | z
  ·exact z
  ·rw [List.getElem?_eq_none (by simpa using z)] at h; cases h
 rw [List.getElem?_range hlt] at h
 simp only [Option.map_some, Option.some.injEq] at h
 have h0 : 0 < sz := by
  rcases Nat.eq_zero_or_pos sz with z | z
  ·rw [z] at hlt; omega
  ·exact z
 have hi : k / sz < es.length := Nat.div_lt_of_lt_mul (by rw [Nat.mul_comm]; exact hlt)
 have hj : k % sz < sz := Nat.mod_lt _ h0
 have he : es[k / sz]? = some es[k / sz] := List.getElem?_eq_getElem hi
 have hl := S.len _ _ he
 have hx : (es[k / sz]).cells[k % sz]? = some (es[k / sz]).cells[k % sz] := List.getElem?_eq_getElem (by omega)
 have hk : k / sz * sz + k % sz = k := by rw [Nat.mul_comm]; exact Nat.div_add_mod k sz
 obtain ⟨_, q2, _⟩ := S.cell _ _ _ _ he hx
 rw [hk, h] at q2
 exact ⟨q2, _, _, _, _, he, hx, hk.symm, h.symm⟩
end
end Gv

namespace Gv
open Go

def splA (c : Array Value) (k : Nat) (vs : List Value) : Array Value := (c.toList.take k ++ vs ++ c.toList.drop (k + vs.length)).toArray
theorem splA_size {c : Array Value} {k : Nat} {vs : List Value} (h : k + vs.length ≤ c.size) : (splA c k vs).size = c.size := by
 simp [splA]; omega
theorem splA_get {c : Array Value} {k : Nat} {vs : List Value} (h : k + vs.length ≤ c.size) (i : Nat) :
  (splA c k vs)[i]? = if k ≤ i ∧ i < k + vs.length then vs[i - k]? else c[i]? := by
 simp only [splA, List.getElem?_toArray]
 by_cases h1 : i < k
 ·rw [List.append_assoc, List.getElem?_append_left (by simp; omega), List.getElem?_take, if_pos h1, if_neg (by omega), Array.getElem?_toList]
 ·by_cases h2 : i < k + vs.length
  ·rw [if_pos ⟨by omega, h2⟩, List.append_assoc, List.getElem?_append_right (by simp; omega), List.getElem?_append_left (by simp; omega)]
   congr 1; simp; omega
  ·rw [if_neg (by omega), List.append_assoc, List.getElem?_append_right (by simp; omega), List.getElem?_append_right (by simp; omega), List.getElem?_drop, ← Array.getElem?_toList]
   congr 1; simp; omega
theorem splA_nil (c : Array Value) (k : Nat) : splA c k [] = c := by simp [splA, List.take_append_drop]
theorem splA_cons {c : Array Value} {k : Nat} {v : Value} {vs : List Value} (h : k + (vs.length + 1) ≤ c.size) : splA (c.setIfInBounds k v) (k + 1) vs = splA c k (v :: vs) := by
 apply Array.ext_getElem?
 intro i
 rw [splA_get (by simp; omega), splA_get (by simpa using h)]
 by_cases h1 : k ≤ i ∧ i < k + (v :: vs).length
 ·rw [if_pos h1]
  by_cases h2 : k + 1 ≤ i ∧ i < k + 1 + vs.length
  ·rw [if_pos h2]
   have : i - k = (i - (k + 1)) + 1 := by omega
   rw [this]; rfl
  ·rw [if_neg h2]
   have : i = k := by simp at h1; omega
   subst this
   rw [Array.getElem?_setIfInBounds_self_of_lt (by omega), Nat.sub_self]; rfl
 ·rw [if_neg h1, if_neg (by simp at h1; omega)]
  exact Array.getElem?_setIfInBounds_ne (by simp at h1; omega)
def setB (w : World) (b : Nat) (o : Obj) : World := { w with heap := w.heap.setIfInBounds b o }
theorem setB_same {w : World} {b : Nat} {o : Obj} (h : b < w.heap.size) : (setB w b o).heap[b]? = some o := by
 show (w.heap.setIfInBounds b o)[b]? = _; rw [Array.getElem?_setIfInBounds_self_of_lt h]
theorem setB_other {w : World} {b k : Nat} {o : Obj} (h : k ≠ b) : (setB w b o).heap[k]? = w.heap[k]? := by
 show (w.heap.setIfInBounds b o)[k]? = _; rw [Array.getElem?_setIfInBounds_ne (Ne.symm h)]
theorem setB_setB {w : World} {b : Nat} {o o' : Obj} : setB (setB w b o) b o' = setB w b o' := by
 simp [setB]
theorem setB_self {w : World} {b : Nat} {o : Obj} (h : w.heap[b]? = some o) : setB w b o = w := by
 cases w with
 | mk heap tape drawn os output =>
  simp only [setB, World.mk.injEq, and_true]
  apply Array.ext_getElem?
  intro i
  by_cases hi : b = i
  ·subst hi
   have hlt : b < heap.size := by
    rcases Nat.lt_or_ge b heap.size with z | z
    ·exact z
    ·simp [Array.getElem?_eq_none z] at h
   rw [Array.getElem?_setIfInBounds_self_of_lt hlt]; exact h.symm
  ·rw [Array.getElem?_setIfInBounds_ne hi]
theorem setCell_setB {w : World} {b o : Nat} {c : Array Value} {t : TypeId} {fz : Nat × Nat} {v : Value} (h : w.heap[b]? = some (.cells c t fz)) :
  w.setCell ⟨b, o, none⟩ v = setB w b (.cells (c.setIfInBounds o v) t fz) := by
 unfold World.setCell setB
 congr 1
 apply Array.ext_getElem?
 intro i
 rw [Array.getElem?_modify]
 by_cases hi : b = i
 ·subst hi
  have hlt : b < w.heap.size := by
   rcases Nat.lt_or_ge b w.heap.size with z | z
   ·exact z
   ·simp [Array.getElem?_eq_none z] at h
  rw [if_pos rfl, h, Array.getElem?_setIfInBounds_self_of_lt hlt]
  simp
 ·rw [if_neg hi, Array.getElem?_setIfInBounds_ne hi]
theorem run_stores {P : Program} (b base : Nat) (t : TypeId) (lo hi : Nat) : ∀ (vs : List Value) (i : Nat) (c : Array Value) (w : World), w.heap[b]? = some (.cells c t (lo, hi)) →
  base + i + vs.length ≤ c.size → (∀ k, k < c.size → ¬ (lo ≤ k ∧ k < hi)) → (∀ v ∈ vs, v.oneCell' = true) →
  (storeCells ⟨b, base, none⟩ vs i).run P w = .ok () (setB w b (.cells (splA c (base + i) vs) t (lo, hi)))
 | [], i, c, w, hh, _, _, _ => by simp [storeCells, splA_nil, setB_self hh]
 | v :: vs, i, c, w, hh, hl, hf, h1 => by
  simp only [List.length_cons] at hl
  have hlt : b < w.heap.size := by
   rcases Nat.lt_or_ge b w.heap.size with z | z
   ·exact z
   ·simp [Array.getElem?_eq_none z] at hh
  have hcell : w.cell? ⟨b, base + i, none⟩ = some c[base + i] := by rw [cell_of_heap hh, Array.getElem?_eq_getElem (by omega)]
  have hfro : w.frozen? ⟨b, base + i, none⟩ = false := by
   simp only [World.frozen?, hh]
   have := hf (base + i) (by omega)
   simp only [Bool.and_eq_false_iff, decide_eq_false_iff_not]
   omega
  have hone : v.oneCell' = true := h1 v (by simp)
  have ih := run_stores (P := P) b base t lo hi vs (i + 1) (c.setIfInBounds (base + i) v) (setB w b (.cells (c.setIfInBounds (base + i) v) t (lo, hi))) (setB_same hlt)
   (by simp; omega) (by simpa using hf) (fun u hu => h1 u (by simp [hu]))
  simp only [storeCells, Sem.run_bind, add_at, run_store P w _ v .plain hone, hcell, hfro, Bool.false_eq_true, if_false, Result.andThen_ok]
  rw [setCell_setB hh, ih, setB_setB]
  have e1 : base + (i + 1) = base + i + 1 := by omega
  rw [e1, splA_cons (by omega)]

section
variable {fid : Nat → FuncId} {P : Program} {M : Mp} {w : World} {h : Heap}

theorem HR.write {r : Ref} {ver : Nat} {b b' : Blk} (H : HR fid M h w) (hg : h.get r = some ⟨ver, some b⟩) (hro : b.ro = false) (hro' : b'.ro = false)
  {loc : Loc} {c c' : Array Value} {t lo hi : Nat} (hl : M.io r ver = some loc) (B : BlkAt fid M w loc b c t lo hi) (hsz : b'.sz = b.sz) (hc : c'.size = c.size)
  (hfit : loc.base + b'.es.length * b'.sz ≤ c.size) (hcells : CellsAt fid M c' loc.base b'.sz b'.es) :
  HR fid M (h.put r ⟨ver, some b'⟩) (setB w loc.b (.cells c' t (lo, hi))) ∧ Stp M w M (setB w loc.b (.cells c' t (lo, hi))) := by
 have hlt := B.lt
 have hne : ∀ r' v' loc', r' ≠ r → M.io r' v' = some loc' → loc'.b ≠ loc.b := fun r' v' loc' hr h1 e => hr (H.inj _ _ _ _ _ _ h1 hl e)
 have hrd : M.rd loc.b = none := B.rw_ hro
 refine ⟨H.upd hg (by intro i hi; subst hi; have := Heap.ver_a hg; exact this) (.refl _) (fun _ _ => rfl) (fun _ _ => rfl) (by have := H.cv _ _ hg; exact this) (fun v hv => ⟨(H.dom _ _ _ hg hv).1, by simp⟩)
  (fun _ => by simp [hl]) ?_ ?_ ?_ ?_, ?_⟩
 ·intro b1 loc1 h1 h2
  simp only [Option.some.injEq] at h1; subst h1
  have h2' : M.io r ver = some loc1 := h2
  rw [hl] at h2'; cases h2'
  exact ⟨c', t, lo, hi, ⟨setB_same hlt, by rw [B.sz, hsz], by rw [hc]; exact B.size, fun k hk => B.free k (by omega), ⟨B.lohi.1, fun q => by rw [hc]; exact B.lohi.2.1 (by first | (rw [hsz] at q; exact q) | (rw [← hsz] at q; exact q) | (rw [← hsz]; exact q)), by rw [hc, hsz]; exact B.lohi.2.2⟩, by omega, fun q => absurd q (by rw [hro']; decide), fun _ => hrd, hcells⟩⟩
 ·intro v loc1 r' v' loc' hr h1 h2 e
  exact hr (H.inj _ _ _ _ _ _ h2 h1 e.symm)
 ·intro r' v' loc' hr h1
  exact ⟨setB_other (hne _ _ _ hr h1), rfl⟩
 ·intro b1 vs h1
  obtain ⟨t1, fz, hh⟩ := H.rd b1 vs h1
  exact ⟨t1, fz, by rw [setB_other (by intro e; subst e; rw [hrd] at h1; cases h1)]; exact hh⟩
 ·exact ⟨⟨.refl _, rfl, rfl, rfl, by simp [setB], fun k hk hn => setB_other (fun e => hn ⟨r, ver, loc, hl, e.symm⟩), fun k hk => .inl hk, fun k hk => .inl hk⟩, .refl _⟩

theorem storeVar_run {t : TypeId} {sz : Option Nat} (ht : szOk P t sz = true) {b base : Nat} {ty lo hi : Nat} {c : Array Value} {v : Value} (hs : v.cells.size = szN sz)
  (hh : w.heap[b]? = some (.cells c ty (lo, hi))) (hl : base + v.cells.size ≤ c.size) (hf : ∀ k, k < c.size → ¬ (lo ≤ k ∧ k < hi)) (h1 : ∀ u ∈ v.cells.toList, u.oneCell' = true) :
  (storeVar t ⟨b, base, none⟩ v).run P w = .ok () (setB w b (.cells (splA c base v.cells.toList) ty (lo, hi))) := by
 unfold storeVar
 have := run_stores (P := P) b base ty lo hi v.cells.toList 0 c w hh (by simpa using hl) hf h1
 simp only [Nat.add_zero] at this
 simp only [Sem.run_bind, run_sizeN ht, Result.andThen_ok, hs, ne_eq, not_true_eq_false, if_false, this]
theorem withCells_cells {e : PV} {cs : List PV} (h : e.cells.length = cs.length) : (e.withCells cs).cells = cs ∨ ∃ x, cs = [x] ∧ e.withCells cs = x := by
 cases e with
 | agg xs => exact .inl rfl
 | _ =>
  right
  have hl : cs.length = 1 := by rw [← h]; rfl
  obtain ⟨x, rfl⟩ := List.length_eq_one_iff.1 hl
  exact ⟨x, rfl, rfl⟩
theorem cells_one {x : PV} (h : x.isCell = true) : x.cells = [x] := by cases x <;> first | rfl | (simp [PV.isCell] at h; done)
theorem store_ok {t : TypeId} {sz : Option Nat} (ht : szOk P t sz = true) {x y v : PV} {cx cy : Value} {h' : Heap} (hv : (storeHM sz x y).run h = some (v, h')) (H : HR fid M h w)
  (hx : VR fid M x cx) (hy : VR fid M y cy) : ∃ w' M', (Instr.storeAt t cx cy).run P w = .ok () w' ∧ Stp M w M' w' ∧ HR fid M' h' w' := by
 unfold storeHM at hv
 split at hv
 case h_2 => simp [HM.run] at hv
 rename_i r ver i o
 obtain ⟨b, h1, hb, hv⟩ := HM.run_bind_some hv
 obtain ⟨rfl, hg⟩ := liveBlk_some hb
 split at hv
 case h_2 => simp [HM.run] at hv
 rename_i e he
 by_cases hc : y.fits sz = true ∧ okCells y.cells = true ∧ o + y.cells.length ≤ e.cells.length ∧ b.ro = false
 case neg => rw [if_neg hc] at hv; simp [HM.run] at hv
 rw [if_pos hc] at hv
 obtain ⟨e0, he0, hv⟩ := run_set_some hv
 obtain ⟨_, rfl⟩ := HM.run_ret_some hv
 obtain ⟨c1, c2, c3, c4⟩ := hc
 obtain ⟨loc, ca, ty, lo, hi, hl, B⟩ := H.live hg
 obtain ⟨a, rfl, _, ha⟩ := hx.ptr_inv
 have ha := ha loc hl
 subst ha
 obtain ⟨q1, q2, q3⟩ := VR.fits_cells c1 hy
 obtain ⟨he1, he2⟩ := B.cells i e he
 have hil : i < b.es.length := by
  rcases Nat.lt_or_ge i b.es.length with z | z
  ·exact z
  ·rw [List.getElem?_eq_none z] at he; cases he
 have hsz := B.sz
 have hfit := B.fits
 have hmul : (i + 1) * b.sz ≤ b.es.length * b.sz := Nat.mul_le_mul_right _ hil
 rw [Nat.add_mul, Nat.one_mul] at hmul
 have hbound : loc.base + i * loc.sz + o + cy.cells.size ≤ ca.size := by rw [hsz]; omega
 have hrun := storeVar_run (P := P) (w := w) ht (v := cy) q1 B.heap hbound B.free (by
  intro u hu
  obtain ⟨j, hj, rfl⟩ := List.mem_iff_getElem.1 hu
  simp only [Array.length_toList] at hj
  have hjy : y.cells[j]? = some y.cells[j] := List.getElem?_eq_getElem (by omega)
  obtain ⟨u', h3, h4⟩ := q3 j _ hjy
  rw [Array.getElem?_eq_getElem hj] at h3
  simp only [Option.some.injEq] at h3
  rw [Array.getElem_toList, h3]
  exact h4.isCell_one (okCells_get c2 hjy))
 let cs' := e.cells.take o ++ y.cells ++ e.cells.drop (o + y.cells.length)
 have hcl : cs'.length = e.cells.length := by simp [cs']; omega
 have hcell' : ∀ (j : Nat) (x : PV), cs'[j]? = some x → x.isCell = true ∧ ∃ u, (splA ca (loc.base + i * loc.sz + o) cy.cells.toList)[loc.base + i * b.sz + j]? = some u ∧ VR fid M x u := by
  intro j x hj
  have hjl : j < e.cells.length := by
   rw [← hcl]
   rcases Nat.lt_or_ge j cs'.length with z | z
   ·exact z
   ·rw [List.getElem?_eq_none z] at hj; cases hj
  rw [splA_get (by simpa using hbound)]
  by_cases h5 : o ≤ j ∧ j < o + y.cells.length
  ·rw [if_pos (by rw [hsz]; simp; omega)]
   have : y.cells[j - o]? = some x := by
    simp only [cs'] at hj
    rw [List.append_assoc, List.getElem?_append_right (by simp; omega), List.getElem?_append_left (by simp; omega)] at hj
    rw [← hj]; congr 1; simp; omega
   obtain ⟨u, h6, h7⟩ := q3 _ _ this
   refine ⟨okCells_get c2 this, u, ?_, h7⟩
   rw [Array.getElem?_toList, ← h6]; congr 1; rw [hsz]; omega
  ·rw [if_neg (by rw [hsz]; simp; omega)]
   have : e.cells[j]? = some x := by
    simp only [cs'] at hj
    rcases Nat.lt_or_ge j o with z | z
    ·rw [List.append_assoc, List.getElem?_append_left (by simp; omega), List.getElem?_take, if_pos z] at hj; exact hj
    ·rw [List.append_assoc, List.getElem?_append_right (by simp; omega), List.getElem?_append_right (by simp; omega), List.getElem?_drop] at hj
     rw [← hj]; congr 1; simp; omega
   exact he2 j x this
 obtain ⟨H', S'⟩ := H.write hg c4 (b' := ⟨b.sz, b.es.set i (e.withCells cs'), false⟩) rfl hl B rfl (c' := splA ca (loc.base + i * loc.sz + o) cy.cells.toList) (splA_size (by simpa using hbound))
  (by simpa using hfit) (by
   intro k e' hk
   by_cases hki : i = k
   ·subst hki
    simp only [List.getElem?_set_self hil, Option.some.injEq] at hk
    subst hk
    have hcs : (e.withCells cs').cells = cs' := by
     rcases withCells_cells (e := e) (cs := cs') (by omega) with h8 | ⟨x, h8, h9⟩
     ·exact h8
     ·rw [h9, h8]
      have := (hcell' 0 x (by rw [h8]; rfl)).1
      exact cells_one this
    rw [hcs]
    exact ⟨by rw [hcl]; exact he1, hcell'⟩
   ·simp only [List.getElem?_set_ne hki] at hk
    obtain ⟨h5, h6⟩ := B.cells k e' hk
    refine ⟨h5, fun j x hj => ⟨(h6 j x hj).1, ?_⟩⟩
    obtain ⟨u, h7, h8⟩ := (h6 j x hj).2
    refine ⟨u, ?_, h8⟩
    have hjl : j < b.sz := by
     rw [← h5]
     rcases Nat.lt_or_ge j e'.cells.length with z | z
     ·exact z
     ·rw [List.getElem?_eq_none z] at hj; cases hj
    rw [splA_get (by simpa using hbound), if_neg, h7]
    rw [hsz]
    simp only [Array.length_toList]
    rcases Nat.lt_or_gt_of_ne hki with z | z
    ·have : (i + 1) * b.sz ≤ k * b.sz := Nat.mul_le_mul_right _ z
     rw [Nat.add_mul, Nat.one_mul] at this
     omega
    ·have : (k + 1) * b.sz ≤ i * b.sz := Nat.mul_le_mul_right _ z
     rw [Nat.add_mul, Nat.one_mul] at this
     omega)
 refine ⟨_, M, ?_, S', H'⟩
 unfold Instr.storeAt
 simp only [Sem.run_bind, Instr.sureAddr, Sem.run_pure, Result.andThen_ok]
 exact hrun
end
end Gv

namespace Gv
open Go

section
variable {fid : Nat → FuncId} {P : Program} {M : Mp} {w : World} {h : Heap}

theorem FR.cells_size {rd : RD} {v : PV} {c : Value} (x : FR fid rd v c) : v.cells.length = c.cells.size := by
 cases x <;> first | rfl | assumption
theorem FR.cells_at {rd : RD} {v : PV} {c : Value} (x : FR fid rd v c) : ∀ (j : Nat) (y : PV), v.cells[j]? = some y → ∃ u, c.cells[j]? = some u ∧ FR fid rd y u := by
 intro j y hj
 have one : (v.cells = [v] ∧ c.cells = #[c]) ∨ ∃ cs vs, v = .agg cs ∧ c = .agg vs := by
  cases x <;> first | exact .inl ⟨rfl, rfl⟩ | exact .inr ⟨_, _, rfl, rfl⟩
 rcases one with ⟨h1, h2⟩ | ⟨cs, vs, rfl, rfl⟩
 ·rw [h1] at hj; rw [h2]
  cases j with
  | zero => cases hj; exact ⟨c, rfl, x⟩
  | succ j => cases hj
 ·cases x with
  | agg _ _ q1 q2 =>
   have hj' : cs[j]? = some y := hj
   have hlt : j < vs.size := by
    rw [← q1]
    rcases Nat.lt_or_ge j cs.length with z | z
    ·exact z
    ·rw [List.getElem?_eq_none z] at hj'; cases hj'
   exact ⟨vs[j], Array.getElem?_eq_getElem hlt, q2 _ _ _ hj' (Array.getElem?_eq_getElem hlt)⟩
theorem FR.isCell {rd : RD} {v : PV} {c : Value} (x : FR fid rd v c) (hc : c.oneCell' = true) : v.isCell = true := by
 cases x <;> first | rfl | (simp [Value.oneCell'] at hc; done)
def eltV (e : PV) (u : Nat → Value) : Value := match e with
 | .agg cs => .agg ((List.range cs.length).map u).toArray
 | _ => u 0
theorem eltV_ok {e : PV} {u : Nat → Value} (hc : ∀ (j : Nat) (x : PV), e.cells[j]? = some x → VR fid M x (u j)) : VR fid M e (eltV e u) := by
 cases e with
 | agg cs =>
  refine .agg _ _ (by simp) (fun i c v h1 h2 => ?_)
  have hlt : i < cs.length := by
   rcases Nat.lt_or_ge i cs.length with z | z
   ·exact z
   ·rw [List.getElem?_eq_none z] at h1; cases h1
  simp only [List.getElem?_toArray, List.getElem?_map, List.getElem?_range hlt, Option.map_some, Option.some.injEq] at h2
  rw [← h2]
  exact hc i c h1
 | _ => exact hc 0 _ rfl
theorem eltV_cells {e : PV} {u : Nat → Value} (j : Nat) (hj : j < e.cells.length) (h1 : (∀ cs, e ≠ .agg cs) → (u 0).oneCell' = true) : (eltV e u).cells[j]? = some (u j) := by
 cases e with
 | agg cs => simp only [PV.cells] at hj; simp [eltV, Value.cells, hj]
 | _ =>
  have h0 : j = 0 := by simp [PV.cells] at hj; exact hj
  subst h0
  have := h1 (by intro cs; simp)
  simp only [eltV]
  cases hu : u 0 <;> first | rfl | (rw [hu] at this; simp [Value.oneCell'] at this; done)
theorem eltV_size {e : PV} {u : Nat → Value} (h1 : (∀ cs, e ≠ .agg cs) → (u 0).oneCell' = true) : (eltV e u).cells.size = e.cells.length := by
 cases e with
 | agg cs => simp [eltV, Value.cells, PV.cells]
 | _ =>
  have := h1 (by intro cs; simp)
  simp only [eltV]
  cases hu : u 0 <;> first | rfl | (rw [hu] at this; simp [Value.oneCell'] at this; done)

theorem HR.consume {s ver : Nat} {b : Blk} (H : HR fid M h w) (hg : h.get (.l s) = some ⟨ver, some b⟩) {loc : Loc} {c : Array Value} {t lo hi : Nat} (hl : M.io (.l s) ver = some loc)
  (B : BlkAt fid M w loc b c t lo hi) :
  let M' := M.at (.l s) ver none (fun x => if x = loc.b then some c else M.rd x)
  HR fid M' (h.put (.l s) ⟨ver, none⟩) w ∧ Stp M w M' w ∧ M'.rd loc.b = some c := by
 intro M'
 have hne : ∀ r' v' loc', r' ≠ .l s → M.io r' v' = some loc' → loc'.b ≠ loc.b := fun r' v' loc' hr h1 e => hr (H.inj _ _ _ _ _ _ h1 hl e)
 have hrd : RdLe M.rd M'.rd := by
  intro x vs hx
  show (if x = loc.b then some c else M.rd x) = some vs
  by_cases hxb : x = loc.b
  ·subst hxb
   rw [if_pos rfl]
   cases hro : b.ro with
   | true => rw [B.ro hro] at hx; exact hx
   | false => rw [B.rw_ hro] at hx; cases hx
  ·rw [if_neg hxb]; exact hx
 have hcv : M.cv (.l s) = ver := H.cv _ _ hg
 have hio : ∀ r', r' ≠ .l s → M'.io r' = M.io r' := fun r' hr => by funext v; show (if r' = .l s then _ else _) = _; rw [if_neg hr]
 have hself : ∀ v, M'.io (.l s) v = none := fun v => by show (if (Ref.l s) = .l s then (if v = ver then none else none) else _) = _; rw [if_pos rfl]; split <;> rfl
 have le : M.le M' := ⟨hrd, fun r => by
   show _ ≤ (if r = .l s then ver else _); split
   ·rename_i hr; rw [hr, hcv]; exact Nat.le_refl _
   ·exact Nat.le_refl _, fun r v _ => by
   by_cases hr : r = .l s
   ·subst hr; exact .inr (hself v)
   ·left; rw [hio r hr]⟩
 have hrdb : M'.rd loc.b = some c := by show (if loc.b = loc.b then _ else _) = _; rw [if_pos rfl]
 refine ⟨H.upd hg (by intro i hi; cases hi) le (fun r' hr => by show (if r' = .l s then _ else _) = _; rw [if_neg hr]) hio (by show (if (Ref.l s) = .l s then _ else _) = _; rw [if_pos rfl])
  (fun v hv => absurd (hself v) hv) (fun hb => absurd rfl hb) (fun b loc hb => by cases hb) (fun v loc r' v' loc' hr h1 => by rw [hself] at h1; cases h1) ?_ ?_, ?_, hrdb⟩
 ·intro r' v' loc' hr h1
  refine ⟨rfl, ?_⟩
  show (if loc'.b = loc.b then some c else M.rd loc'.b) = _
  rw [if_neg (hne _ _ _ hr h1)]
 ·intro b1 vs h1
  have h1' : (if b1 = loc.b then some c else M.rd b1) = some vs := h1
  by_cases hb : b1 = loc.b
  ·subst hb; rw [if_pos rfl] at h1'; cases h1'; exact ⟨t, _, B.heap⟩
  ·rw [if_neg hb] at h1'; exact H.rd _ _ h1'
 ·refine ⟨⟨hrd, rfl, rfl, rfl, Nat.le_refl _, fun _ _ _ => rfl, fun k hk => ?_, fun k hk => ?_⟩, le⟩
  ·obtain ⟨r, v, loc', hl', rfl⟩ := hk
   by_cases hr : r = .l s
   ·subst hr; rw [hself] at hl'; cases hl'
   ·rw [hio _ hr] at hl'; exact .inl (own_of hl')
  ·have hk' : (if k = loc.b then some c else M.rd k) ≠ none := hk
   by_cases hb : k = loc.b
   ·subst hb; exact .inr (.inl (own_of hl))
   ·rw [if_neg hb] at hk'; exact .inl hk'

theorem mapM_freezeC {n : Nat} (ih : ∀ {M : Mp} {h h' : Heap} {v v' : PV} {c : Value}, (freezeC n v).run h = some (v', h') → HR fid M h w → VR fid M v c → ∃ M', Stp M w M' w ∧ HR fid M' h' w ∧ FR fid M'.rd v' c) :
  ∀ {es es' : List PV} {M : Mp} {h h' : Heap} {cs : Nat → Value}, (HM.mapM (freezeC n) es).run h = some (es', h') → HR fid M h w → (∀ i e, es[i]? = some e → VR fid M e (cs i)) →
   ∃ M', Stp M w M' w ∧ HR fid M' h' w ∧ es'.length = es.length ∧ ∀ (i : Nat) (e : PV), es'[i]? = some e → FR fid M'.rd e (cs i)
 | [], es', M, h, h', cs, hv, H, _ => by
  obtain ⟨rfl, rfl⟩ := HM.run_ret_some hv
  exact ⟨M, .refl _ _, H, rfl, fun i e hi => by simp at hi⟩
 | e :: es, es', M, h, h', cs, hv, H, hr => by
  obtain ⟨y, h1, hy, hv⟩ := HM.run_bind_some hv
  obtain ⟨ys, h2, hys, hv⟩ := HM.run_bind_some hv
  obtain ⟨rfl, rfl⟩ := HM.run_ret_some hv
  obtain ⟨M1, S1, H1, F1⟩ := ih hy H (hr 0 e rfl)
  obtain ⟨M2, S2, H2, L2, F2⟩ := mapM_freezeC ih (cs := fun i => cs (i + 1)) hys H1 (fun i e' hi => (hr (i + 1) e' hi).mono S1.le)
  refine ⟨M2, S1.trans S2, H2, by simp [L2], fun i e' hi => ?_⟩
  cases i with
  | zero => simp only [List.getElem?_cons_zero, Option.some.injEq] at hi; subst hi; exact F1.mono fid S2.rd
  | succ i => simp only [List.getElem?_cons_succ] at hi; exact F2 i e' hi
theorem freezeC_ok : ∀ (n : Nat) {M : Mp} {h h' : Heap} {v v' : PV} {c : Value}, (freezeC n v).run h = some (v', h') → HR fid M h w → VR fid M v c →
  ∃ M', Stp M w M' w ∧ HR fid M' h' w ∧ FR fid M'.rd v' c
 | 0, M, h, h', v, v', c, hv, H, hx => by simp [freezeC, HM.run] at hv
 | n + 1, M, h, h', v, v', c, hv, H, hx => by
  have many : ∀ (cs : List PV) (vs : Array Value) {cs' : List PV} {h1 : Heap}, (HM.mapM (freezeC n) cs).run h = some (cs', h1) → cs.length = vs.size →
    (∀ (i : Nat) (e : PV) (u : Value), cs[i]? = some e → vs[i]? = some u → VR fid M e u) →
    ∃ M', Stp M w M' w ∧ HR fid M' h1 w ∧ cs'.length = vs.size ∧ ∀ (i : Nat) (e : PV) (u : Value), cs'[i]? = some e → vs[i]? = some u → FR fid M'.rd e u := by
   intro cs vs cs' h1 hm hl hr
   obtain ⟨M1, S1, H1, L1, F1⟩ := mapM_freezeC (freezeC_ok n) (cs := fun i => vs.getD i undef) hm H (fun i e hi => by
    have hlt : i < vs.size := by
     rw [← hl]
     rcases Nat.lt_or_ge i cs.length with z | z
     ·exact z
     ·rw [List.getElem?_eq_none z] at hi; cases hi
    have := hr i e vs[i] hi (Array.getElem?_eq_getElem hlt)
    simpa [hlt] using this)
   refine ⟨M1, S1, H1, by omega, fun i e u hi hu => ?_⟩
   have := F1 i e hi
   simpa [hu] using this
  unfold freezeC at hv
  cases v with
  | tok r ver sz off len room c0 =>
   cases r with
   | a i => simp [HM.run] at hv
   | dead => simp [HM.run] at hv
   | l s =>
    simp only at hv
    obtain ⟨a, cap, rfl, hver, k2, k3, k4, k5⟩ := hx.tok_inv
    by_cases hl0 : len = 0
    ·rw [if_pos hl0] at hv
     obtain ⟨rfl, rfl⟩ := HM.run_ret_some hv
     subst hl0
     exact ⟨M, .refl _ _, H, .lst [] c0 a cap 0 (fun _ _ => undef) (by simp) k4 (by simp) (by simp) (by simp)⟩
    rw [if_neg hl0] at hv
    obtain ⟨es, h1, hes, hv⟩ := HM.run_bind_some hv
    obtain ⟨es', h2, hes', hv⟩ := HM.run_bind_some hv
    obtain ⟨b2, h3, hb2, hv⟩ := HM.run_bind_some hv
    obtain ⟨rfl, hg2⟩ := liveBlk_some hb2
    obtain ⟨e0, he0, hv⟩ := run_set_some hv
    obtain ⟨rfl, rfl⟩ := HM.run_ret_some hv
    -- what the slice holds
    simp only [elems, if_neg hl0] at hes
    obtain ⟨b, h4, hb, hes⟩ := HM.run_bind_some hes
    obtain ⟨rfl, hg⟩ := liveBlk_some hb
    split at hes
    case isFalse => simp [HM.run] at hes
    rename_i hc
    obtain ⟨rfl, rfl⟩ := HM.run_ret_some hes
    obtain ⟨loc, ca, ty, lo, hi, hl, B⟩ := H.live hg
    obtain ⟨e1, e2⟩ := k5 loc hl
    have hlen : ((b.es.drop off).take len).length = len := by simp; omega
    rcases e2 with e2 | ⟨rfl, e2⟩
    ·omega
    have hget : ∀ (i : Nat) (e : PV), ((b.es.drop off).take len)[i]? = some e → b.es[off + i]? = some e := by
     intro i e hi
     rw [List.getElem?_take] at hi
     split at hi
     ·rw [List.getElem?_drop] at hi; exact hi
     ·cases hi
    have hat : ∀ (i : Nat) (e : PV) (j : Nat) (x : PV), ((b.es.drop off).take len)[i]? = some e → e.cells[j]? = some x →
      x.isCell = true ∧ ca[loc.base + (off + i) * sz + j]? = some (ca.getD (loc.base + (off + i) * sz + j) undef) ∧ VR fid M x (ca.getD (loc.base + (off + i) * sz + j) undef) := by
     intro i e j x hi hj
     obtain ⟨q1, u, q2, q3⟩ := (B.cells _ _ (hget i e hi)).2 j x hj
     rw [hc.2] at q2
     exact ⟨q1, by simp [q2], by simpa [q2] using q3⟩
    obtain ⟨M1, S1, H1, L1, F1⟩ := mapM_freezeC (freezeC_ok n) (cs := fun i => eltV (((b.es.drop off).take len).getD i .junk) (fun j => ca.getD (loc.base + (off + i) * sz + j) undef)) hes' H (fun i e hi => by
     have hd : ((b.es.drop off).take len).getD i .junk = e := by simp [List.getD, hi]
     rw [hd]
     exact eltV_ok (fun j x hj => (hat i e j x hi hj).2.2))
    obtain ⟨loc2, ca2, ty2, lo2, hi2, hl2, B2⟩ := H1.live hg2
    have hloc : loc2 = loc := by
     rcases S1.le.io (.l s) ver hver with e3 | e3
     ·rw [e3, hl] at hl2; exact (Option.some.inj hl2).symm
     ·rw [e3] at hl2; cases hl2
    subst hloc
    have hca : ca2 = ca := by
     have := B2.heap
     rw [B.heap] at this
     simp only [Option.some.injEq, Obj.cells.injEq] at this
     exact this.1.symm
    subst hca
    obtain ⟨H2, S2, R2⟩ := H1.consume hg2 hl2 B2
    refine ⟨_, S1.trans S2, H2, ?_⟩
    have key : FR fid (M1.at (.l s) ver none (fun x => if x = loc2.b then some ca2 else M1.rd x)).rd (.lst es' c0) (.slice (some ⟨loc2.b, loc2.base + off * sz, none⟩) es'.length cap) := by
     refine .lst es' c0 _ cap sz (fun i j => ca2.getD (loc2.base + (off + i) * sz + j) undef) (by rw [L1, hlen]; omega) k4 ?_ ?_ ?_
     all_goals
      intro i e'
      try intro j x
      intro hi
      have hilt : i < ((b.es.drop off).take len).length := by
       rw [← L1]
       rcases Nat.lt_or_ge i es'.length with z | z
       ·exact z
       ·rw [List.getElem?_eq_none z] at hi; cases hi
      have he : ((b.es.drop off).take len)[i]? = some ((b.es.drop off).take len)[i] := List.getElem?_eq_getElem hilt
      have hF := F1 i e' hi
      have hd : ((b.es.drop off).take len).getD i .junk = ((b.es.drop off).take len)[i] := by simp [List.getD, he]
      rw [hd] at hF
      have hone : (∀ cs, ((b.es.drop off).take len)[i] ≠ .agg cs) → (ca2.getD (loc2.base + (off + i) * sz + 0) undef).oneCell' = true := by
       intro hna
       have hcl : ((b.es.drop off).take len)[i].cells = [((b.es.drop off).take len)[i]] := by
        cases hh : ((b.es.drop off).take len)[i] <;> first | rfl | exact absurd hh (hna _)
       have h00 := hat i _ 0 ((b.es.drop off).take len)[i] he (by rw [hcl]; rfl)
       exact h00.2.2.isCell_one h00.1
      have hsize := eltV_size (e := ((b.es.drop off).take len)[i]) (u := fun j => ca2.getD (loc2.base + (off + i) * sz + j) undef) hone
      have hlcells : ((b.es.drop off).take len)[i].cells.length = sz := by rw [(B.cells _ _ (hget i _ he)).1, hc.2]
     ·rw [hF.cells_size, hsize, hlcells]
     ·intro hj
      obtain ⟨u, h5, h6⟩ := hF.cells_at j x hj
      have hjlt : j < ((b.es.drop off).take len)[i].cells.length := by
       rw [← hsize, ← hF.cells_size]
       rcases Nat.lt_or_ge j e'.cells.length with z | z
       ·exact z
       ·rw [List.getElem?_eq_none z] at hj; cases hj
      rw [eltV_cells j hjlt hone] at h5
      simp only [Option.some.injEq] at h5
      obtain ⟨g1, g2, g3⟩ := hat i _ j _ he (List.getElem?_eq_getElem hjlt)
      refine ⟨h6.isCell (by rw [← h5]; exact g3.isCell_one g1), rfl, ca2, R2, ?_⟩
      rw [← g2]; show ca2[loc2.base + off * sz + (i * sz + j)]? = _
      congr 1; rw [Nat.add_mul]; omega
     ·intro hj
      obtain ⟨u, h5, h6⟩ := hF.cells_at j x hj
      have hjlt : j < ((b.es.drop off).take len)[i].cells.length := by
       rw [← hsize, ← hF.cells_size]
       rcases Nat.lt_or_ge j e'.cells.length with z | z
       ·exact z
       ·rw [List.getElem?_eq_none z] at hj; cases hj
      rw [eltV_cells j hjlt hone] at h5
      simp only [Option.some.injEq] at h5
      rw [h5]
      exact h6.mono fid S2.rd
    rw [L1, hlen] at key
    exact key
  | ptr r ver i o =>
   cases r with
   | a i => simp [HM.run] at hv
   | dead => simp [HM.run] at hv
   | l s =>
    simp only at hv
    obtain ⟨a, rfl, hver, k5⟩ := hx.ptr_inv
    obtain ⟨b, h1, hb, hv⟩ := HM.run_bind_some hv
    obtain ⟨rfl, hg⟩ := liveBlk_some hb
    split at hv
    case h_2 => simp [HM.run] at hv
    rename_i e he
    obtain ⟨cs', h2, hcs', hv⟩ := HM.run_bind_some hv
    obtain ⟨b2, h3, hb2, hv⟩ := HM.run_bind_some hv
    obtain ⟨rfl, hg2⟩ := liveBlk_some hb2
    obtain ⟨e0, he0, hv⟩ := run_set_some hv
    obtain ⟨rfl, rfl⟩ := HM.run_ret_some hv
    obtain ⟨loc, ca, ty, lo, hi, hl, B⟩ := H.live hg
    have ha := k5 loc hl
    subst ha
    obtain ⟨q0, q1⟩ := B.cells i e he
    obtain ⟨M1, S1, H1, L1, F1⟩ := mapM_freezeC (freezeC_ok n) (cs := fun j => ca.getD (loc.base + i * b.sz + j) undef) hcs' H (fun j x hj => by
     obtain ⟨_, u, q2, q3⟩ := q1 j x hj
     simpa [q2] using q3)
    obtain ⟨loc2, ca2, ty2, lo2, hi2, hl2, B2⟩ := H1.live hg2
    have hloc : loc2 = loc := by
     rcases S1.le.io (.l s) ver hver with e3 | e3
     ·rw [e3, hl] at hl2; exact (Option.some.inj hl2).symm
     ·rw [e3] at hl2; cases hl2
    subst hloc
    have hca : ca2 = ca := by
     have := B2.heap
     rw [B.heap] at this
     simp only [Option.some.injEq, Obj.cells.injEq] at this
     exact this.1.symm
    subst hca
    obtain ⟨H2, S2, R2⟩ := H1.consume hg2 hl2 B2
    refine ⟨_, S1.trans S2, H2, .lptr _ _ (fun j => ca2.getD (loc2.base + i * b.sz + (o + j)) undef) ?_ ?_ rfl⟩
    ·intro j c hj
     rw [List.getElem?_drop] at hj
     have hjlt : o + j < e.cells.length := by
      rw [← L1]
      rcases Nat.lt_or_ge (o + j) cs'.length with z | z
      ·exact z
      ·rw [List.getElem?_eq_none z] at hj; cases hj
     obtain ⟨g1, u, g2, g3⟩ := q1 (o + j) _ (List.getElem?_eq_getElem hjlt)
     have hF := F1 _ _ hj
     have hu : ca2.getD (loc2.base + i * b.sz + (o + j)) undef = u := by simp [g2]
     rw [hu] at hF
     refine ⟨hF.isCell (g3.isCell_one g1), rfl, ca2, R2, ?_⟩
     show ca2[loc2.base + i * loc2.sz + o + j]? = _
     rw [B.sz, Nat.add_assoc, g2]; simp [g2]
    ·intro j c hj
     rw [List.getElem?_drop] at hj
     exact (F1 _ _ hj).mono fid S2.rd
  | agg cs =>
   simp only at hv
   obtain ⟨cs', h1, hm, hv⟩ := HM.run_bind_some hv
   obtain ⟨rfl, rfl⟩ := HM.run_ret_some hv
   obtain ⟨vs, rfl, q1, q2⟩ := hx.agg_inv
   obtain ⟨M1, S1, H1, L1, F1⟩ := many cs vs hm q1 q2
   exact ⟨M1, S1, H1, .agg _ _ L1 F1⟩
  | tup cs =>
   simp only at hv
   obtain ⟨cs', h1, hm, hv⟩ := HM.run_bind_some hv
   obtain ⟨rfl, rfl⟩ := HM.run_ret_some hv
   obtain ⟨vs, rfl, q1, q2⟩ := hx.tup_inv
   obtain ⟨M1, S1, H1, L1, F1⟩ := many cs vs hm q1 q2
   exact ⟨M1, S1, H1, .tup _ _ L1 F1⟩
  | fn f cs =>
   simp only at hv
   by_cases he : cs.isEmpty = true
   ·rw [if_pos he] at hv
    obtain ⟨rfl, rfl⟩ := HM.run_ret_some hv
    have : cs = [] := by simpa using he
    subst this
    obtain ⟨vs, rfl, q1, _⟩ := hx.fn_inv
    have : vs = #[] := by simpa using q1.symm
    subst this
    exact ⟨M, .refl _ _, H, .fn f⟩
   ·rw [if_neg he] at hv; simp [HM.run] at hv
  | junk => simp [HM.run] at hv
  | int k m => obtain ⟨rfl, rfl⟩ := HM.run_ret_some hv; cases hx with | fr hx => exact ⟨M, .refl _ _, H, hx⟩
  | bool k => obtain ⟨rfl, rfl⟩ := HM.run_ret_some hv; cases hx with | fr hx => exact ⟨M, .refl _ _, H, hx⟩
  | str k => obtain ⟨rfl, rfl⟩ := HM.run_ret_some hv; cases hx with | fr hx => exact ⟨M, .refl _ _, H, hx⟩
  | nils => obtain ⟨rfl, rfl⟩ := HM.run_ret_some hv; cases hx with | fr hx => exact ⟨M, .refl _ _, H, hx⟩
  | lst es c0 => obtain ⟨rfl, rfl⟩ := HM.run_ret_some hv; cases hx with | fr hx => exact ⟨M, .refl _ _, H, hx⟩
  | nilp => obtain ⟨rfl, rfl⟩ := HM.run_ret_some hv; cases hx with | fr hx => exact ⟨M, .refl _ _, H, hx⟩
  | lptr cs => obtain ⟨rfl, rfl⟩ := HM.run_ret_some hv; cases hx with | fr hx => exact ⟨M, .refl _ _, H, hx⟩
  | nilfn => obtain ⟨rfl, rfl⟩ := HM.run_ret_some hv; cases hx with | fr hx => exact ⟨M, .refl _ _, H, hx⟩
end
end Gv
