/- A part of the proof that the law is true of all its inputs, by an interpreter that is proved sound. -/
import GoSem.Core.Code
import GoSem.Dispatch
import Derived.Below
import Derived.LoopN
import Derived.Orders
import Derived.Laws.AppendOwn
import Derived.Laws.CopyOwn
import Derived.WalkKit
import Derived.Laws.Strings
import Derived.Laws.Tables
import Derived.Laws.StructEq
namespace Gv
theorem No:type_of% @Option.some.injEq.{0}:=@Option.some.injEq
theorem Np:type_of% @Bool.and_eq_true:=@Bool.and_eq_true
theorem Nq:type_of% @beq_self_eq_true.{0}:=@beq_self_eq_true
theorem Nr:type_of% @List.mem_append_right.{0}:=@List.mem_append_right
theorem Ns:type_of% @List.getElem?_eq_getElem.{0}:=@List.getElem?_eq_getElem
theorem Nt:type_of% @if_pos.{1}:=@if_pos
theorem Nu:type_of% @List.mem_append_left.{0}:=@List.mem_append_left
theorem Nv:type_of% @List.mem_cons_of_mem.{0}:=@List.mem_cons_of_mem
theorem Nw:type_of% @if_neg.{1}:=@if_neg
theorem Ny:type_of% @Nat.le_refl:=@Nat.le_refl
theorem Nz:type_of% @List.getElem?_cons_zero.{0}:=@List.getElem?_cons_zero
theorem NA:type_of% @List.getElem?_eq_none.{0}:=@List.getElem?_eq_none
theorem NB:type_of% @List.nil_append.{0}:=@List.nil_append
theorem NC:type_of% @List.mem_cons_self.{0}:=@List.mem_cons_self
theorem ND:type_of% @List.mem_of_getElem?.{0}:=@List.mem_of_getElem?
theorem NE:type_of% @List.getElem?_map.{0,0}:=@List.getElem?_map
theorem NG:type_of% @Prod.mk.injEq.{0,0}:=@Prod.mk.injEq
theorem NH:type_of% @List.getElem?_append_right.{0}:=@List.getElem?_append_right
theorem NI:type_of% @Nat.lt_or_ge:=@Nat.lt_or_ge
theorem NJ:type_of% @List.mem_singleton.{0}:=@List.mem_singleton
theorem NK:type_of% @Array.getElem?_eq_getElem.{0}:=@Array.getElem?_eq_getElem
theorem NL:type_of% @Bool.false_eq_true:=@Bool.false_eq_true
theorem NM:type_of% @Option.map_some.{0,0}:=@Option.map_some
theorem NN:type_of% @List.getElem?_append_left.{0}:=@List.getElem?_append_left
theorem NP:type_of% @List.length_take.{0}:=@List.length_take
theorem NQ:type_of% @Option.getD_some.{0}:=@Option.getD_some
theorem NR:type_of% @List.length_append.{0}:=@List.length_append
theorem NS:type_of% @Nat.mul_le_mul_right:=@Nat.mul_le_mul_right
theorem NT:type_of% @List.append_nil.{0}:=@List.append_nil
theorem NU:type_of% @decide_eq_true_eq:=@decide_eq_true_eq
theorem NV:type_of% @Bool.not_eq_true':=@Bool.not_eq_true'
theorem NW:type_of% @List.length_cons.{0}:=@List.length_cons
theorem NX:type_of% @beq_iff_eq.{0}:=@beq_iff_eq
theorem NY:type_of% @Option.map_eq_some_iff.{0,0}:=@Option.map_eq_some_iff
theorem NZ:type_of% @Bool.and_self:=@Bool.and_self
theorem N3:type_of% @decide_eq_false:=@decide_eq_false
theorem N4:type_of% @decide_eq_false_iff_not:=@decide_eq_false_iff_not
theorem N5:type_of% @List.map_cons.{0,0}:=@List.map_cons
theorem N6:type_of% @Nat.add_mul:=@Nat.add_mul
theorem N7:type_of% @List.getElem?_take.{0}:=@List.getElem?_take
theorem N8:type_of% @List.getElem?_drop.{0}:=@List.getElem?_drop
theorem N9:type_of% @List.length_nil.{0}:=@List.length_nil
theorem Oa:type_of% @if_true.{1}:=@if_true
theorem Ob:type_of% @List.length_map.{0,0}:=@List.length_map
theorem Oc:type_of% @if_false.{1}:=@if_false
theorem Od:type_of% @List.contains_eq_mem.{0}:=@List.contains_eq_mem
theorem Oe:type_of% @Nat.zero_add:=@Nat.zero_add
theorem Of:type_of% @List.mem_map_of_mem.{0,0}:=@List.mem_map_of_mem
theorem Og:type_of% @List.all_eq_true.{0}:=@List.all_eq_true
theorem Oh:type_of% @decide_eq_true:=@decide_eq_true
theorem Oi:type_of% @Bool.and_true:=@Bool.and_true
theorem Oj:type_of% @List.length_drop.{0}:=@List.length_drop
theorem Ok:type_of% @List.getElem?_set_self.{0}:=@List.getElem?_set_self
theorem Ol:type_of% @List.append_assoc.{0}:=@List.append_assoc
theorem Om:type_of% @Bool.true_and:=@Bool.true_and
theorem On:type_of% @List.eq_nil_of_length_eq_zero.{0}:=@List.eq_nil_of_length_eq_zero
theorem Oo:type_of% @List.getElem?_cons_succ.{0}:=@List.getElem?_cons_succ
theorem Oq:type_of% @Array.getElem?_setIfInBounds_ne.{0}:=@Array.getElem?_setIfInBounds_ne
theorem Ot:type_of% @Array.getElem?_setIfInBounds_self_of_lt.{0}:=@Array.getElem?_setIfInBounds_self_of_lt
theorem Ou:type_of% @List.getElem?_range:=@List.getElem?_range
theorem Ov:type_of% @List.isEmpty_iff.{0}:=@List.isEmpty_iff
theorem Ow:type_of% @Bool.false_and:=@Bool.false_and
theorem Ox:type_of% @List.getElem?_set_ne.{0}:=@List.getElem?_set_ne
theorem Oy:type_of% @Array.getD_eq_getD_getElem?.{0}:=@Array.getD_eq_getD_getElem?
theorem Oz:type_of% @List.replicate_succ.{0}:=@List.replicate_succ
theorem OA:type_of% @List.getElem?_replicate.{0}:=@List.getElem?_replicate
theorem OB:type_of% @not_true_eq_false:=@not_true_eq_false
theorem OC:type_of% @Array.toArray_toList.{0}:=@Array.toArray_toList
theorem OD:type_of% @List.mem_of_mem_drop.{0}:=@List.mem_of_mem_drop
theorem OE:type_of% @List.mem_of_mem_take.{0}:=@List.mem_of_mem_take
theorem OF:type_of% @Nat.zero_le:=@Nat.zero_le
theorem OG:type_of% @List.take_of_length_le.{0}:=@List.take_of_length_le
theorem OH:type_of% @Bool.or_eq_true:=@Bool.or_eq_true
theorem OI:type_of% @Nat.add_zero:=@Nat.add_zero
theorem OJ:type_of% @of_decide_eq_true:=@of_decide_eq_true
theorem OK:type_of% @Int.eq_ofNat_of_zero_le:=@Int.eq_ofNat_of_zero_le
theorem OL:type_of% @Array.getElem?_append_left.{0}:=@Array.getElem?_append_left
theorem OM:type_of% @List.cons_append.{0}:=@List.cons_append
theorem ON:type_of% @List.flatMap_cons.{0,0}:=@List.flatMap_cons
theorem OO:type_of% @List.map_append.{0,0}:=@List.map_append
theorem OP:type_of% @Option.isSome_some.{0}:=@Option.isSome_some
theorem OQ:type_of% @List.mem_cons.{0}:=@List.mem_cons
theorem OR:type_of% @List.sum_cons.{0}:=@List.sum_cons
theorem OS:type_of% @Array.getElem?_eq_none.{0}:=@Array.getElem?_eq_none
theorem OT:type_of% @List.mem_append.{0}:=@List.mem_append
theorem OU:type_of% @Array.getElem?_toList.{0}:=@Array.getElem?_toList
theorem OV:type_of% @Classical.choose_spec.{1}:=@Classical.choose_spec
theorem OW:type_of% @Nat.le_trans:=@Nat.le_trans
theorem OX:type_of% @List.take_length.{0}:=@List.take_length
theorem OY:type_of% @not_false_eq_true:=@not_false_eq_true
theorem OZ:type_of% @Array.length_toList.{0}:=@Array.length_toList
theorem O0:type_of% @Bool.false_or:=@Bool.false_or
theorem O1:type_of% @List.getD_eq_getElem?_getD.{0}:=@List.getD_eq_getElem?_getD
theorem O2:type_of% @List.getElem?_toArray.{0}:=@List.getElem?_toArray
theorem O3:type_of% @Option.isSome_none.{0}:=@Option.isSome_none
theorem O4:type_of% @List.length_filter_le.{0}:=@List.length_filter_le
theorem O5:type_of% @List.pairwise_iff_getElem.{0}:=@List.pairwise_iff_getElem
theorem O6:type_of% @List.mem_or_eq_of_mem_set.{0}:=@List.mem_or_eq_of_mem_set
theorem O7:type_of% @Option.some.inj.{0}:=@Option.some.inj
theorem O8:type_of% @or_self:=@or_self
theorem O9:type_of% @beq_eq_false_iff_ne.{0}:=@beq_eq_false_iff_ne
theorem Pa:type_of% @List.take_succ_cons.{0}:=@List.take_succ_cons
theorem Pc:type_of% @Array.getElem?_map.{0,0}:=@Array.getElem?_map
theorem Pd:type_of% @List.map_nil.{0,0}:=@List.map_nil
theorem Pe:type_of% @List.cons.injEq.{0}:=@List.cons.injEq
theorem Pf:type_of% @List.take_append_drop.{0}:=@List.take_append_drop
theorem Pg:type_of% @Bool.and_eq_false_iff:=@Bool.and_eq_false_iff
theorem Ph:type_of% @List.length_replicate.{0}:=@List.length_replicate
theorem Pi:type_of% @List.nodup_cons.{0}:=@List.nodup_cons
theorem Pj:type_of% @and_true:=@and_true
theorem Pk:type_of% @Bool.not_true:=@Bool.not_true
theorem Pl:type_of% @Int.toNat_natCast:=@Int.toNat_natCast
theorem Po:type_of% @decide_true:=@decide_true
theorem Pp:type_of% @false_and:=@false_and
theorem Pq:type_of% @and_false:=@and_false
theorem Ps:type_of% @List.drop_drop.{0}:=@List.drop_drop
theorem Pt:type_of% @List.drop_zero.{0}:=@List.drop_zero
theorem Pu:type_of% @Nat.add_assoc:=@Nat.add_assoc
theorem Pv:type_of% @Nat.one_mul:=@Nat.one_mul
open Go (IntKind BinOp UnOp)
inductive ao where
 |a (i:Nat)
 |l (s:Nat)
 |dead
 deriving DecidableEq,Inhabited
inductive PV where
 |int (k:IntKind) (n:Int)
 |bool (b:Bool)
 |str (s:List UInt8)
 |nils
 |lst (es:List PV) (c0:Bool)
 |tok (r:ao) (ver sz off len room:Nat) (c0:Bool)
 |ptr (r:ao) (ver i o:Nat)
 |nilp
 |lptr (cs:List PV)
 |agg (cs:List PV)
 |tup (vs:List PV)
 |fn (f:Nat) (caps:List PV)
 |nilfn
 |junk
 deriving Inhabited
structure Blk where
 sz:Nat
 es:List PV
 ro:Bool:=false
structure eN where
 ver:Nat
 blk:Option Blk
structure Heap where
 A:List (Option Blk)
 L:List eN
def Heap.get(h:Heap):ao->Option eN
 |.a i=>match h.A[i]? with|some b=>some ⟨0,b⟩|none=>none
 |.l s=>h.L[s]?
 |.dead=>none
def Heap.put(h:Heap):ao->eN->Heap
 |.a i,e=>⟨h.A.set i e.blk,h.L⟩
 |.l s,e=>⟨h.A,h.L.set s e⟩
 |.dead,_=>h
inductive HM (α:Type) where
 |ret (a:α)
 |fail
 |get (r:ao) (k:eN->HM α)
 |set (r:ao) (e:eN) (k:HM α)
namespace HM
def bind{α β:Type}:HM α->(α->HM β)->HM β
 |.ret a,f=>f a
 |.fail,_=>.fail
 |.get r k,f=>.get r λe=>(k e).bind f
 |.set r e k,f=>.set r e (k.bind f)
def run{α:Type}:HM α->Heap->Option (α×Heap)
 |.ret a,h=>some (a,h)
 |.fail,_=>none
 |.get r k,h=>match h.get r with|some e=>(k e).run h|none=>none
 |.set r e k,h=>match h.get r with|some _=>k.run (h.put r e)|none=>none
def runT{α:Type}:HM α->Heap->Option (α×Heap×List ao×List ao)
 |.ret a,h=>some (a,h,[],[])
 |.fail,_=>none
 |.get r k,h=>match h.get r with
  |some e=>match(k e).runT h with|some (a,h',R,W)=>some (a,h',r::R,W)|none=>none
  |none=>none
 |.set r e k,h=>match h.get r with
  |some _=>match k.runT (h.put r e)with|some (a,h',R,W)=>some (a,h',R,r::W)|none=>none
  |none=>none
def mapM{α β:Type}(f:α->HM β):List α->HM (List β)
 |[]=>.ret []
 |x::xs=>(f x).bind λy=>(mapM f xs).bind λys=>.ret (y::ys)
def ofO{α:Type}:Option α->HM α
 |some a=>.ret a
 |none=>.fail
def guard(b:Bool):HM Unit:=if b then .ret ()else .fail
end HM
def PV.isCell:PV->Bool
 |.agg _=>false
 |.tup _=>false
 |.junk=>false
 |_=>true
def ai:List PV->Bool
 |[]=>true
 |v::vs=>v.isCell&&ai vs
def PV.cells:PV->List PV
 |.agg cs=>cs
 |v=>[v]
def PV.withCells(old:PV)(cs:List PV):PV:=
 match old with
 |.agg _=>.agg cs
 |_=>cs.headD .junk
def db(cs:List PV)(o:Nat):Option Nat->Option PV
 |none=>cs[o]?
 |some n=>if o+n<=cs.length then some (.agg ((cs.drop o).take n))else none
def PV.fits(v:PV):Option Nat->Bool
 |none=>match v with|.agg _=>false|.tup _=>false|.junk=>false|_=>true
 |some n=>match v with|.agg cs=>cs.length==n|_=>false
def bN(r:ao)(ver:Nat):HM Blk:=
 .get r λe=>if e.ver=ver then HM.ofO e.blk else .fail
def ek(s:Nat)(b:Blk):HM Nat:=
 .get (.l s) λe=>.set (.l s) ⟨e.ver+1,some b⟩ (.ret (e.ver+1))
def elems:PV->HM (List PV)
 |.nils=>.ret []
 |.lst es _=>.ret es
 |.str s=>.ret (s.map λb=>.int .u8 b.toNat)
 |.tok r ver sz off len _ _=>
  if len=0 then .ret []else
  (bN r ver).bind λb=>if off+len<=b.es.length/\b.sz=sz then .ret ((b.es.drop off).take len)else .fail
 |_=>.fail
mutual
def jN:PV->List (ao×Nat)
 |.tok r v _ _ _ _ _=>[(r,v)]
 |.ptr r v _ _=>[(r,v)]
 |.agg cs=>aZ cs
 |.tup cs=>aZ cs
 |.fn _ cs=>aZ cs
 |_=>[]
def aZ:List PV->List (ao×Nat)
 |[]=>[]
 |x::xs=>jN x++aZ xs
end
mutual
def ren(f:ao->Nat->Option (ao×Nat)):PV->PV
 |.tok r v sz off len room c0=>match f r v with|some (r',v')=>.tok r' v' sz off len room c0|none=>.tok .dead 0 sz off len room c0
 |.ptr r v i o=>match f r v with|some (r',v')=>.ptr r' v' i o|none=>.ptr .dead 0 i o
 |.agg cs=>.agg (bZ f cs)
 |.tup cs=>.tup (bZ f cs)
 |.fn g cs=>.fn g (bZ f cs)
 |v=>v
def bZ(f:ao->Nat->Option (ao×Nat)):List PV->List PV
 |[]=>[]
 |x::xs=>ren f x::bZ f xs
end
def Blk.ren(f:ao->Nat->Option (ao×Nat))(b:Blk):Blk:=⟨b.sz,bZ f b.es,b.ro⟩
def bc:Nat->PV->HM PV
 |0,_=>.fail
 | n+1,v=>match v with
  |.tok r ver sz off len _ c0=>match r with
   |.a _=>.fail
   |.dead=>.fail
   | .l s=>if len=0 then .ret (.lst [] c0)else
     (elems (.tok (.l s) ver sz off len 0 c0)).bind λes=>(HM.mapM (bc n) es).bind λes'=>
     (bN (.l s) ver).bind λ_=>.set (.l s) ⟨ver,none⟩ (.ret (.lst es' c0))
  | .ptr r ver i o=>match r with
   |.a _=>.fail
   |.dead=>.fail
   |.l s=>(bN (.l s) ver).bind λb=>match b.es[i]? with
    |some e=>(HM.mapM (bc n) e.cells).bind λcs=>(bN (.l s) ver).bind λ_=>.set (.l s) ⟨ver,none⟩ (.ret (.lptr (cs.drop o)))
    |none=>.fail
  |.agg cs=>(HM.mapM (bc n) cs).bind λcs=>.ret (.agg cs)
  |.tup cs=>(HM.mapM (bc n) cs).bind λcs=>.ret (.tup cs)
  |.fn g cs=>if cs.isEmpty then .ret (.fn g [])else .fail
  |.junk=>.fail
  |v=>.ret v
mutual
def e8:PV->Bool
 |.tok _ _ _ _ _ _ _=>false
 |.ptr _ _ _ _=>false
 |.junk=>false
 |.agg cs=>cY cs
 |.tup cs=>cY cs
 |.fn _ cs=>cs.isEmpty
 |_=>true
def cY:List PV->Bool
 |[]=>true
 |x::xs=>e8 x&&cY xs
end
def pq(f:PV->HM (PV×List (ao×Nat×Blk))):List PV->HM (List PV×List (ao×Nat×Blk))
 |[]=>.ret ([],[])
 |x::xs=>(f x).bind λy=>(pq f xs).bind λys=>.ret (y.1::ys.1,y.2++ys.2)
def bM:Nat->PV->HM (PV×List (ao×Nat×Blk))
 |0,_=>.fail
 | n+1,v=>match v with
  | .tok r ver sz off len _ c0=>if len=0 then .ret (.lst [] c0,[])else
   (bN r ver).bind λb=>if off+len<=b.es.length/\b.sz=sz then
    (pq (bM n) ((b.es.drop off).take len)).bind λes=>if cY es.1 then .ret (.lst es.1 c0,(r,ver,b)::es.2)else .fail
   else .fail
  |.agg cs=>(pq (bM n) cs).bind λcs=>.ret (.agg cs.1,cs.2)
  |v=>.ret (v,[])
def fQ:Nat->List (ao×Nat)->List (ao×Nat×Blk)->HM (List (ao×Nat×Blk))
 |0,_,_=>.fail
 |_+1,[],acc=>.ret acc
 | n+1,(r,v)::rest,acc=>
  if acc.any (λx=>x.1==r&&x.2.1==v)then fQ n rest acc else
  if r=.dead then fQ n rest acc else
  .get r λe=>match e.blk with
   |some b=>if e.ver=v then fQ n (rest++aZ b.es) (acc++[(r,v,b)])else fQ n rest acc
   |none=>fQ n rest acc
def fB(r:ao)(v:Nat):List (ao×Nat×Blk)->Nat->Option Nat
 |[],_=>none
 |(r',v',_)::rest,k=>if r'=r/\v'=v then some k else fB r v rest (k+1)
def kF:List PV->Nat->PV
 |[],_=>.junk
 |x::_,0=>x
 |_::xs,n+1=>kF xs n
def upd:List PV->Nat->PV->List PV
 |[],_,_=>[]
 |_::xs,0,v=>v::xs
 |x::xs,n+1,v=>x::upd xs n v
inductive PO where
 |t (n:Nat)
 |c (v:PV)
def PO.ev(fr:List PV):PO->PV
 |.t n=>kF fr n
 |.c v=>v
inductive IOp where
 |mov (x:PO)
 |pick (c a b:PO)
 |box (sz:Option Nat) (x:PO) (s:Nat)
 |boxA (n:Nat) (z:PV) (s:Nat)
 |build (zero:List PV) (parts:List (Nat×Option Nat×PO))
 |buildSlice (sz:Option Nat) (parts:List PO) (s:Nat)
 |load (sz:Option Nat) (x:PO)
 |store (sz:Option Nat) (x y:PO)
 |nilchk (x:PO)
 |bin (op:BinOp) (x y:PO)
 |eqs (neg:Bool) (ks:List Bool) (x y:PO)
 |eqb (neg:Bool) (x y:PO)
 |eqn (k:Nat) (neg:Bool) (x y:PO)
 |un (op:UnOp) (x:PO)
 |toInt (k:IntKind) (x:PO)
 |b2s (x:PO)
 |s2b (x:PO) (s:Nat)
 |slice (sz:Nat) (x:PO) (lo hi mx:Option PO)
 |fieldAddr (x:PO) (off:Nat)
 |field (sz:Option Nat) (x:PO) (off:Nat)
 |indexAddr (sz:Nat) (x i:PO)
 |idxArr (n sz:Nat) (x i:PO)
 |idxArrB (n sz:Nat) (x i:PO)
 |storeA (m:Nat) (x y:PO)
 |sliceArr (n sz:Nat) (x:PO) (lo hi:Option PO)
 |extract (x:PO) (i:Nat)
 |mkfn (f:Nat) (caps:List PO)
 |mkslice (sz:Nat) (z:PV) (n:PO) (s:Nat)
 |call (f:Nat) (args:List PO) (s:Nat)
 |callv (f:PO) (args:List PO) (s:Nat)
 |append (sz:Nat) (x y:PO) (s:Nat)
 |copy (sz:Nat) (x y:PO)
 |clear(z:PV) (x:PO)
 |len (x:PO)
 |lenS (x:PO)
 |mm (isMax:Bool) (xs:List PO)
 |same (x:PO)
 |sidx (x i:PO)
 |callD (f:Nat) (args:List PO) (s cap:Nat)
 |bad
structure IOper where
 dst:Option Nat
 op:IOp
 guard:Option (Nat×Bool)
 bef:List Nat
inductive Adj where
 |cell (t j:Nat) (h:Option Nat)
 |tmp (t:Nat) (h:Option Nat)
inductive eL where
 |skip
 |reg (ops:List IOper) (draw:Bool)
 |seq (a b:eL)
 |cond (c:PO) (x y:eL)
 |block (id:Nat) (c:eL)
 |loop (c:eL)
 |exit (id:Nat)
 |ret
 |adj (js:List Adj) (c:eL)
 |post (c:eL) (js:List Adj)
inductive um where
 |tmp (t:Nat)
 |cell (sz:Option Nat) (t:Nat)
structure ak where
 ntmps:Nat
 nslots:Nat
 frz:Bool
 ro:List Bool
 res:List um
 body:eL
 intr:Option (List PV->List Blk->Option (PV×List (Option Blk)))
def a9(op:BinOp)(k:IntKind)(a:Int)(k':IntKind)(b:Int):Option PV:=
 match op with
 |.shl=>if b<0 then none else some (.int k (k.wrap (a*2^(min b.toNat k.bits))))
 |.shr=>if b<0 then none else some (.int k (a.fdiv (2^(min b.toNat k.bits))))
 |op=>if k≠k' then none else match op with
  |.add=>some (.int k (k.wrap (a+b)))
  |.sub=>some (.int k (k.wrap (a-b)))
  |.mul=>some (.int k (k.wrap (a*b)))
  |.quo=>if b=0 then none else some (.int k (k.wrap (a.tdiv b)))
  |.rem=>if b=0 then none else some (.int k (a.tmod b))
  |.and=>some (.int k (k.wrap (BitVec.ofInt k.bits a&&&BitVec.ofInt k.bits b).toNat))
  |.or=>some (.int k (k.wrap (BitVec.ofInt k.bits a|||BitVec.ofInt k.bits b).toNat))
  |.xor=>some (.int k (k.wrap (BitVec.ofInt k.bits a^^^BitVec.ofInt k.bits b).toNat))
  |.andNot=>some (.int k (k.wrap (BitVec.ofInt k.bits a&&& ~~~BitVec.ofInt k.bits b).toNat))
  |.eql=>some (.bool (a==b))
  |.neq=>some (.bool (a !=b))
  |.lss=>some (.bool (a<b))
  |.leq=>some (.bool (a<=b))
  |.gtr=>some (.bool (a>b))
  |.geq=>some (.bool (a>=b))
  |_=>none
def bin(op:BinOp)(x y:PV):Option PV:=
 match x,y with
 |.int k a,.int k' b=>a9 op k a k' b
 |.str a,.str b=>match op with
  |.eql=>some (.bool (a==b))
  |.neq=>some (.bool (!(a==b)))
  |.add=>if a.length+b.length<2147483648 then some (.str (a++b))else none
  |_=>none
 |_,_=>none
def eqb(neg:Bool):PV->PV->Option PV
 |.bool a,.bool b=>some (.bool (if neg then !(a==b)else(a==b)))
 |_,_=>none
def Gr:PV->Option Bool
 |.nils=>some true
 |.lst _ _=>some false
 |.tok _ _ _ _ _ _ _=>some false
 |_=>none
def AF:PV->Option Bool
 |.nilp=>some true
 |.lptr _=>some false
 |.ptr _ _ _ _=>some false
 |_=>none
def Aq:PV->Option Bool
 |.nilfn=>some true
 |.fn _ _=>some false
 |_=>none
def eqn(k:Nat)(neg:Bool)(x y:PV):Option PV:=
 match k with
 |0=>match x,y with
  |.nils,y=>(Gr y).map λb=>.bool (if neg then !b else b)
  |x,.nils=>(Gr x).map λb=>.bool (if neg then !b else b)
  |_,_=>none
 |1=>match x,y with
  |.nilp,y=>(AF y).map λb=>.bool (if neg then !b else b)
  |x,.nilp=>(AF x).map λb=>.bool (if neg then !b else b)
  |_,_=>none
 |_=>match x,y with
  |.nilfn,y=>(Aq y).map λb=>.bool (if neg then !b else b)
  |x,.nilfn=>(Aq x).map λb=>.bool (if neg then !b else b)
  |_,_=>none
def aH:List Bool->List PV->List PV->Option Bool
 |[],[],[]=>some true
 |false::ks,.int k a::xs,.int k' b::ys=>if k≠k' then none else match aH ks xs ys with|some r=>some (a==b&&r)|none=>none
 |true::ks,.bool a::xs,.bool b::ys=>match aH ks xs ys with|some r=>some (a==b&&r)|none=>none
 |_,_,_=>none
def un(op:UnOp)(x:PV):Option PV:=
 match op,x with
 |.neg,.int k n=>some (.int k (k.wrap (0-n)))
 |.xor,.int k n=>a9 .xor k (if k.signed then-1 else k.max) k n
 |.not,.bool b=>some (.bool !b)
 |_,_=>none
def nM:PV->Option Nat
 |.int _ n=>if 0<=n then some n.toNat else none
 |_=>none
def aG(d:Nat):Option PV->Option Nat
 |none=>some d
 |some v=>nM v
def kz:List PV->Nat->Bool
 |[],_=>true
 |e::_,sz=>e.cells.length==sz
def jW(lo hi mx:Option PV):Option PV:=
 match aG 0 lo,aG 0 hi,aG 0 mx with
 |some l,some h,some m=>if l=0/\h=0/\m=0 then some .nils else none
 |_,_,_=>none
def qf(s:List UInt8)(lo hi:Option PV):Option PV:=
 match aG 0 lo,aG s.length hi with
 |some l,some h=>if l<=h/\h<=s.length then some (.str ((s.drop l).take (h-l)))else none
 |_,_=>none
def cA(sz:Nat)(es:List PV)(c0:Bool)(lo hi mx:Option PV):Option PV:=
 match aG 0 lo,aG es.length hi,aG es.length mx with
 |some l,some h,some m=>if l<=h/\h<=m/\m<=es.length/\kz es sz then some (.lst ((es.drop l).take (h-l)) (if mx.isSome then m==l else c0))else none
 |_,_,_=>none
def uN(r:ao)(v z off len room:Nat)(c0:Bool)(lo hi mx:Option PV):Option PV:=
 match aG 0 lo,aG len hi,aG room mx with
 |some l,some h,some m=>if l<=h/\h<=m/\m<=room then some (.tok r v z (off+l) (h-l) (m-l) (if mx.isSome then m==l else c0))else none
 |_,_,_=>none
def fV(sz:Nat)(x:PV)(lo hi mx:Option PV):Option PV:=
 if mx.isSome&&hi.isNone then none else
 match x with
 |.nils=>jW lo hi mx
 |.str s=>if mx.isSome then none else qf s lo hi
 |.lst es c0=>cA sz es c0 lo hi mx
 |.tok r v z off len room c0=>if z=sz then uN r v z off len room c0 lo hi mx else none
 |_=>none
def PV.isStr:PV->Bool
 |.str _=>true
 |_=>false
def cJ(sz:Nat)(x:PV)(lo hi mx:Option PV):Option PV:=if x.isStr=(sz==0)then fV sz x lo hi mx else none
def ba(x:PV)(off:Nat):Option PV:=
 match x with
 |.ptr r v i o=>some (.ptr r v i (o+off))
 |.lptr cs=>some (.lptr (cs.drop off))
 |_=>none
def au(sz:Nat)(x i:PV):Option PV:=
 match i with
 |.int _ n=>match x with
  |.tok r v z off len _ _=>if z=sz/\0<=n/\n<len then some (.ptr r v (off+n.toNat) 0)else none
  | .lst es _=>if 0<=n/\n<es.length then(match es[n.toNat]? with
    |some e=>if e.cells.length=sz then some (.lptr e.cells)else none
    |none=>none)else none
  |_=>none
 |_=>none
def iZ(n sz:Nat)(x i:PV):Option PV:=
 match i with
 |.int _ j=>if 0<=j/\j<n then ba x (j.toNat*sz)else none
 |_=>none
def kw:List PV->List (Nat×Option Nat×PV)->Option (List PV)
 |cs,[]=>some cs
 |cs,(off,sz,v)::rest=>if v.fits sz/\off+v.cells.length<=cs.length then kw (cs.take off++v.cells++cs.drop (off+v.cells.length)) rest else none
def jn(sz:Option Nat)(x:PV):HM PV:=
 match x with
 |.ptr r v i o=>(bN r v).bind λb=>match b.es[i]? with
  |some e=>HM.ofO (db e.cells o sz)
  |none=>.fail
 |.lptr cs=>HM.ofO (db cs 0 sz)
 |_=>.fail
def fc(sz:Option Nat)(x y:PV):HM PV:=
 match x with
 | .ptr r v i o=>(bN r v).bind λb=>match b.es[i]? with
  |some e=>if y.fits sz/\ai y.cells/\o+y.cells.length<=e.cells.length/\b.ro=false
   then .set r ⟨v,some ⟨b.sz,b.es.set i (e.withCells (e.cells.take o++y.cells++e.cells.drop (o+y.cells.length))),false⟩⟩ (.ret .junk)else .fail
  |none=>.fail
 |_=>.fail
def jH(sz:Nat):List PV->List PV->List PV
 |[],_=>[]
 |e::es,cs=>e.withCells (cs.take sz)::jH sz es (cs.drop sz)
def nK(m:Nat)(x y:PV):HM PV:=
 match x with
 |.ptr r v 0 0=>(bN r v).bind λb=>
  if y.fits (some m)/\ai y.cells/\m=b.es.length*b.sz/\0<b.sz/\b.ro=false then .set r ⟨v,some ⟨b.sz,jH b.sz b.es y.cells,false⟩⟩ (.ret .junk)else .fail
 |_=>.fail
def bB:Nat:=2147483648
def bO(sz:Nat):List PV->Bool
 |[]=>true
 |v::vs=>v.cells.length==sz&&bO sz vs
def ed(sz:Nat)(old vs:List PV)(s:Nat):HM PV:=
 if old.length+vs.length<bB then(ek s ⟨sz,old++vs,false⟩).bind λv=>.ret (.tok (.l s) v sz 0 (old.length+vs.length) (old.length+vs.length) false)else .fail
def gj(sz:Nat)(r:ao)(ver off len room:Nat)(vs:List PV)(s:Nat):HM PV:=
 (bN r ver).bind λb=>
  if b.sz=sz/\b.ro=false/\off+len<=b.es.length/\len+vs.length<bB then
   if len+vs.length<=room then
    if off+len+vs.length<=b.es.length then .set r ⟨ver,some ⟨sz,b.es.take (off+len)++vs++b.es.drop (off+len+vs.length),false⟩⟩ (.ret (.tok r ver sz off (len+vs.length) room false))else .fail
   else if r=.l s then(ek s ⟨sz,(b.es.drop off).take len++vs,false⟩).bind λv=>.ret (.tok (.l s) v sz 0 (len+vs.length) (len+vs.length) false)
   else .set r ⟨ver,none⟩ ((ek s ⟨sz,(b.es.drop off).take len++vs,false⟩).bind λv=>.ret (.tok (.l s) v sz 0 (len+vs.length) (len+vs.length) false))
  else .fail
def i6(sz:Nat)(x y:PV)(s:Nat):HM PV:=
 (elems y).bind λvs0=>if bO sz vs0 then(HM.mapM (bc 9) vs0).bind λvs=>
  if vs.isEmpty then(match x with|.nils=>.ret .nils|.lst es c0=>.ret (.lst es c0)|.tok r ver z off len room c0=>.ret (.tok r ver z off len room c0)|_=>.fail)
  else match x with
   |.nils=>ed sz [] vs s
   |.lst es c0=>if c0/\es.isEmpty then ed sz [] vs s else .fail
   |.tok r ver z off len room c0=>if c0 then(if len=0 then ed sz [] vs s else .fail)else if z=sz then gj sz r ver off len room vs s else .fail
   |_=>.fail
  else .fail
def AB(sz:Nat)(x y:PV):HM PV:=
 (elems y).bind λvs=>match x with
  | .tok r ver z off len _ _=>
   let n:=min vs.length len
   if n=0 then .ret (.int .i64 0)else
   (bN r ver).bind λb=>if z=sz/\b.sz=sz/\off+len<=b.es.length/\b.ro=false/\vs.all (λv=>v.cells.length==sz)
    then .set r ⟨ver,some ⟨sz,b.es.take off++vs.take n++b.es.drop (off+n),false⟩⟩ (.ret (.int .i64 n))else .fail
  |.nils=>.ret (.int .i64 0)
  |.lst es _=>if vs.isEmpty||es.isEmpty then .ret (.int .i64 0)else .fail
  |_=>.fail
def xt(z:PV)(x:PV):HM PV:=
 match x with
 | .tok r ver sz off len _ _=>if len=0 then .ret .junk else
  (bN r ver).bind λb=>if z.cells.length=sz/\ai z.cells/\b.sz=sz/\off+len<=b.es.length/\b.ro=false
   then .set r ⟨ver,some ⟨sz,b.es.take off++List.replicate len z++b.es.drop (off+len),false⟩⟩ (.ret .junk)else .fail
 |.nils=>.ret .junk
 |.lst es _=>if es.isEmpty then .ret .junk else .fail
 |_=>.fail
def mK:PV->Option PV
 |.str s=>some (.int .i64 s.length)
 |_=>none
def vU:PV->Option PV
 |.nils=>some (.int .i64 0)
 |.lst es _=>some (.int .i64 es.length)
 |.tok _ _ _ _ len _ _=>some (.int .i64 len)
 |_=>none
def Ac(x i:PV):Option PV:=
 match x,i with
 |.str s,.int _ n=>if 0<=n then(match s[n.toNat]? with|some b=>some (.int .u8 b.toNat)|none=>none)else none
 |_,_=>none
def xo(isMax:Bool):PV->PV->Option PV
 |.int k x,.int _ y=>some (.int k (if isMax then(if y>x then y else x)else(if y<x then y else x)))
 |_,_=>none
def lU(isMax:Bool):PV->List PV->Option PV
 |x,[]=>some x
 |x,y::ys=>match xo isMax x y with|some z=>lU isMax z ys|none=>none
def eC:List PV->Option (List UInt8)
 |[]=>some []
 |.int .u8 n::vs=>match eC vs with|some l=>some (UInt8.ofNat n.toNat::l)|none=>none
 |_=>none
abbrev cg:=Nat->List PV->List Blk->Option (PV×List (Option Blk))
def PV.scalar:PV->Bool
 |.int .. |.bool _|.str _|.nilp|.nils|.nilfn=>true
 |.tup vs=>vs.all λ |.int .. |.bool _|.str _|.nilp|.nils|.nilfn=>true|_=>false
 |_=>false
def dP:List Bool->List PV->HM (List PV×List (ao×Nat×Blk))
 |true::bs,v::vs=>(bM 9 v).bind λv'=>(dP bs vs).bind λvs'=>.ret (v'.1::vs'.1,v'.2++vs'.2)
 |_::bs,v::vs=>(dP bs vs).bind λvs'=>.ret (v::vs'.1,vs'.2)
 |[],vs=>.ret (vs,[])
 |_,[]=>.ret ([],[])
def cP(bor:List (ao×Nat×Blk))(s:Nat)(nv:List Nat):ao->Nat->Option (ao×Nat)
 |.a i,_=>match bor[i]? with|some (r,v,_)=>some (r,v)|none=>none
 |.l k,_=>match nv[k]? with|some v=>some (.l (s+k),v)|none=>none
 |.dead,_=>none
def gX(f:ao->Nat->Option (ao×Nat)):List (ao×Nat×Blk)->List (Option Blk)->HM Unit
 |[],_=>.ret ()
 |(r,v,_)::rest,b::bs=>.set r ⟨v,match b with|some b=>some (b.ren f)|none=>none⟩ (gX f rest bs)
 |_::_,[]=>.fail
def oN(s:Nat):Nat->HM (List Nat)
 |0=>.ret []
 |n+1=>.get (.l s) λe=>(oN (s+1) n).bind λvs=>.ret ((e.ver+1)::vs)
def ke(f:ao->Nat->Option (ao×Nat))(s:Nat):List Nat->List (Option Blk)->HM Unit
 |[],[]=>.ret ()
 |v::vs,some b::bs=>.set (.l s) ⟨v,some (b.ren f)⟩ (ke f (s+1) vs bs)
 |_,_=>.fail
def oY:List (ao×Nat×Blk)->HM Unit
 |[]=>.ret ()
 |(r,v,b)::rest=>if b.ro then oY rest else .set r ⟨v,some ⟨b.sz,b.es,true⟩⟩ (oY rest)
def kc(x y:List (ao×Nat×Blk)):Bool:=x.any λp=>y.any λq=>p.1==q.1
def cK(bor:List (ao×Nat×Blk)):ao->Nat->Option (ao×Nat):=λr v=>match fB r v bor 0 with|some i=>some (.a i,0)|none=>none
mutual
def dJ:PV->Bool
 |.int .. |.bool _|.str _|.nilp|.nils|.nilfn|.tok .. |.ptr .. =>true
 |.agg cs=>gJ cs
 |.tup cs=>gJ cs
 |_=>false
def gJ:List PV->Bool
 |[]=>true
 |x::xs=>dJ x&&gJ xs
end
def gT:List (Option Blk)->Bool
 |[]=>true
 |some b::bs=> !b.ro&&gJ b.es&&gT bs
 |none::_=>false
def kW(bor:List (ao×Nat×Blk))(r:PV)(G:List (Option Blk)):Bool:=bor.isEmpty&&dJ r&&gT G
def qI(bor robor:List (ao×Nat×Blk))(s:Nat)(r:PV)(G:List (Option Blk)):HM PV:=
 (if kW bor r G then .ret ()else oY robor).bind λ_=>
 (oN s (G.length-bor.length)).bind λnv=>
 (gX (cP bor s nv) bor (G.take bor.length)).bind λ_=>
 (ke (cP bor s nv) s nv (G.drop bor.length)).bind λ_=>.ret (ren (cP bor s nv) r)
def eK(C:cg)(ro:List Bool)(f:Nat)(args0:List PV)(s:Nat):HM PV:=
 (dP ro args0).bind λargs=>
 (fQ 99 (aZ args.1) []).bind λbor=>
  if kc args.2 bor then .fail else
  match C f (bZ (cK bor) args.1) (bor.map λx=>x.2.2.ren (cK bor))with
  |none=>.fail
  |some (r,G)=>qI bor args.2 s r G
def qP{α:Type}(k:Nat->HM α):Nat->Nat->HM α
 |s,0=>k s
 |s,n+1=>.get (.l s) λe=>if e.blk.isNone then k s else qP k (s+1) n
def ud:PV->PV->PV->HM PV
 |.bool true,a,_=>.ret a
 |.bool false,_,b=>.ret b
 |_,_,_=>.fail
def vJ(sz:Option Nat)(x:PV)(s:Nat):HM PV:=
 if x.fits sz/\ai x.cells then(ek s ⟨x.cells.length,[x],false⟩).bind λv=>.ret (.ptr (.l s) v 0 0)else .fail
def zN(n:Nat)(z:PV)(s:Nat):HM PV:=
 if ai z.cells/\n<bB then(ek s ⟨z.cells.length,List.replicate n z,false⟩).bind λv=>.ret (.ptr (.l s) v 0 0)else .fail
def kJ(ρ:PO->PV):List (Nat×Option Nat×PO)->List (Nat×Option Nat×PV)
 |[]=>[]
 |(a,b,x)::ps=>(a,b,ρ x)::kJ ρ ps
def ka(ρ:PO->PV):List PO->List PV
 |[]=>[]
 |x::xs=>ρ x::ka ρ xs
def th(ρ:PO->PV):Option PO->Option PV
 |none=>none
 |some x=>some (ρ x)
def sH(zero:List PV)(ps:List (Nat×Option Nat×PV)):HM PV:=
 match kw zero ps with|some cs=>.ret (.agg cs)|none=>.fail
def fU(sz:Option Nat):List PV->Bool
 |[]=>true
 |v::vs=>v.fits sz&&ai v.cells&&fU sz vs
def cZ(sz:Option Nat)(vs:List PV)(s:Nat):HM PV:=
 if fU sz vs then(ek s ⟨sz.getD 1,vs,false⟩).bind λv=>.ret (.tok (.l s) v (sz.getD 1) 0 vs.length vs.length false)else .fail
def jb:PV->HM PV
 |.ptr r v i o=>.ret (.ptr r v i o)
 |.lptr cs=>.ret (.lptr cs)
 |.fn f cs=>.ret (.fn f cs)
 |_=>.fail
def ye(neg:Bool)(ks:List Bool)(x y:PV):HM PV:=
 match x,y with
 |.agg xs,.agg ys=>match aH ks xs ys with|some b=>.ret (.bool (if neg then !b else b))|none=>.fail
 |_,_=>.fail
def sM(k:IntKind):PV->HM PV
 |.int _ n=>.ret (.int k (k.wrap n))
 |_=>.fail
def vr(x:PV):HM PV:=
 if x.isStr then .fail else
 (elems x).bind λes=>match eC es with|some l=>.ret (.str l)|none=>.fail
def Fi(x:PV)(s:Nat):HM PV:=
 match x with
 |.str l=>if l.length<bB then(ek s ⟨1,l.map λb=>.int .u8 b.toNat,false⟩).bind λv=>.ret (.tok (.l s) v 1 0 l.length l.length false)else .fail
 |_=>.fail
def mq(sz:Option Nat)(x:PV)(off:Nat):HM PV:=
 match x with|.agg cs=>HM.ofO (db cs off sz)|_=>.fail
def oQ(x:PV)(i:Nat):HM PV:=
 match x with|.tup vs=>HM.ofO vs[i]?|_=>.fail
def jS(sz:Nat)(z:PV)(n:PV)(s:Nat):HM PV:=
 match n with
 |.int _ n=>if 0<=n/\n<bB/\z.cells.length=sz/\ai z.cells then(ek s ⟨sz,List.replicate n.toNat z,false⟩).bind λv=>.ret (.tok (.l s) v sz 0 n.toNat n.toNat false)else .fail
 |_=>.fail
def qY(n sz:Nat)(x i:PV):HM PV:=
 match i,x with
 |.int _ j,.ptr r v 0 0=>if 0<=j/\j<n then(bN r v).bind λb=>if b.sz=sz then .ret (.ptr r v j.toNat 0)else .fail else .fail
 |_,_=>.fail
def pp(n sz:Nat)(x:PV)(lo hi:Option PV):HM PV:=
 match x,aG 0 lo,aG n hi with
 |.ptr r v 0 0,some l,some h=>if l<=h/\h<=n then(bN r v).bind λb=>if b.sz=sz/\b.es.length=n then .ret (.tok r v sz l (h-l) (n-l) false)else .fail else .fail
 |_,_,_=>.fail
def oz(RO:Nat->List Bool)(C:cg)(g:PV)(args:List PV)(s:Nat):HM PV:=
 match g with
 |.fn f caps=>eK C (RO f) f (args++caps) s
 |_=>.fail
def Ce(b:Bool):List PV->HM PV
 |[]=>.fail
 |y::ys=>HM.ofO (lU b y ys)
def xB:PV->HM PV
 |.tok r v sz off len room c0=>if 0<len/\sz=1 then(bN r v).bind λb=>if b.ro=false then .ret (.tok r v sz off len room c0)else .fail else .fail
 |_=>.fail
def ib(RO:Nat->List Bool)(C:cg)(ρ:PO->PV):IOp->HM PV
 |.mov x=>.ret (ρ x)
 |.pick c a b=>ud (ρ c) (ρ a) (ρ b)
 |.box sz x s=>vJ sz (ρ x) s
 |.boxA n z s=>zN n z s
 |.build zero parts=>sH zero (kJ ρ parts)
 |.buildSlice sz parts s=>cZ sz (ka ρ parts) s
 |.load sz x=>jn sz (ρ x)
 |.store sz x y=>fc sz (ρ x) (ρ y)
 |.nilchk x=>jb (ρ x)
 |.bin op x y=>HM.ofO (bin op (ρ x) (ρ y))
 |.eqs neg ks x y=>ye neg ks (ρ x) (ρ y)
 |.eqb neg x y=>HM.ofO (eqb neg (ρ x) (ρ y))
 |.eqn k neg x y=>HM.ofO (eqn k neg (ρ x) (ρ y))
 |.un op x=>HM.ofO (un op (ρ x))
 |.toInt k x=>sM k (ρ x)
 |.b2s x=>vr (ρ x)
 |.s2b x s=>Fi (ρ x) s
 |.slice sz x lo hi mx=>HM.ofO (cJ sz (ρ x) (th ρ lo) (th ρ hi) (th ρ mx))
 |.fieldAddr x off=>HM.ofO (ba (ρ x) off)
 |.field sz x off=>mq sz (ρ x) off
 |.indexAddr sz x i=>HM.ofO (au sz (ρ x) (ρ i))
 |.idxArr n sz x i=>HM.ofO (iZ n sz (ρ x) (ρ i))
 |.idxArrB n sz x i=>qY n sz (ρ x) (ρ i)
 |.sliceArr n sz x lo hi=>pp n sz (ρ x) (th ρ lo) (th ρ hi)
 |.storeA m x y=>nK m (ρ x) (ρ y)
 |.extract x i=>oQ (ρ x) i
 |.mkfn f caps=>.ret (.fn f (ka ρ caps))
 |.mkslice sz z n s=>jS sz z (ρ n) s
 |.call f args s=>eK C (RO f) f (ka ρ args) s
 |.callv g args s=>oz RO C (ρ g) (ka ρ args) s
 |.append sz x y s=>i6 sz (ρ x) (ρ y) s
 |.copy sz x y=>AB sz (ρ x) (ρ y)
 |.clear z x=>xt z (ρ x)
 |.len x=>HM.ofO (vU (ρ x))
 |.lenS x=>HM.ofO (mK (ρ x))
 |.mm b xs=>Ce b (ka ρ xs)
 |.same x=>xB (ρ x)
 |.callD f args s n=>qP (λs=>eK C (RO f) f (ka ρ args) s) s n
 |.sidx x i=>HM.ofO (Ac (ρ x) (ρ i))
 |.bad=>.fail
structure St where
 fr:List PV
 h:Heap
def wanted(fr:List PV):Option (Nat×Bool)->Option Bool
 |none=>some true
 |some (t,b)=>match kF fr t with
  |.bool c=>some (c==b)
  |.tup []=>some false
  |_=>none
def aD(fr:List PV)(dst:Option Nat)(v:PV):List PV:=
 match dst with|some d=>upd fr d v|none=>fr
def iC(RO:Nat->List Bool)(C:cg)(o:IOper)(σ:St):Option St:=
 match wanted σ.fr o.guard with
 |some true=>match(ib RO C (PO.ev σ.fr) o.op).run σ.h with
  |some (v,h)=>some ⟨aD σ.fr o.dst v,h⟩
  |none=>none
 |some false=>some ⟨aD σ.fr o.dst (.tup []),σ.h⟩
 |none=>none
def gC(RO:Nat->List Bool)(C:cg):List IOper->St->Option St
 |[],σ=>some σ
 |o::os,σ=>match iC RO C o σ with|some σ'=>gC RO C os σ'|none=>none
def bn(RO:Nat->List Bool)(C:cg)(o:IOper)(σ:St):Option (St×List ao×List ao):=
 match wanted σ.fr o.guard with
 |some true=>match(ib RO C (PO.ev σ.fr) o.op).runT σ.h with
  |some (v,h,R,W)=>some (⟨aD σ.fr o.dst v,h⟩,R,W)
  |none=>none
 |some false=>some (⟨aD σ.fr o.dst (.tup []),σ.h⟩,[],[])
 |none=>none
def kj(R1 W1 R2 W2:List ao):Bool:=W1.all (λr=> !R2.contains r&& !W2.contains r)&&W2.all λr=> !R1.contains r
def lz(RO:Nat->List Bool)(C:cg):Nat->List (Nat×List ao×List ao)->List IOper->St->Option St
 |_,_,[],σ=>some σ
 |j,acc,o::os,σ=>match bn RO C o σ with
  |some (σ',R,W)=>if acc.all (λx=>o.bef.contains x.1||kj x.2.1 x.2.2 R W)then lz RO C (j+1) ((j,R,W)::acc) os σ' else none
  |none=>none
structure Fx where
 r:ao
 ver:Nat
 i:Nat
 o:Nat
 sz:Option Nat
structure Tr where
 R:List ao
 W:List ao
 c:Option Fx
 D:List (ao×Option eN×Option eN)
mutual
def L4:PV->PV->Bool
 |.int k n,.int k' m=>decide (k=k')&&decide (n=m)
 |.bool a,.bool b=>decide (a=b)
 |.str a,.str b=>decide (a=b)
 |.nils,.nils=>true
 |.lst es c,.lst es' c'=>decide (c=c')&&ve es es'
 |.tok r v z a l m c,.tok r' v' z' a' l' m' c'=>decide (r=r')&&decide (v=v')&&decide (z=z')&&decide (a=a')&&decide (l=l')&&decide (m=m')&&decide (c=c')
 |.ptr r v i o,.ptr r' v' i' o'=>decide (r=r')&&decide (v=v')&&decide (i=i')&&decide (o=o')
 |.nilp,.nilp=>true
 |.lptr cs,.lptr cs'=>ve cs cs'
 |.agg cs,.agg cs'=>ve cs cs'
 |.tup cs,.tup cs'=>ve cs cs'
 |.fn f cs,.fn f' cs'=>decide (f=f')&&ve cs cs'
 |.nilfn,.nilfn=>true
 |_,_=>false
def ve:List PV->List PV->Bool
 |[],[]=>true
 |x::xs,y::ys=>L4 x y&&ve xs ys
 |_,_=>false
end
def fu(ρ:PO->PV):IOp->Option Fx
 |.load sz x=>match ρ x with|.ptr r v i o=>some ⟨r,v,i,o,sz⟩|_=>none
 |_=>none
def dN(o:IOper)(σ σ':St)(R W:List ao):Tr:=
 match wanted σ.fr o.guard with
 |some true=>match fu (PO.ev σ.fr) o.op with
  |some c=>⟨[],[],some c,[]⟩
  |none=>⟨R,W,none,W.map λr=>(r,σ.h.get r,σ'.h.get r)⟩
 |_=>⟨R,W,none,[]⟩
def o9(c:Fx)(e:Option eN):Option PV:=
 match e with
 |some e=>if e.ver=c.ver then(match e.blk with|some b=>(match b.es[c.i]? with|some el=>db el.cells c.o c.sz|none=>none)|none=>none)else none
 |none=>none
def pf(c:Fx)(D:List (ao×Option eN×Option eN)):Bool:=
 D.all λd=> !decide (d.1=c.r)||(match o9 c d.2.1,o9 c d.2.2 with|some v,some w=>L4 v w|_,_=>false)
def pD(x y:Tr):Bool:=
 match x.c,y.c with
 |some _,some _=>true
 |some c,none=>pf c y.D
 |none,some c=>pf c x.D
 |none,none=>kj x.R x.W y.R y.W
def eM(RO:Nat->List Bool)(C:cg):Nat->List (Nat×Tr)->List IOper->St->Option St
 |_,_,[],σ=>some σ
 |j,acc,o::os,σ=>match bn RO C o σ with
  |some (σ',R,W)=>if acc.all (λx=>o.bef.contains x.1||pD x.2 (dN o σ σ' R W))then eM RO C (j+1) ((j,dN o σ σ' R W)::acc) os σ' else none
  |none=>none
def nF(s:Nat)(x:PV):HM PV:=
 match x with
 |.tok (.l s') ver sz off len room c0=>(bN (.l s') ver).bind λb=>.set (.l s') ⟨ver,none⟩ ((ek s b).bind λv=>.ret (.tok (.l s) v sz off len room c0))
 |x=>.ret x
def D8(o:Option Nat)(x:PV):HM PV:=match o with|some s=>nF s x|none=>bc 9 x
def sN(x:PV)(j:Nat)(o:Option Nat):HM PV:=
 match x with
 | .ptr r v 0 0=>(bN r v).bind λb=>match b.es[0]? with
  |some e=>(match e.cells[j]? with
   |some y=>(D8 o y).bind λy'=>fc none (.ptr r v 0 j) y'
   |none=>.fail)
  |none=>.fail
 |_=>.fail
def An(fr:List PV):Adj->HM (List PV)
 |.cell t j o=>(sN (kF fr t) j o).bind λ_=>.ret fr
 |.tmp t o=>(D8 o (kF fr t)).bind λv=>.ret (upd fr t v)
def Ck:List Adj->List PV->HM (List PV)
 |[],fr=>.ret fr
 |a::as,fr=>(An fr a).bind λfr=>Ck as fr
inductive Ex where
 |norm
 |exit (id:Nat)
 |ret
 deriving DecidableEq,Inhabited
def lV(fr:List PV):List um->HM (List PV)
 |[]=>.ret []
 |.tmp t::rs=>(lV fr rs).bind λvs=>.ret (kF fr t::vs)
 |.cell sz t::rs=>(jn sz (kF fr t)).bind λv=>(lV fr rs).bind λvs=>.ret (v::vs)
def one:List PV->PV
 |[v]=>v
 |vs=>.tup vs
def kG:Nat->Nat->HM (List (Option Blk))
 |0,_=>.ret []
 |n+1,i=>.get (.a i) λe=>(kG n (i+1)).bind λbs=>.ret (e.blk::bs)
def fj:List (Option Blk)->List (ao×Nat)
 |[]=>[]
 |some b::bs=>aZ b.es++fj bs
 |none::bs=>fj bs
def cL:Nat->List (ao×Nat)->List (ao×Nat×Blk)->HM (List (ao×Nat×Blk))
 |0,_,_=>.fail
 |_+1,[],acc=>.ret acc
 |n+1,(.a _,_)::rest,acc=>cL n rest acc
 |n+1,(.dead,_)::rest,acc=>cL n rest acc
 | n+1,(.l s,v)::rest,acc=>
  if acc.any (λx=>x.1== .l s&&x.2.1==v)then cL n rest acc else
  .get (.l s) λe=>match e.blk with
   |some b=>if e.ver=v then cL n (rest++aZ b.es) (acc++[(.l s,v,b)])else cL n rest acc
   |none=>cL n rest acc
def mW(F:ak)(m:Nat)(fr:List PV):HM (PV×List (Option Blk)):=
 (lV fr F.res).bind λvs=>
 (if F.frz then bc 9 (one vs)else .ret (one vs)).bind λr=>
 (kG m 0).bind λbs=>
 (cL 99 (jN r++fj bs) []).bind λnew=>
  let f:ao->Nat->Option (ao×Nat):=λq v=>match q with
   |.a i=>some (.a i,v)
   |.dead=>none
   |.l _=>match fB q v new 0 with|some k=>some (.l k,0)|none=>none
  .ret (ren f r,bs.map (λb=>match b with|some b=>some (b.ren f)|none=>none)++new.map λx=>some (x.2.2.ren f))
mutual
def aV(FT:Nat->Option ak):Nat->Nat->List PV->List Blk->Option (PV×List (Option Blk))
 |0,_,_,_=>none
 | n+1,f,args,G=>match FT f with
  |none=>none
  | some F=>match F.intr with
   |some g=>g args G
   |none=>match bA FT n F.body ⟨args++List.replicate (F.ntmps-args.length) .junk,⟨G.map some,List.replicate F.nslots ⟨0,none⟩⟩⟩with
    |some (.norm,σ)=>match(mW F G.length σ.fr).run σ.h with|some (x,_)=>some x|none=>none
    |some (.ret,σ)=>match(mW F G.length σ.fr).run σ.h with|some (x,_)=>some x|none=>none
    |_=>none
def bA(FT:Nat->Option ak):Nat->eL->St->Option (Ex×St)
 |0,_,_=>none
 | n+1,c,σ=>match c with
  |.skip=>some (.norm,σ)
  |.reg ops false=>match gC (λf=>match FT f with|some F=>F.ro|none=>[]) (aV FT n) ops σ with|some σ'=>some (.norm,σ')|none=>none
  |.reg ops true=>match eM (λf=>match FT f with|some F=>F.ro|none=>[]) (aV FT n) 0 [] ops σ with|some σ'=>some (.norm,σ')|none=>none
  |.seq a b=>match bA FT n a σ with
   |some (.norm,σ')=>bA FT n b σ'
   |r=>r
  |.cond c x y=>match c.ev σ.fr with
   |.bool true=>bA FT n x σ
   |.bool false=>bA FT n y σ
   |_=>none
  |.block id c=>match bA FT n c σ with
   |some (.exit i,σ')=>if i=id then some (.norm,σ')else some (.exit i,σ')
   |r=>r
  |.loop c=>match bA FT n c σ with
   |some (.norm,σ')=>bA FT n (.loop c) σ'
   |r=>r
  |.exit id=>some (.exit id,σ)
  |.ret=>some (.ret,σ)
  |.adj js c=>match(Ck js σ.fr).run σ.h with|some (fr,h)=>bA FT n c ⟨fr,h⟩|none=>none
  |.post c js=>match bA FT n c σ with
   |some (.norm,σ')=>(match(Ck js σ'.fr).run σ'.h with|some (fr,h)=>some (.norm,⟨fr,h⟩)|none=>none)
   |r=>r
end
end Gv
namespace Gv
open Go
structure Bt where
 b:Nat
 base:Nat
 sz:Nat
 size:Nat
abbrev RD:=Nat->Option (Array Value)
structure Mp where
 rd:RD
 io:ao->Nat->Option Bt
 cv:ao->Nat
def RdAt(rd:RD)(a:Addr)(k:Nat)(u:Value):Prop:=
 a.spot=none/\∃vs,rd a.block=some vs/\vs[a.off+k]?=some u
def RdLe(rd rd':RD):Prop:=∀b vs,rd b=some vs->rd' b=some vs
theorem RdLe.refl(rd:RD):RdLe rd rd:=λ_ _ h=>h
theorem RdLe.trans{a b c:RD}(h:RdLe a b)(k:RdLe b c):RdLe a c:=λx v e=>k x v (h x v e)
theorem RdAt.mono{rd rd':RD}(h:RdLe rd rd'){a:Addr}{k:Nat}{u:Value}(x:RdAt rd a k u):RdAt rd' a k u:=by
 obtain⟨h1,vs,h2,h3⟩:=x;exact⟨h1,vs,h _ _ h2,h3⟩
section
variable(ah:Nat->FuncId)
inductive FR (rd:RD):PV->Value->Prop
 |int (k:IntKind) (n:Int):FR rd (.int k n) (.int k n)
 |bool (b:Bool):FR rd (.bool b) (.bool b)
 |str (s:List UInt8):FR rd (.str s) (.string ⟨s.toArray⟩)
 |nils:FR rd .nils (.slice none 0 0)
 | lst (es:List PV) (c0:Bool) (a:Addr) (cap esz:Nat) (us:Nat->Nat->Value) (h1:es.length<=cap) (h2:c0=true->cap=0)
   (h3:∀(i:Nat)(e:PV),es[i]?=some e->e.cells.length=esz)
   (h4:∀(i:Nat)(e:PV)(j:Nat)(c:PV),es[i]?=some e->e.cells[j]?=some c->c.isCell=true/\RdAt rd a (i*esz+j) (us i j))
   (h5:∀(i:Nat)(e:PV)(j:Nat)(c:PV),es[i]?=some e->e.cells[j]?=some c->FR rd c (us i j)):FR rd (.lst es c0) (.slice (some a) es.length cap)
 |nilp:FR rd .nilp (.pointer none)
 | lptr (cs:List PV) (a:Addr) (us:Nat->Value) (h1:∀(j:Nat)(c:PV),cs[j]?=some c->c.isCell=true/\RdAt rd a j (us j))
   (h2:∀(j:Nat)(c:PV),cs[j]?=some c->FR rd c (us j)) (h3:a.spot=none):FR rd (.lptr cs) (.pointer (some a))
 |agg (cs:List PV) (vs:Array Value) (h1:cs.length=vs.size) (h2:∀(i:Nat)(c:PV)(u:Value),cs[i]?=some c->vs[i]?=some u->FR rd c u):FR rd (.agg cs) (.agg vs)
 |tup (cs:List PV) (vs:Array Value) (h1:cs.length=vs.size) (h2:∀(i:Nat)(c:PV)(u:Value),cs[i]?=some c->vs[i]?=some u->FR rd c u):FR rd (.tup cs) (.tuple vs)
 |fn (f:Nat):FR rd (.fn f []) (.func (.func (ah f)) #[] #[])
 |nilfn:FR rd .nilfn .nilFunc
theorem FR.mono{rd rd':RD}(hr:RdLe rd rd'){v:PV}{c:Value}(h:FR ah rd v c):FR ah rd' v c:=by
 induction h with
 |int k n=>exact .int k n
 |bool b=>exact .bool b
 |str s=>exact .str s
 |nils=>exact .nils
 |lst es c0 a cap esz us h1 h2 h3 h4 h5 ih=>exact .lst es c0 a cap esz us h1 h2 h3 (λi e j c a b=>⟨(h4 i e j c a b).1,(h4 i e j c a b).2.mono hr⟩) ih
 |nilp=>exact .nilp
 |lptr cs a us h1 h2 h3 ih=>exact .lptr cs a us (λj c h=>⟨(h1 j c h).1,(h1 j c h).2.mono hr⟩) ih h3
 |agg cs vs h1 h2 ih=>exact .agg cs vs h1 ih
 |tup cs vs h1 h2 ih=>exact .tup cs vs h1 ih
 |fn f=>exact .fn f
 |nilfn=>exact .nilfn
inductive VR (M:Mp):PV->Value->Prop
 |fr {v:PV} {c:Value} (h:FR ah M.rd v c):VR M v c
 |junk (c:Value):VR M .junk c
 | tok (r:ao) (ver sz off len room:Nat) (c0:Bool) (a:Addr) (cap:Nat) (hv:ver<=M.cv r) (h2:len<=room) (h3:room<=cap) (h4:c0=true->cap=0)
   (h5:∀loc,M.io r ver=some loc->loc.sz=sz/\(cap=0∨a=⟨loc.b,loc.base+off*sz,none⟩/\loc.base+off*sz+cap*sz<=loc.size)):
   VR M (.tok r ver sz off len room c0) (.slice (some a) len cap)
 |ptr (r:ao) (ver i o:Nat) (a:Addr) (hv:ver<=M.cv r) (h:∀loc,M.io r ver=some loc->a=⟨loc.b,loc.base+i*loc.sz+o,none⟩):VR M (.ptr r ver i o) (.pointer (some a))
 |agg (cs:List PV) (vs:Array Value) (h1:cs.length=vs.size) (h2:∀(i:Nat)(c:PV)(u:Value),cs[i]?=some c->vs[i]?=some u->VR M c u):VR M (.agg cs) (.agg vs)
 |tup (cs:List PV) (vs:Array Value) (h1:cs.length=vs.size) (h2:∀(i:Nat)(c:PV)(u:Value),cs[i]?=some c->vs[i]?=some u->VR M c u):VR M (.tup cs) (.tuple vs)
 |fn (f:Nat) (cs:List PV) (vs:Array Value) (h1:cs.length=vs.size) (h2:∀(i:Nat)(c:PV)(u:Value),cs[i]?=some c->vs[i]?=some u->VR M c u):VR M (.fn f cs) (.func (.func (ah f)) #[] vs)
structure Mp.le (M M':Mp):Prop where
 rd:RdLe M.rd M'.rd
 cv:∀r,M.cv r<=M'.cv r
 io:∀r v,v<=M.cv r->M'.io r v=M.io r v∨M'.io r v=none
theorem Mp.le.refl(M:Mp):M.le M:=⟨.refl _,λ_=>Ny _,λ_ _ _=>.inl rfl⟩
theorem Mp.le.trans{A B C:Mp}(h:A.le B)(k:B.le C):A.le C:=
 ⟨h.rd.trans k.rd,λr=>OW (h.cv r) (k.cv r),λr v hv=>by
  rcases k.io r v (OW hv (h.cv r))with e|e
  ·rw[e];exact h.io r v hv
  ·exact .inr e⟩
variable{ah}
theorem VR.mono{M M':Mp}(hM:M.le M'){v:PV}{c:Value}(h:VR ah M v c):VR ah M' v c:=by
 induction h with
 |fr h=>exact .fr (h.mono ah hM.rd)
 |junk c=>exact .junk c
 |tok r ver sz off len room c0 a cap hv h2 h3 h4 h5=>
  refine .tok r ver sz off len room c0 a cap (OW hv (hM.cv r)) h2 h3 h4 (λloc hl=>?_);rcases hM.io r ver hv with e|e
  ·exact h5 loc (by rw[<-e];exact hl)
  ·rw[e]at hl;cases hl
 |ptr r ver i o a hv h=>
  refine .ptr r ver i o a (OW hv (hM.cv r)) (λloc hl=>?_);rcases hM.io r ver hv with e|e
  ·exact h loc (by rw[<-e];exact hl)
  ·rw[e]at hl;cases hl
 |agg cs vs h1 h2 ih=>exact .agg cs vs h1 ih
 |tup cs vs h1 h2 ih=>exact .tup cs vs h1 ih
 |fn f cs vs h1 h2 ih=>exact .fn f cs vs h1 ih
variable(ah)
def CellsAt(M:Mp)(c:Array Value)(base sz:Nat)(es:List PV):Prop:=
 ∀(i:Nat)(e:PV),es[i]?=some e->e.cells.length=sz/\∀(j:Nat)(x:PV),e.cells[j]?=some x->x.isCell=true/\∃u,c[base+i*sz+j]?=some u/\VR ah M x u
structure BlkAt (M:Mp) (w:World) (loc:Bt) (blk:Blk) (c:Array Value) (t:TypeId) (lo hi:Nat):Prop where
 heap:w.heap[loc.b]?=some (.cells c t (lo,hi))
 sz:loc.sz=blk.sz
 size:c.size=loc.size
 free:∀k,k<c.size->¬(lo<=k/\k<hi)
 lohi:lo<=hi/\(blk.sz≠1->hi<=c.size)/\c.size<=9223372036854775807*blk.sz
 fits:loc.base+blk.es.length*blk.sz<=c.size
 ro:blk.ro=true->M.rd loc.b=some c
 rw_:blk.ro=false->M.rd loc.b=none
 cells:CellsAt ah M c loc.base blk.sz blk.es
def RdOk(M:Mp)(w:World):Prop:=∀b vs,M.rd b=some vs->∃t fz,w.heap[b]?=some (.cells vs t fz)
structure HR (M:Mp) (h:Heap) (w:World):Prop where
 cv:∀r e,h.get r=some e->M.cv r=e.ver
 dom:∀r e v,h.get r=some e->M.io r v≠none->v=e.ver/\e.blk≠none
 has:∀r e,h.get r=some e->e.blk≠none->M.io r e.ver≠none
 out:∀r v,h.get r=none->M.io r v=none
 blk:∀r e b loc,h.get r=some e->e.blk=some b->M.io r e.ver=some loc->∃c t lo hi,BlkAt ah M w loc b c t lo hi
 inj:∀r v loc r' v' loc',M.io r v=some loc->M.io r' v'=some loc'->loc.b=loc'.b->r=r'
 rd:RdOk M w
def own(M:Mp)(b:Nat):Prop:=∃r v loc,M.io r v=some loc/\loc.b=b
structure StpI (M:Mp) (w:World) (M':Mp) (w':World):Prop where
 rd:RdLe M.rd M'.rd
 os:w'.os=w.os
 tape:w'.tape=w.tape
 output:w'.output=w.output
 size:w.heap.size<=w'.heap.size
 frame:∀b,b<w.heap.size->¬own M b->w'.heap[b]?=w.heap[b]?
 own:∀b,own M' b->own M b∨w.heap.size<=b
 rdn:∀b,M'.rd b≠none->M.rd b≠none∨Gv.own M b∨w.heap.size<=b
structure Stp (M:Mp) (w:World) (M':Mp) (w':World):Prop extends StpI M w M' w' where
 le:M.le M'
theorem StpI.refl(M:Mp)(w:World):StpI M w M w:=⟨.refl _,rfl,rfl,rfl,Ny _,λ_ _ _=>rfl,λ_ h=>.inl h,λ_ h=>.inl h⟩
theorem Stp.refl(M:Mp)(w:World):Stp M w M w:=⟨.refl _ _,.refl _⟩
theorem StpI.trans{A:Mp}{a:World}{B:Mp}{b:World}{C:Mp}{c:World}(h:StpI A a B b)(k:StpI B b C c):StpI A a C c where
 rd:=h.rd.trans k.rd
 os:=k.os.trans h.os
 tape:=k.tape.trans h.tape
 output:=k.output.trans h.output
 size:=OW h.size k.size
 frame x hx hn:=by
  rw[k.frame x (Nat.lt_of_lt_of_le hx h.size) (λho=>?_),h.frame x hx hn];rcases h.own x ho with e|e
  ·exact hn e
  ·omega
 own x ho:=by
  rcases k.own x ho with e|e
  ·exact h.own x e
  ·exact .inr (OW h.size e)
 rdn x ho:=by
  rcases k.rdn x ho with e|e|e
  ·exact h.rdn x e
  ·rcases h.own x e with e|e
   ·exact .inr (.inl e)
   ·exact .inr (.inr e)
  ·exact .inr (.inr (OW h.size e))
theorem Stp.trans{A:Mp}{a:World}{B:Mp}{b:World}{C:Mp}{c:World}(h:Stp A a B b)(k:Stp B b C c):Stp A a C c:=
 ⟨h.toStpI.trans k.toStpI,h.le.trans k.le⟩
end
theorem Heap.get_put_same{h:Heap}{r:ao}{e e':eN}(he:h.get r=some e)(hv:∀i,r=.a i->e'.ver=0):(h.put r e').get r=some e':=by
 cases r with
 | a i=>
  simp only[Heap.get,Heap.put]at he⊢;have hi:i<h.A.length:=by
   rcases NI i h.A.length with x|x
   ·exact x
   ·simp[NA x]at he
  simp only[Ok hi];have:=hv i rfl;cases e';simp_all
 | l s=>
  simp only[Heap.get,Heap.put]at he⊢;have hi:s<h.L.length:=by
   rcases NI s h.L.length with x|x
   ·exact x
   ·simp[NA x]at he
  simp only[Ok hi]
 |dead=>simp[Heap.get]at he
theorem Heap.get_put_other{h:Heap}{r r':ao}{e':eN}(hne:r'≠r):(h.put r e').get r'=h.get r':=by
 cases r with
 | a i=>
  cases r' with
  |a j=>
   have:i≠j:=λh=>hne (by rw[h]);simp only[Heap.get,Heap.put,Ox this]
  |l t=>rfl
  |dead=>rfl
 | l s=>
  cases r' with
  |a j=>rfl
  |dead=>rfl
  |l t=>
   have:s≠t:=λh=>hne (by rw[h]);simp only[Heap.get,Heap.put,Ox this]
 |dead=>cases r'<;>rfl
theorem Heap.ver_a{h:Heap}{i:Nat}{e:eN}(he:h.get (.a i)=some e):e.ver=0:=by
 simp only[Heap.get]at he;split at he
 ·simp at he;rw[<-he]
 ·simp at he
theorem HM.run_bind{α β:Type}(m:HM α)(f:α->HM β)(h:Heap):
  (m.bind f).run h=match m.run h with|some (a,h')=>(f a).run h'|none=>none:=by
 induction m generalizing h with
 |ret a=>rfl
 |fail=>rfl
 |get r k ih=>
  simp only[HM.bind,HM.run];cases h.get r with
  |none=>rfl
  |some e=>exact ih e h
 |set r e k ih=>
  simp only[HM.bind,HM.run];cases h.get r with
  |none=>rfl
  |some x=>exact ih _
theorem HM.run_bind_some{α β:Type}{m:HM α}{f:α->HM β}{h h2:Heap}{b:β}(x:(m.bind f).run h=some (b,h2)):
  ∃a h1,m.run h=some (a,h1)/\(f a).run h1=some (b,h2):=by
 rw[HM.run_bind]at x;cases hm:m.run h with
 |none=>simp[hm]at x
 |some p=>obtain⟨a,h1⟩:=p;simp only[hm]at x;exact⟨a,h1,rfl,x⟩
theorem HM.run_ret_some{α:Type}{a b:α}{h h':Heap}(x:(HM.ret a).run h=some (b,h')):a=b/\h=h':=by
 simpa[HM.run]using x
theorem HM.run_ofO_some{α:Type}{o:Option α}{b:α}{h h':Heap}(x:(HM.ofO o).run h=some (b,h')):o=some b/\h=h':=by
 cases o with
 |none=>simp[HM.ofO,HM.run]at x
 |some a=>simpa[HM.ofO,HM.run]using x
theorem aX{r:ao}{ver:Nat}{b:Blk}{h h':Heap}(x:(bN r ver).run h=some (b,h')):
  h=h'/\h.get r=some ⟨ver,some b⟩:=by
 simp only[bN,HM.run]at x;cases he:h.get r with
 |none=>simp[he]at x
 | some e=>
  simp only[he]at x;split at x
  ·rename_i hv;obtain⟨h1,h2⟩:=HM.run_ofO_some x;refine⟨h2,?_⟩;cases e;simp_all
  ·simp[HM.run]at x
theorem i5{s:Nat}{b:Blk}{v:Nat}{h h':Heap}(x:(ek s b).run h=some (v,h')):
  ∃e,h.get (.l s)=some e/\v=e.ver+1/\h'=h.put (.l s) ⟨e.ver+1,some b⟩:=by
 simp only[ek,HM.run]at x;cases he:h.get (.l s)with
 |none=>simp[he]at x
 |some e=>simp[he]at x;exact⟨e,rfl,x.1.symm,x.2.symm⟩
theorem bu{α:Type}{r:ao}{e:eN}{k:HM α}{a:α}{h h':Heap}(x:(HM.set r e k).run h=some (a,h')):
  ∃e0,h.get r=some e0/\k.run (h.put r e)=some (a,h'):=by
 simp only[HM.run]at x;cases he:h.get r with
 |none=>simp[he]at x
 |some e0=>simp only[he]at x;exact⟨e0,rfl,x⟩
section
variable{ah:Nat->FuncId}
theorem cX{M:Mp}{r:ao}{v:Nat}{loc:Bt}(h:M.io r v=some loc):own M loc.b:=⟨r,v,loc,h,rfl⟩
theorem HR.upd{M M':Mp}{h:Heap}{w w':World}{r:ao}{e e':eN}(H:HR ah M h w)(he:h.get r=some e)(hv:∀i,r=.a i->e'.ver=0)
  (le:M.le M')(hcv:∀r',r'≠r->M'.cv r'=M.cv r')(hio:∀r',r'≠r->M'.io r'=M.io r')(hcvr:M'.cv r=e'.ver)
  (hdom:∀v,M'.io r v≠none->v=e'.ver/\e'.blk≠none)(hhas:e'.blk≠none->M'.io r e'.ver≠none)
  (hblk:∀b loc,e'.blk=some b->M'.io r e'.ver=some loc->∃c t lo hi,BlkAt ah M' w' loc b c t lo hi)
  (hinj:∀v loc r' v' loc',r'≠r->M'.io r v=some loc->M.io r' v'=some loc'->loc.b≠loc'.b)
  (hheap:∀r' v' loc',r'≠r->M.io r' v'=some loc'->w'.heap[loc'.b]?=w.heap[loc'.b]?/\M'.rd loc'.b=M.rd loc'.b)
  (hrd:RdOk M' w'):HR ah M' (h.put r e') w' where
 cv r' x hx:=by
  by_cases hr:r'=r
  ·subst hr;rw[Heap.get_put_same he hv]at hx;cases hx;exact hcvr
  ·rw[Heap.get_put_other hr]at hx;rw[hcv _ hr];exact H.cv _ _ hx
 dom r' x v hx hn:=by
  by_cases hr:r'=r
  ·subst hr;rw[Heap.get_put_same he hv]at hx;cases hx;exact hdom v hn
  ·rw[Heap.get_put_other hr]at hx;rw[hio _ hr]at hn;exact H.dom _ _ _ hx hn
 has r' x hx hb:=by
  by_cases hr:r'=r
  ·subst hr;rw[Heap.get_put_same he hv]at hx;cases hx;exact hhas hb
  ·rw[Heap.get_put_other hr]at hx;rw[hio _ hr];exact H.has _ _ hx hb
 out r' v hx:=by
  by_cases hr:r'=r
  ·subst hr;rw[Heap.get_put_same he hv]at hx;cases hx
  ·rw[Heap.get_put_other hr]at hx;rw[hio _ hr];exact H.out _ _ hx
 blk r' x b loc hx hb hl:=by
  by_cases hr:r'=r
  ·subst hr;rw[Heap.get_put_same he hv]at hx;cases hx;exact hblk b loc hb hl
  ·rw[Heap.get_put_other hr]at hx;rw[hio _ hr]at hl;obtain⟨c,t,lo,hi,B⟩:=H.blk _ _ _ _ hx hb hl;obtain⟨h1,h2⟩:=hheap _ _ _ hr hl;exact⟨c,t,lo,hi,⟨by rw[h1];exact B.heap,B.sz,B.size,B.free,B.lohi,B.fits,λq=>by rw[h2];exact B.ro q,λq=>by rw[h2];exact B.rw_ q,
    λi e' hi'=>⟨(B.cells i e' hi').1,λj x hj=>⟨((B.cells i e' hi').2 j x hj).1,by
     obtain⟨u,h3,h4⟩:=((B.cells i e' hi').2 j x hj).2;exact⟨u,h3,h4.mono le⟩⟩⟩⟩⟩
 inj r1 v1 l1 r2 v2 l2 h1 h2 hb:=by
  by_cases e1:r1=r
  ·by_cases e2:r2=r
   ·rw[e1,e2]
   ·subst e1;rw[hio _ e2]at h2;exact absurd hb (hinj _ _ _ _ _ e2 h1 h2)
  ·by_cases e2:r2=r
   ·subst e2;rw[hio _ e1]at h1;exact absurd hb.symm (hinj _ _ _ _ _ e1 h2 h1)
   ·rw[hio _ e1]at h1;rw[hio _ e2]at h2;exact H.inj _ _ _ _ _ _ h1 h2 hb
 rd:=hrd
theorem HR.live{M:Mp}{h:Heap}{w:World}{r:ao}{ver:Nat}{b:Blk}(H:HR ah M h w)(he:h.get r=some ⟨ver,some b⟩):
  ∃loc c t lo hi,M.io r ver=some loc/\BlkAt ah M w loc b c t lo hi:=by
 have h1:=H.has r _ he (by simp);cases hl:M.io r ver with
 |none=>exact absurd hl h1
 |some loc=>
  obtain⟨c,t,lo,hi,B⟩:=H.blk r _ b loc he rfl hl;exact⟨loc,c,t,lo,hi,rfl,B⟩
theorem HR.ver_le{M:Mp}{h:Heap}{w:World}{r:ao}{v:Nat}(H:HR ah M h w)(hio:M.io r v≠none):∃e,h.get r=some e/\v=e.ver/\e.blk≠none:=by
 cases he:h.get r with
 |none=>exact absurd (H.out r v he) hio
 |some e=>obtain⟨a,b⟩:=H.dom r e v he hio;exact⟨e,rfl,a,b⟩
theorem BlkAt.lt{M:Mp}{w:World}{loc:Bt}{b:Blk}{c:Array Value}{t lo hi:Nat}(B:BlkAt ah M w loc b c t lo hi):loc.b<w.heap.size:=by
 rcases NI loc.b w.heap.size with x|x
 ·exact x
 ·have:=B.heap;simp[OS x]at this
theorem HR.own_lt{M:Mp}{h:Heap}{w:World}(H:HR ah M h w){b:Nat}(ho:own M b):b<w.heap.size:=by
 obtain⟨r,v,loc,hl,rfl⟩:=ho;obtain⟨e,he,hv,hb⟩:=H.ver_le (r:=r) (v:=v) (by simp[hl]);cases hbl:e.blk with
 |none=>exact absurd hbl hb
 |some blk=>
  obtain⟨c,t,lo,hi,B⟩:=H.blk r e blk loc he hbl (by rw[<-hv];exact hl);exact B.lt
theorem RdOk.lt{M:Mp}{w:World}(H:RdOk M w){b:Nat}(h:M.rd b≠none):b<w.heap.size:=by
 cases hr:M.rd b with
 |none=>exact absurd hr h
 |some vs=>
  obtain⟨t,fz,hh⟩:=H b vs hr;rcases NI b w.heap.size with x|x
  ·exact x
  ·simp[OS x]at hh
theorem CellsAt.mono{M M':Mp}(le:M.le M'){c:Array Value}{base sz:Nat}{es:List PV}(h:CellsAt ah M c base sz es):CellsAt ah M' c base sz es:=
 λi e hi=>⟨(h i e hi).1,λj x hj=>⟨((h i e hi).2 j x hj).1,by
  obtain⟨u,h1,h2⟩:=((h i e hi).2 j x hj).2;exact⟨u,h1,h2.mono le⟩⟩⟩
def Mp.at(M:Mp)(r:ao)(v:Nat)(loc:Option Bt)(rd:RD):Mp:=
 {rd:=rd,io:=λr' v'=>if r'=r then(if v'=v then loc else none)else M.io r' v',cv:=λr'=>if r'=r then v else M.cv r'}
theorem HR.alloc{M:Mp}{h:Heap}{w:World}{s:Nat}{e:eN}(H:HR ah M h w)(he:h.get (.l s)=some e){b:Blk}{cs:Array Value}{t:TypeId}
  (hro:b.ro=false)(hsz:b.es.length*b.sz<=cs.size)(hbg:cs.size<=9223372036854775807*b.sz)(hc:CellsAt ah M cs 0 b.sz b.es):
  let M':=M.at (.l s) (e.ver+1) (some ⟨w.heap.size,0,b.sz,cs.size⟩) M.rd
  HR ah M' (h.put (.l s) ⟨e.ver+1,some b⟩) (w.alloc (.cells cs t))/\Stp M w M' (w.alloc (.cells cs t)):=by
 intro M';have hcv:M.cv (.l s)=e.ver:=H.cv _ _ he;have le:M.le M':=⟨.refl _,λr=>by
   show _<=(if r=.l s then _ else _);split
   ·rename_i hr;rw[hr,hcv];omega
   ·exact Ny _,λr v hv=>by
   show(if r=.l s then(if v=e.ver+1 then _ else none)else M.io r v)=_∨_;by_cases hr:r=.l s
   ·subst hr;rw[hcv]at hv;right;show(if(ao.l s)=.l s then(if v=e.ver+1 then _ else none)else M.io _ v)=none;rw[Nt rfl,Nw (by omega)]
   ·left;rw[Nw hr]⟩
 have hheap:∀k,k<w.heap.size->(w.alloc (.cells cs t)).heap[k]?=w.heap[k]?:=λk hk=>RowKit.Below.heap_alloc _ _ _ hk;have hnew:(w.alloc (.cells cs t)).heap[w.heap.size]?=some (.cells cs t):=by show(w.heap.push _)[w.heap.size]?=_;simp
 have hlt:∀r' v' loc',M.io r' v'=some loc'->loc'.b<w.heap.size:=λr' v' loc' hl=>H.own_lt (cX hl);have hio:∀r',r'≠ .l s->M'.io r'=M.io r':=λr' hr=>by funext v;show(if r'=.l s then _ else _)=_;rw[Nw hr]
 have hself:∀v,M'.io (.l s) v=if v=e.ver+1 then some ⟨w.heap.size,0,b.sz,cs.size⟩else none:=λv=>by show(if(ao.l s)=.l s then _ else _)=_;rw[Nt rfl]
 refine⟨H.upd he (by intro i hi;cases hi) le (λr' hr=>by show(if r'=.l s then _ else _)=_;rw[Nw hr]) hio (by show(if(ao.l s)=.l s then _ else _)=_;rw[Nt rfl]) ?_ ?_ ?_ ?_ ?_ ?_,?_⟩
 ·intro v hv;rw[hself]at hv;split at hv
  ·rename_i hv';exact⟨hv',by simp⟩
  ·exact absurd rfl hv
 ·intro _;rw[hself];simp
 ·intro b' loc hb hl;simp only[No]at hb;subst hb;rw[hself,Nt rfl]at hl;simp only[No]at hl;subst hl;refine⟨cs,t,0,0,⟨hnew,rfl,rfl,λk _=>by omega,⟨Ny _,λ_=>OF _,hbg⟩,by show 0+_<=_;omega,λq=>absurd q (by rw[hro];decide),λ_=>?_,?_⟩⟩
  ·show M.rd w.heap.size=none;cases hr:M.rd w.heap.size with
   |none=>rfl
   |some vs=>have:=H.rd.lt (b:=w.heap.size) (by simp[hr]);omega
  ·exact hc.mono le
 ·intro v loc r' v' loc' hr h1 h2;rw[hself]at h1;split at h1
  ·simp only[No]at h1;subst h1;have:=hlt _ _ _ h2;show w.heap.size≠_;omega
  ·cases h1
 ·intro r' v' loc' hr hl;exact⟨hheap _ (hlt _ _ _ hl),rfl⟩
 ·intro b' vs hb;have hb':M.rd b'=some vs:=hb;obtain⟨t',fz,hh⟩:=H.rd b' vs hb';exact⟨t',fz,by rw[hheap _ (H.rd.lt (by rw[hb'];simp))];exact hh⟩
 ·refine⟨⟨.refl _,rfl,rfl,rfl,by simp,λk hk _=>hheap k hk,λk hk=>?_,λk hk=>.inl hk⟩,le⟩;obtain⟨r,v,loc,hl,rfl⟩:=hk;by_cases hr:r=.l s
  ·subst hr;rw[hself]at hl;split at hl
   ·simp only[No]at hl;subst hl;exact .inr (Ny _)
   ·cases hl
  ·rw[hio _ hr]at hl;exact .inl (cX hl)
end
def jM(P:Program)(t:TypeId)(sz:Option Nat):Bool:=
 match P.underlying t,P.info? t with
 |some (.struct _),some i=>sz==some i.size
 |some (.array _ _),some i=>sz==some i.size
 |some _,some i=>sz==none&&i.size==1
 |_,_=>false
def ji(sz:Option Nat):Nat:=sz.getD 1
theorem ms{P:Program}{t:TypeId}{sz:Option Nat}(h:jM P t sz=true):
  ∃d i,P.underlying t=some d/\P.info? t=some i/\i.size=ji sz/\
   ((sz=none/\(∀fs,d≠ .struct fs)/\(∀n e,d≠ .array n e))∨(∃n,sz=some n/\((∃fs,d=.struct fs)∨(∃n e,d=.array n e)))):=by
 unfold jM at h;split at h
 ·rename_i fs i h1 h2;simp only[NX]at h;exact⟨_,i,h1,h2,by simp[h,ji],.inr ⟨_,h,.inl ⟨_,rfl⟩⟩⟩
 ·rename_i n e i h1 h2;simp only[NX]at h;exact⟨_,i,h1,h2,by simp[h,ji],.inr ⟨_,h,.inr ⟨_,_,rfl⟩⟩⟩
 ·rename_i d i h0 h00 h1 h2;simp only[Np,NX]at h;exact⟨d,i,h1,h2,by simp[h.1,h.2,ji],.inl ⟨h.1,λfs e=>h0 fs e,λn e e'=>h00 n e e'⟩⟩
 ·cases h
section
variable{P:Program}{w:World}
theorem bm{t:TypeId}{d:TypeDesc}(h:P.underlying t=some d):(Go.underlying t).run P w=.ok d w:=by
 simp[Go.underlying,h]
theorem p8{t:TypeId}{i:TypeInfo}(h:P.info? t=some i):(Go.typeInfo t).run P w=.ok i w:=by
 simp[Go.typeInfo,h]
theorem gF{t:TypeId}{i:TypeInfo}(h:P.info? t=some i):(Go.sizeOf t).run P w=.ok i.size w:=by
 simp[Go.sizeOf,p8 h]
theorem lR{t:TypeId}{sz:Option Nat}(h:jM P t sz=true):(Go.isAgg t).run P w=.ok sz.isSome w:=by
 obtain⟨d,i,h1,h2,h3,h4⟩:=ms h;rcases h4 with⟨rfl,ha,hb⟩|⟨n,rfl,⟨fs,rfl⟩|⟨n,e,rfl⟩⟩
 ·simp only[Go.isAgg,Sem.run_bind,bm h1,Result.andThen_ok];cases d with
  |struct fs=>exact absurd rfl (ha fs)
  |array n e=>exact absurd rfl (hb n e)
  |_=>rfl
 ·simp[Go.isAgg,bm h1]
 ·simp[Go.isAgg,bm h1]
theorem iF{t:TypeId}{sz:Option Nat}(h:jM P t sz=true):(Go.sizeOf t).run P w=.ok (ji sz) w:=by
 obtain⟨d,i,h1,h2,h3,h4⟩:=ms h;rw[gF h2,h3]
theorem mX(b o k:Nat):(⟨b,o,none⟩:Addr).add k=⟨b,o+k,none⟩:=by
 unfold Addr.add;split
 ·rename_i h;simp[]
 ·rfl
theorem fG{a:Addr}(h:a.spot=none)(k:Nat):a.add k=⟨a.block,a.off+k,none⟩:=by
 cases a;simp only at h;subst h;exact mX _ _ _
theorem gU{b o:Nat}{c:Array Value}{t:TypeId}{fz:Nat×Nat}(h:w.heap[b]?=some (.cells c t fz)):w.cell? ⟨b,o,none⟩=c[o]?:=by
 simp[World.cell?,h]
theorem r8{t:TypeId}{a:Addr}{u:Value}(h:jM P t none=true)(hc:w.cell? a=some u):(Go.loadVar t a).run P w=.ok u w:=by
 simp[Go.loadVar,lR h,hc]
theorem qZ{t:TypeId}{a:Addr}{n:Nat}{us:List Value}(h:jM P t (some n)=true)(hl:us.length=n)(hc:∀j v,us[j]?=some v->w.cell? (a.add j)=some v):
  (Go.loadVar t a).run P w=.ok (.agg us.toArray) w:=by
 subst hl;have:=run_loadCells_list (P:=P) w a us hc;simp[Go.loadVar,lR h,iF h,ji,this]
end
section
variable{ah:Nat->FuncId}{P:Program}{M:Mp}{w:World}{h:Heap}
theorem tF{cs:List PV}{o:Nat}{v:PV}(h:db cs o none=some v):cs[o]?=some v:=h
theorem tc{cs:List PV}{o n:Nat}{v:PV}(h:db cs o (some n)=some v):o+n<=cs.length/\v=.agg ((cs.drop o).take n):=by
 simp only[db]at h;by_cases hh:o+n<=cs.length
 ·rw[Nt hh]at h;exact⟨hh,(O7 h).symm⟩
 ·rw[Nw hh]at h;cases h
theorem qv{t:TypeId}{sz:Option Nat}(ht:jM P t sz=true){cs:List PV}{o:Nat}{v:PV}(hv:db cs o sz=some v){a:Addr}
  (us:Nat->Value)(hc:∀j x,cs[o+j]?=some x->w.cell? (a.add j)=some (us j))(hr:∀j x,cs[o+j]?=some x->VR ah M x (us j)):
  ∃u,(Go.loadVar t a).run P w=.ok u w/\VR ah M v u:=by
 cases sz with
 |none=>
  have h0:=tF hv;refine⟨us 0,r8 ht ?_,hr 0 v h0⟩;have:=hc 0 v h0;simpa[Addr.add]using this
 | some n=>
  obtain⟨hl,rfl⟩:=tc hv;have hex:∀j,j<n->∃x,cs[o+j]?=some x:=λj hj=>⟨cs[o+j],Ns (by omega)⟩;refine⟨_,qZ (us:=(List.range n).map us) ht (by simp) ?_,?_⟩
  ·intro j x hj;rw[NE]at hj;rcases NI j n with h1|h1
   ·rw[Ou h1]at hj;simp only[NM,No]at hj;obtain⟨y,hy⟩:=hex j h1;rw[hc j y hy,hj]
   ·rw[NA (by simpa using h1)]at hj;cases hj
  ·refine .agg _ _ (by simp;omega) ?_;intro i x u hi hu;rw[N7]at hi;split at hi
   ·rename_i hin;rw[N8]at hi;have:u=us i:=by
     simp only[O2,NE,Ou hin,NM,No]at hu;exact hu.symm
    rw[this];exact hr i x hi
   ·cases hi
theorem VR.of_lptr{cs:List PV}{c:Value}(h:VR ah M (.lptr cs) c):FR ah M.rd (.lptr cs) c:=by
 cases h with
 |fr h=>exact h
theorem wi{t:TypeId}{sz:Option Nat}(ht:jM P t sz=true){x v:PV}{h':Heap}(hx:(jn sz x).run h=some (v,h')){c:Value}(hc:VR ah M x c)
  (H:HR ah M h w):h'=h/\∃a,c=.pointer (some a)/\∃u,(Go.loadVar t a).run P w=.ok u w/\VR ah M v u:=by
 unfold jn at hx;split at hx
 ·rename_i r ver i o;obtain⟨b,h1,hb,hx⟩:=HM.run_bind_some hx;obtain⟨rfl,hg⟩:=aX hb;split at hx
  ·rename_i e he;obtain⟨hv,rfl⟩:=HM.run_ofO_some hx;refine⟨rfl,?_⟩;obtain⟨loc,ca,ty,lo,hi,hl,B⟩:=H.live hg;cases hc with
   |fr h=>cases h
   | ptr _ _ _ _ a' _ hl'=>
    have ha:=hl' loc hl;subst ha;refine⟨_,rfl,?_⟩;obtain⟨he1,he2⟩:=B.cells i e he;have hsz:=B.sz;refine qv ht hv (λj=>ca.getD (loc.base+i*loc.sz+o+j) undef) ?_ ?_
    ·intro j x hj;obtain⟨_,u,hu,_⟩:=he2 (o+j) x hj;rw[mX,gU B.heap,hsz];rw[show loc.base+i*b.sz+o+j=loc.base+i*b.sz+(o+j)by omega,hu];simp[hu]
    ·intro j x hj;obtain⟨_,u,hu,hr⟩:=he2 (o+j) x hj;rw[hsz,show loc.base+i*b.sz+o+j=loc.base+i*b.sz+(o+j)by omega];simpa[hu]using hr
  ·simp[HM.run]at hx
 ·rename_i cs;obtain⟨hv,rfl⟩:=HM.run_ofO_some hx;refine⟨rfl,?_⟩;have hf:=hc.of_lptr;cases hf with
  | lptr _ a us h1 h2 h3=>
   refine⟨a,rfl,qv ht hv us ?_ ?_⟩
   ·intro j x hj;rw[Oe]at hj;obtain⟨_,hs,vs,hrd,hu⟩:=h1 j x hj;obtain⟨ty,fz,hh⟩:=H.rd _ _ hrd;rw[fG hs,gU hh,hu]
   ·intro j x hj;rw[Oe]at hj;exact .fr (h2 j x hj)
 ·simp[HM.run]at hx
end
section
variable{ah:Nat->FuncId}{P:Program}{M:Mp}{w:World}{h:Heap}
theorem VR.int_inv{k:IntKind}{n:Int}{c:Value}(x:VR ah M (.int k n) c):c=.int k n:=by cases x with|fr x=>cases x;rfl
theorem VR.bool_inv{b:Bool}{c:Value}(x:VR ah M (.bool b) c):c=.bool b:=by cases x with|fr x=>cases x;rfl
theorem VR.str_inv{s:List UInt8}{c:Value}(x:VR ah M (.str s) c):c=.string ⟨s.toArray⟩:=by cases x with|fr x=>cases x;rfl
theorem VR.nils_inv{c:Value}(x:VR ah M .nils c):c=.slice none 0 0:=by cases x with|fr x=>cases x;rfl
theorem VR.nilp_inv{c:Value}(x:VR ah M .nilp c):c=.pointer none:=by cases x with|fr x=>cases x;rfl
theorem VR.nilfn_inv{c:Value}(x:VR ah M .nilfn c):c=.nilFunc:=by cases x with|fr x=>cases x;rfl
theorem VR.lst_inv{es:List PV}{c0:Bool}{c:Value}(x:VR ah M (.lst es c0) c):FR ah M.rd (.lst es c0) c:=by cases x with|fr x=>exact x
theorem VR.agg_inv{cs:List PV}{c:Value}(x:VR ah M (.agg cs) c):
  ∃vs,c=.agg vs/\cs.length=vs.size/\∀(i:Nat)(e:PV)(u:Value),cs[i]?=some e->vs[i]?=some u->VR ah M e u:=by
 cases x with
 |fr x=>cases x with|agg _ vs h1 h2=>exact⟨vs,rfl,h1,λi e u a b=>.fr (h2 i e u a b)⟩
 |agg _ vs h1 h2=>exact⟨vs,rfl,h1,h2⟩
theorem VR.tup_inv{cs:List PV}{c:Value}(x:VR ah M (.tup cs) c):
  ∃vs,c=.tuple vs/\cs.length=vs.size/\∀(i:Nat)(e:PV)(u:Value),cs[i]?=some e->vs[i]?=some u->VR ah M e u:=by
 cases x with
 |fr x=>cases x with|tup _ vs h1 h2=>exact⟨vs,rfl,h1,λi e u a b=>.fr (h2 i e u a b)⟩
 |tup _ vs h1 h2=>exact⟨vs,rfl,h1,h2⟩
theorem VR.fn_inv{f:Nat}{cs:List PV}{c:Value}(x:VR ah M (.fn f cs) c):
  ∃vs,c=.func (.func (ah f)) #[] vs/\cs.length=vs.size/\∀(i:Nat)(e:PV)(u:Value),cs[i]?=some e->vs[i]?=some u->VR ah M e u:=by
 cases x with
 |fr x=>cases x with|fn _=>exact⟨#[],rfl,rfl,λi e u a b=>by simp at a⟩
 |fn _ _ vs h1 h2=>exact⟨vs,rfl,h1,h2⟩
theorem VR.lptr_inv{cs:List PV}{c:Value}(x:VR ah M (.lptr cs) c):∃a,c=.pointer (some a):=by
 have:=x.of_lptr;cases this;exact⟨_,rfl⟩
theorem Ge{op:BinOp}{k k':IntKind}{a b:Int}{v:PV}(hv:a9 op k a k' b=some v)(xType:TypeId):
  ∃c,(Go.binOp op xType (.int k a) (.int k' b)).run P w=.ok c w/\VR ah M v c:=by
 unfold a9 at hv;split at hv
 ·split at hv
  ·cases hv
  ·rename_i hb;cases hv;exact⟨_,by simp[Go.binOp,Go.Op.shift,hb],.fr (.int _ _)⟩
 ·split at hv
  ·cases hv
  ·rename_i hb;cases hv;exact⟨_,by simp[Go.binOp,Go.Op.shift,hb],.fr (.int _ _)⟩
 ·split at hv
  ·cases hv
  ·rename_i h1 h2 hk;simp only[ne_eq,Decidable.not_not]at hk;subst hk;split at hv
   ·cases hv;exact⟨_,by simp[Go.binOp,Go.Op.intArith],.fr (.int _ _)⟩
   ·cases hv;exact⟨_,by simp[Go.binOp,Go.Op.intArith],.fr (.int _ _)⟩
   ·cases hv;exact⟨_,by simp[Go.binOp,Go.Op.intArith],.fr (.int _ _)⟩
   ·split at hv
    ·cases hv
    ·rename_i hb;cases hv;exact⟨_,by simp[Go.binOp,Go.Op.intDiv,hb],.fr (.int _ _)⟩
   ·split at hv
    ·cases hv
    ·rename_i hb;cases hv;exact⟨_,by simp[Go.binOp,Go.Op.intDiv,hb],.fr (.int _ _)⟩
   ·cases hv;exact⟨_,by simp[Go.binOp,Go.Op.intBits],.fr (.int _ _)⟩
   ·cases hv;exact⟨_,by simp[Go.binOp,Go.Op.intBits],.fr (.int _ _)⟩
   ·cases hv;exact⟨_,by simp[Go.binOp,Go.Op.intBits],.fr (.int _ _)⟩
   ·cases hv;exact⟨_,by simp[Go.binOp,Go.Op.intBits],.fr (.int _ _)⟩
   all_goals first
    |(cases hv;exact⟨_,by simp[Go.binOp,Go.Op.intCmp],.fr (.bool _)⟩)
    |cases hv
theorem iP{op:BinOp}{t:TypeId}{X Y:Operand}{a b:Value}(h:(∀u,a≠ .agg u)/\a≠ .nilIface):(Go.eqGuard op t X Y a b).run P w=.ok () w:=by
 unfold Go.eqGuard;cases op<;>simp
 all_goals
  cases a<;>simp_all
theorem Ir{op:BinOp}{x y v:PV}{a b:Value}(hv:bin op x y=some v)(hx:VR ah M x a)(hy:VR ah M y b)(xType:TypeId)(X Y:Operand):
  ∃c,((Go.eqGuard op xType X Y a b)>>= λ_=>Go.binOp op xType a b).run P w=.ok c w/\VR ah M v c:=by
 unfold bin at hv;split at hv
 ·have ha:=hx.int_inv;have hb:=hy.int_inv;subst ha;subst hb;obtain⟨c,h1,h2⟩:=Ge (P:=P) (w:=w) (ah:=ah) (M:=M) hv xType;exact⟨c,by rw[Sem.run_bind,iP ⟨by intro u;simp,by simp⟩];exact h1,h2⟩
 ·have ha:=hx.str_inv;have hb:=hy.str_inv;subst ha;subst hb;rw[Sem.run_bind,iP ⟨by intro u;simp,by simp⟩];split at hv
  ·cases hv;exact⟨_,by simp[Go.binOp,Go.Op.stringOp],.fr (.bool _)⟩
  ·cases hv;exact⟨_,by simp[Go.binOp,Go.Op.stringOp],.fr (.bool _)⟩
  ·split at hv
   ·rename_i s1 s2 _ hl;cases hv;refine⟨.string (⟨s1.toArray⟩++⟨s2.toArray⟩),?_,?_⟩
    ·have:¬(((⟨s1.toArray⟩:ByteArray).size+(⟨s2.toArray⟩:ByteArray).size:Nat):Int)>IntKind.i64.max:=by
      have e1:(⟨s1.toArray⟩:ByteArray).size=s1.length:=by simp[ByteArray.size]
      have e2:(⟨s2.toArray⟩:ByteArray).size=s2.length:=by simp[ByteArray.size]
      have e3:IntKind.i64.max=9223372036854775807:=by decide
      rw[e1,e2,e3];omega
     simp only[Go.binOp,Go.Op.stringOp,Result.andThen_ok];rw[Nw this];rfl
    ·have:(⟨s1.toArray⟩++⟨s2.toArray⟩:ByteArray)=⟨(s1++s2).toArray⟩:=by
      apply ByteArray.ext;simp
     rw[this];exact .fr (.str _)
   ·cases hv
  ·cases hv
 ·cases hv
theorem lO{t:TypeId}(ht:P.underlying t=some .bool)(d:Nat)(a b:Bool):(Op.equalIn (d+1) t (.bool a) (.bool b)).run P w=.ok (a==b) w:=by
 simp[Op.equalIn,bm ht]
def cB:Value->Bool
 |.slice none _ _=>true
 |.pointer none=>true
 |.nilFunc=>true
 |_=>false
theorem qq{t e:TypeId}(ht:P.underlying t=some (.slice e))(d:Nat){a b:Value}(ha:∃p l c,a=.slice p l c)(hb:∃p l c,b=.slice p l c)
  (hn:cB a=true∨cB b=true):(Op.equalIn (d+1) t a b).run P w=.ok (cB a&&cB b) w:=by
 obtain⟨p,l,c,rfl⟩:=ha;obtain⟨q,l',c',rfl⟩:=hb;cases p<;>cases q<;>simp[cB,Op.equalIn,bm ht]at hn⊢
theorem sk{t e:TypeId}(ht:P.underlying t=some (.pointer e))(d:Nat){a b:Value}(ha:∃p,a=.pointer p)(hb:∃p,b=.pointer p)
  (hn:cB a=true∨cB b=true):(Op.equalIn (d+1) t a b).run P w=.ok (cB a&&cB b) w:=by
 obtain⟨p,rfl⟩:=ha;obtain⟨q,rfl⟩:=hb;cases p<;>cases q<;>simp[cB,Op.equalIn,bm ht]at hn⊢
theorem qO{t:TypeId}{ps rs:Array TypeId}{v:Bool}(ht:P.underlying t=some (.func ps rs v))(d:Nat){a b:Value}(ha:a=.nilFunc∨∃f p q,a=.func f p q)(hb:b=.nilFunc∨∃f p q,b=.func f p q)
  (hn:cB a=true∨cB b=true):(Op.equalIn (d+1) t a b).run P w=.ok (cB a&&cB b) w:=by
 rcases ha with rfl|⟨f,p,q,rfl⟩<;>rcases hb with rfl|⟨f',p',q',rfl⟩<;>simp[cB,Op.equalIn,bm ht]at hn⊢
theorem ja{t:TypeId}{a b:Value}{neg r:Bool}(h:(Op.equalIn (9999+1) t a b).run P w=.ok r w)
  (hab:∀(o:BinOp),(o=.eql->Go.binOp o t a b=(Op.equalIn (9999+1) t a b>>= λr=>pure (.bool r)))/\(o=.neq->Go.binOp o t a b=(Op.equalIn (9999+1) t a b>>= λr=>pure (.bool !r)))):
  (Go.binOp (if neg then .neq else .eql) t a b).run P w=.ok (.bool (if neg then !r else r)) w:=by
 cases neg
 ·rw[Nw (by decide),(hab .eql).1 rfl,Sem.run_bind,h];rfl
 ·rw[Nt rfl,(hab .neq).2 rfl,Sem.run_bind,h];rfl
theorem HZ{neg:Bool}{x y v:PV}{a b:Value}(hv:eqb neg x y=some v)(hx:VR ah M x a)(hy:VR ah M y b){xType:TypeId}(ht:P.underlying xType=some .bool)
  (X Y:Operand):∃c,((Go.eqGuard (if neg then .neq else .eql) xType X Y a b)>>= λ_=>Go.binOp (if neg then .neq else .eql) xType a b).run P w=.ok c w/\VR ah M v c:=by
 unfold eqb at hv;split at hv
 ·rename_i p q;have ha:=hx.bool_inv;have hb:=hy.bool_inv;subst ha;subst hb;cases hv;rw[Sem.run_bind,iP ⟨by intro u;simp,by simp⟩];exact⟨_,ja (lO ht 9999 _ _) (λo=>⟨λe=>by subst e;rfl,λe=>by subst e;rfl⟩),.fr (.bool _)⟩
 ·cases hv
def sG(P:Program)(t:TypeId)(k:Nat):Bool:=
 match P.underlying t with
 |some (.slice _)=>k==0
 |some (.pointer _)=>k==1
 |some (.func _ _ _)=>decide (2<=k)
 |_=>false
theorem jQ{xType:TypeId}{a b:Value}{neg:Bool}{k:Nat}(hk:sG P xType k=true)
  (hab:(k=0/\(∃p l c,a=.slice p l c)/\(∃p l c,b=.slice p l c))∨(k=1/\(∃p,a=.pointer p)/\(∃p,b=.pointer p))∨
   (2<=k/\(a=.nilFunc∨∃f x y,a=.func f x y)/\(b=.nilFunc∨∃f x y,b=.func f x y)))(hn:cB a=true∨cB b=true)(X Y:Operand):
  ((Go.eqGuard (if neg then .neq else .eql) xType X Y a b)>>= λ_=>Go.binOp (if neg then .neq else .eql) xType a b).run P w=
   .ok (.bool (if neg then !(cB a&&cB b)else(cB a&&cB b))) w:=by
 unfold sG at hk;rw[Sem.run_bind,iP (by
  rcases hab with⟨_,⟨p,l,c,rfl⟩,_⟩|⟨_,⟨p,rfl⟩,_⟩|⟨_,rfl|⟨f,x,y,rfl⟩,_⟩<;>exact⟨by intro u;simp,by simp⟩)]
 split at hk
 ·rename_i e hu;have h0:k=0:=by simpa using hk
  subst h0;rcases hab with⟨_,⟨p,l,c,rfl⟩,⟨q,l',c',rfl⟩⟩|⟨h1,_⟩|⟨h1,_⟩
  ·exact ja (qq hu 9999 ⟨_,_,_,rfl⟩ ⟨_,_,_,rfl⟩ hn) (λo=>⟨λe=>by subst e;rfl,λe=>by subst e;rfl⟩)
  ·cases h1
  ·omega
 ·rename_i e hu;have h0:k=1:=by simpa using hk
  subst h0;rcases hab with⟨h1,_⟩|⟨_,⟨p,rfl⟩,⟨q,rfl⟩⟩|⟨h1,_⟩
  ·cases h1
  ·cases p<;>cases q<;>exact ja (sk hu 9999 ⟨_,rfl⟩ ⟨_,rfl⟩ hn) (λo=>⟨λe=>by subst e;rfl,λe=>by subst e;rfl⟩)
  ·omega
 ·rename_i p r v hu;have h0:2<=k:=by simpa using hk
  rcases hab with⟨h1,_⟩|⟨h1,_⟩|⟨_,h1,h2⟩
  ·omega
  ·omega
  ·have:=qO (P:=P) (w:=w) hu 9999 h1 h2 hn;refine ja this (λo=>?_);rcases h1 with rfl|⟨f,x,y,rfl⟩<;>rcases h2 with rfl|⟨f',x',y',rfl⟩<;>exact⟨λe=>by subst e;rfl,λe=>by subst e;rfl⟩
 ·cases hk
theorem B0{x:PV}{b:Bool}{c:Value}(h:Gr x=some b)(hx:VR ah M x c):(∃p l k,c=.slice p l k)/\cB c=b:=by
 unfold Gr at h;split at h
 ·cases h;have:=hx.nils_inv;subst this;exact⟨⟨_,_,_,rfl⟩,rfl⟩
 ·cases h;have:=hx.lst_inv;cases this;exact⟨⟨_,_,_,rfl⟩,rfl⟩
 ·cases h;cases hx with
  |fr x=>cases x
  |tok _ _ _ _ _ _ _ a cap=>exact⟨⟨_,_,_,rfl⟩,rfl⟩
 ·cases h
theorem B4{x:PV}{b:Bool}{c:Value}(h:AF x=some b)(hx:VR ah M x c):(∃p,c=.pointer p)/\cB c=b:=by
 unfold AF at h;split at h
 ·cases h;have:=hx.nilp_inv;subst this;exact⟨⟨_,rfl⟩,rfl⟩
 ·cases h;obtain⟨a,rfl⟩:=hx.lptr_inv;exact⟨⟨_,rfl⟩,rfl⟩
 ·cases h;cases hx with
  |fr x=>cases x
  |ptr _ _ _ _ a=>exact⟨⟨_,rfl⟩,rfl⟩
 ·cases h
theorem Bm{x:PV}{b:Bool}{c:Value}(h:Aq x=some b)(hx:VR ah M x c):(c=.nilFunc∨∃f p q,c=.func f p q)/\cB c=b:=by
 unfold Aq at h;split at h
 ·cases h;have:=hx.nilfn_inv;subst this;exact⟨.inl rfl,rfl⟩
 ·cases h;obtain⟨vs,rfl,_⟩:=hx.fn_inv;exact⟨.inr ⟨_,_,_,rfl⟩,rfl⟩
 ·cases h
theorem IW{k:Nat}{neg:Bool}{x y v:PV}{a b:Value}(hv:eqn k neg x y=some v)(hx:VR ah M x a)(hy:VR ah M y b){xType:TypeId}(ht:sG P xType k=true)
  (X Y:Operand):∃c,((Go.eqGuard (if neg then .neq else .eql) xType X Y a b)>>= λ_=>Go.binOp (if neg then .neq else .eql) xType a b).run P w=.ok c w/\VR ah M v c:=by
 unfold eqn at hv;split at hv
 ·split at hv
  ·simp only[NY]at hv;obtain⟨bb,h1,rfl⟩:=hv;obtain⟨hs,hn⟩:=B0 h1 hy;have ha:=hx.nils_inv;subst ha;exact⟨_,jQ ht (.inl ⟨rfl,⟨_,_,_,rfl⟩,hs⟩) (.inl rfl) X Y,by rw[hn];exact .fr (.bool _)⟩
  ·simp only[NY]at hv;obtain⟨bb,h1,rfl⟩:=hv;obtain⟨hs,hn⟩:=B0 h1 hx;have ha:=hy.nils_inv;subst ha;exact⟨_,jQ ht (.inl ⟨rfl,hs,⟨_,_,_,rfl⟩⟩) (.inr rfl) X Y,by rw[hn];simp[cB];exact .fr (.bool _)⟩
  ·cases hv
 ·split at hv
  ·simp only[NY]at hv;obtain⟨bb,h1,rfl⟩:=hv;obtain⟨hs,hn⟩:=B4 h1 hy;have ha:=hx.nilp_inv;subst ha;exact⟨_,jQ ht (.inr (.inl ⟨rfl,⟨_,rfl⟩,hs⟩)) (.inl rfl) X Y,by rw[hn];exact .fr (.bool _)⟩
  ·simp only[NY]at hv;obtain⟨bb,h1,rfl⟩:=hv;obtain⟨hs,hn⟩:=B4 h1 hx;have ha:=hy.nilp_inv;subst ha;exact⟨_,jQ ht (.inr (.inl ⟨rfl,hs,⟨_,rfl⟩⟩)) (.inr rfl) X Y,by rw[hn];simp[cB];exact .fr (.bool _)⟩
  ·cases hv
 ·rename_i h0 h1;have h2:2<=k:=by
   rcases k with _|_|k
   ·exact absurd rfl h0
   ·exact absurd rfl h1
   ·omega
  split at hv
  ·simp only[NY]at hv;obtain⟨bb,h1,rfl⟩:=hv;obtain⟨hs,hn⟩:=Bm h1 hy;have ha:=hx.nilfn_inv;subst ha;exact⟨_,jQ ht (.inr (.inr ⟨h2,.inl rfl,hs⟩)) (.inl rfl) X Y,by rw[hn];exact .fr (.bool _)⟩
  ·simp only[NY]at hv;obtain⟨bb,h1,rfl⟩:=hv;obtain⟨hs,hn⟩:=Bm h1 hx;have ha:=hy.nilfn_inv;subst ha;exact⟨_,jQ ht (.inr (.inr ⟨h2,hs,.inl rfl⟩)) (.inr rfl) X Y,by rw[hn];simp[cB];exact .fr (.bool _)⟩
  ·cases hv
theorem VR.tok_inv{r:ao}{ver sz off len room:Nat}{c0:Bool}{c:Value}(x:VR ah M (.tok r ver sz off len room c0) c):
  ∃a cap,c=.slice (some a) len cap/\ver<=M.cv r/\len<=room/\room<=cap/\(c0=true->cap=0)/\
   ∀loc,M.io r ver=some loc->loc.sz=sz/\(cap=0∨a=⟨loc.b,loc.base+off*sz,none⟩/\loc.base+off*sz+cap*sz<=loc.size):=by
 cases x with
 |fr x=>cases x
 |tok _ _ _ _ _ _ _ a cap hv h2 h3 h4 h5=>exact⟨a,cap,rfl,hv,h2,h3,h4,h5⟩
theorem VR.ptr_inv{r:ao}{ver i o:Nat}{c:Value}(x:VR ah M (.ptr r ver i o) c):
  ∃a,c=.pointer (some a)/\ver<=M.cv r/\∀loc,M.io r ver=some loc->a=⟨loc.b,loc.base+i*loc.sz+o,none⟩:=by
 cases x with
 |fr x=>cases x
 |ptr _ _ _ _ a hv h=>exact⟨a,rfl,hv,h⟩
end
section
variable{ah:Nat->FuncId}{P:Program}{M:Mp}{w:World}{h:Heap}
theorem EV{k:IntKind}{x v:PV}{c:Value}{h':Heap}(hv:(sM k x).run h=some (v,h'))(hx:VR ah M x c){src dst:TypeId}{d:TypeDesc}
  (hs:P.underlying src=some d)(ht:P.underlying dst=some (.int k)):h'=h/\∃u,(Go.convert src dst c).run P w=.ok u w/\VR ah M v u:=by
 unfold sM at hv;split at hv
 ·obtain⟨rfl,rfl⟩:=HM.run_ret_some hv;have:=hx.int_inv;subst this;refine⟨rfl,_,?_,.fr (.int _ _)⟩;unfold Go.convert;simp only[Sem.run_bind,bm hs,bm ht,Result.andThen_ok,Conv.intToInt,Sem.run_pure]
 ·simp[HM.run]at hv
theorem Li{op:UnOp}{x v:PV}{c:Value}(hv:un op x=some v)(hx:VR ah M x c):∃u,(Go.Op.unary op c).run P w=.ok u w/\VR ah M v u:=by
 unfold un at hv;split at hv
 ·cases hv;have:=hx.int_inv;subst this;exact⟨_,by simp[Op.unary,Op.intArith],.fr (.int _ _)⟩
 ·rename_i k n;have:=hx.int_inv;subst this;simp[a9]at hv;subst hv;exact⟨_,by simp[Op.unary,Op.intBits],.fr (.int _ _)⟩
 ·cases hv;have:=hx.bool_inv;subst this;exact⟨_,by simp[Op.unary],.fr (.bool _)⟩
 ·cases hv
theorem CG{v:PV}{n:Nat}{c:Value}(h:nM v=some n)(hc:VR ah M v c):∃k z,c=.int k z/\0<=z/\n=z.toNat:=by
 unfold nM at h;split at h
 ·rename_i k z;split at h
  ·rename_i hz;cases h;exact⟨k,z,hc.int_inv,hz,rfl⟩
  ·cases h
 ·cases h
inductive Cc (ah:Nat->FuncId) (M:Mp):Option PV->Option Value->Prop
 |none:Cc ah M none none
 |some {v:PV} {c:Value} (h:VR ah M v c):Cc ah M (some v) (some c)
theorem ce{v:PV}{n y:Nat}{c:Value}(h:nM v=some n)(hc:VR ah M v c)(hy:n<=y)(code:BoundsCode):
  (Instr.sliceBound c y code).run P w=.ok n w:=by
 obtain⟨k,z,rfl,h0,rfl⟩:=CG h hc;unfold Instr.sliceBound;simp only[Sem.run_bind,asIntOf,Sem.run_pure,Result.andThen_ok];rw[Nt ⟨h0,by omega⟩];rfl
def J5(mx hi:Option PV)(m cap:Nat):Prop:=match mx with|some v=>nM v=some m/\m<=cap/\hi≠none|none=>m=cap
theorem ec{isS:Bool}{len cap l hh m:Nat}{lo hi mx:Option PV}{clo chi cmx:Option Value}(hlo:Cc ah M lo clo)(hhi:Cc ah M hi chi)(hmx:Cc ah M mx cmx)
  (el:aG 0 lo=some l)(eh:aG len hi=some hh)(em:J5 mx hi m cap)
  (h1:l<=hh)(h2:hh<=m):(Instr.sliceBounds isS len cap clo chi cmx).run P w=.ok (l,hh,m) w:=by
 unfold Instr.sliceBounds;cases hmx with
 | none=>
  have em:m=cap:=em;subst em;cases hhi with
  |none=>
   simp[aG]at eh;subst eh;cases hlo with
   |none=>simp[aG]at el;subst el;simp
   |some hv=>simp only[aG]at el;simp[ce el hv h1]
  |some hv'=>
   simp only[aG]at eh;cases hlo with
   |none=>simp[aG]at el;subst el;simp[ce eh hv' h2]
   |some hv=>simp only[aG]at el;simp[ce el hv h1,ce eh hv' h2]
 | some hm=>
  obtain⟨e1,e2,e3⟩:_/\_/\_:=em;cases hhi with
  |none=>exact absurd rfl e3
  |some hv'=>
   simp only[aG]at eh;cases hlo with
   |none=>simp[aG]at el;subst el;simp[ce eh hv' h2,ce e1 hm e2]
   |some hv=>simp only[aG]at el;simp[ce el hv h1,ce eh hv' h2,ce e1 hm e2]
theorem Dj{rd:RD}{es:List PV}{sz esz:Nat}(h:kz es sz=true)(h3:∀(i:Nat)(e:PV),es[i]?=some e->e.cells.length=esz)(hne:es≠[]):esz=sz:=by
 cases es with
 |nil=>exact absurd rfl hne
 |cons e es=>have:=h3 0 e rfl;simp only[kz,NX]at h;omega
theorem FR.cut{rd:RD}{es:List PV}{c0 c0':Bool}{a:Option Addr}{n cap l hh m sz:Nat}(hf:FR ah rd (.lst es c0) (.slice a n cap))(hs:kz es sz=true)
  (h1:l<=hh)(h2:hh<=es.length)(h3:hh<=m)(h4:m<=cap)(hc:c0'=true->m-l=0):
  n=es.length/\FR ah rd (.lst ((es.drop l).take (hh-l)) c0') (.slice (if m=l then a else a.map (·.add (l*sz))) (hh-l) (m-l)):=by
 cases hf with
 | lst _ _ a _ esz us q1 q2 q3 q4 q5=>
  refine⟨rfl,?_⟩;have hlen:((es.drop l).take (hh-l)).length=hh-l:=by simp;omega
  have key:∀a',(l=0/\a'=a∨((es.drop l).take (hh-l))=[]∨a'=a.add (l*sz))->FR ah rd (.lst ((es.drop l).take (hh-l)) c0') (.slice (some a') (hh-l) (m-l)):=by
   intro a' ha';suffices hq:FR ah rd (.lst ((es.drop l).take (hh-l)) c0') (.slice (some a') ((es.drop l).take (hh-l)).length (m-l))by rw[hlen]at hq;exact hq
   have hget:∀(i:Nat)(e:PV),((es.drop l).take (hh-l))[i]?=some e->es[l+i]?=some e:=by
    intro i e hi;rw[N7]at hi;split at hi
    ·rw[N8]at hi;exact hi
    ·cases hi
   refine .lst _ c0' a' (m-l) esz (λi j=>us (l+i) j) (by rw[hlen];omega) hc (λi e hi=>q3 _ e (hget i e hi)) ?_ (λi e j c hi hj=>q5 _ e j c (hget i e hi) hj);intro i e j c hi hj;obtain⟨r1,r2,vs,r3,r4⟩:=q4 _ e j c (hget i e hi) hj;have hne:es≠[]:=by intro h0;rw[h0]at hi;simp at hi
   have hsz:=Dj (rd:=rd) hs q3 hne;refine⟨r1,?_⟩;rcases ha' with⟨h0,rfl⟩|h0|rfl
   ·subst h0;exact⟨r2,vs,r3,by rw[<-r4,Oe]⟩
   ·rw[h0]at hi;simp at hi
   ·rw[fG r2];refine⟨rfl,vs,r3,?_⟩;show vs[a.off+l*sz+(i*esz+j)]?=_;rw[<-r4,hsz,N6];congr 1;omega
  by_cases hm:m=l
  ·rw[Nt hm];refine key a (.inr (.inl ?_));have:hh-l=0:=by omega
   rw[this];rfl
  ·rw[Nw hm];exact key _ (.inr (.inr rfl))
theorem FR.lst_inv{rd:RD}{es:List PV}{c0:Bool}{c:Value}(h:FR ah rd (.lst es c0) c):∃a cap,c=.slice (some a) es.length cap/\es.length<=cap/\(c0=true->cap=0):=by
 cases h with|lst _ _ a cap esz us h1 h2=>exact⟨a,cap,rfl,h1,h2⟩
theorem yJ{sz:Nat}{x v:PV}{lo hi mx:Option PV}{c:Value}{clo chi cmx:Option Value}(hv:fV sz x lo hi mx=some v)(hx:VR ah M x c)
  (hlo:Cc ah M lo clo)(hhi:Cc ah M hi chi)(hmx:Cc ah M mx cmx){t:TypeId}
  (ht:(∃e i,P.underlying t=some (.slice e)/\P.info? e=some i/\i.size=sz)∨P.underlying t=some .string)
  (hk:∀(s:List UInt8),x=.str s->P.underlying t=some .string)(hk':(∀(s:List UInt8),x≠ .str s)->P.underlying t≠some .string):
  ∃u,(Instr.sliceAt t c clo chi cmx).run P w=.ok u w/\VR ah M v u:=by
 have hsl:(∃e i,P.underlying t=some (.slice e)/\P.info? e=some i/\i.size=sz)->∀a n cap l hh m,c=.slice a n cap->(Instr.sliceBounds true n cap clo chi cmx).run P w=.ok (l,hh,m) w->
   (Instr.sliceAt t c clo chi cmx).run P w=.ok (.slice (if m=l then a else a.map (·.add (l*sz))) (hh-l) (m-l)) w:=by
  rintro ⟨e,i,hu,hi',hsz⟩ a n cap l hh m rfl hb
  unfold Instr.sliceAt Instr.slice;simp only[Sem.run_bind,bm hu,Result.andThen_ok,hb,gF hi',hsz,Sem.run_pure]
 unfold fV at hv;by_cases hmh:(mx.isSome&&hi.isNone)=true
 ·rw[Nt hmh]at hv;cases hv
 rw[Nw hmh]at hv;have hmh':mx=none∨hi≠none:=by
  cases mx with
  |none=>exact .inl rfl
  |some m=>right;intro h0;rw[h0]at hmh;exact hmh rfl
 have mxn:∀{d m cap:Nat},aG d mx=some m->d<=cap->m<=d->∃m',J5 mx hi m' cap/\(mx.isSome=true->m'=m)/\(mx.isSome=false->m'=cap/\m=d):=by
  intro d m cap h1 h2 h3;cases mx with
  |none=>simp only[aG,No]at h1;exact⟨cap,rfl,by simp,λ_=>⟨rfl,h1.symm⟩⟩
  |some v=>exact⟨m,⟨h1,by omega,hmh'.resolve_left (by simp)⟩,λ_=>rfl,by simp⟩
 cases x with
 | nils=>
  have h0:=hx.nils_inv;have hty:=hk' (by intro s;simp);simp only[jW]at hv;cases e1:aG 0 lo with
  |none=>simp[e1]at hv
  |some l=>
  cases e2:aG 0 hi with
  |none=>simp[e1,e2]at hv
  |some hh=>
  cases e3:aG 0 mx with
  |none=>simp[e1,e2,e3]at hv
  |some m=>
  simp only[e1,e2,e3]at hv;by_cases hz:l=0/\hh=0/\m=0
  case neg=>rw[Nw hz]at hv;cases hv
  rw[Nt hz]at hv;obtain⟨rfl,rfl,rfl⟩:=hz;cases hv;rcases ht with ht|ht
  case inr=>exact absurd ht hty
  obtain⟨m',em,ea,eb⟩:=mxn e3 (Ny 0) (Ny 0);have hm0:m'=0:=by
   cases hms:mx.isSome with
   |true=>exact ea hms
   |false=>exact(eb hms).1
  subst hm0;exact⟨_,hsl ht none 0 0 0 0 0 h0 (ec hlo hhi hmx e1 e2 em (Ny _) (Ny _)),by simpa using .fr .nils⟩
 | str s=>
  have h0:=hx.str_inv;have hty:=hk s rfl;cases mx with
  |some m=>simp at hv
  |none=>
  simp only[O3,NL,Oc,qf]at hv;cases e1:aG 0 lo with
  |none=>simp[e1]at hv
  |some l=>
  cases e2:aG s.length hi with
  |none=>simp[e1,e2]at hv
  |some hh=>
  simp only[e1,e2]at hv;by_cases hc:l<=hh/\hh<=s.length
  case neg=>rw[Nw hc]at hv;cases hv
  rw[Nt hc]at hv;cases hv;have hb:=ec (P:=P) (w:=w) (isS:=false) (m:=s.length) (cap:=s.length) hlo hhi (Cc.none) e1 e2 rfl hc.1 hc.2;have hsz:(⟨s.toArray⟩:ByteArray).size=s.length:=by simp[ByteArray.size]
  cases hmx;refine⟨.string ((⟨s.toArray⟩:ByteArray).extract l hh),?_,?_⟩
  ·subst h0;unfold Instr.sliceAt Instr.slice;simp only[Sem.run_bind,bm hty,Result.andThen_ok,hsz,O3,NL,Oc,hb,Sem.run_pure]
  ·have:(⟨s.toArray⟩:ByteArray).extract l hh=⟨((s.drop l).take (hh-l)).toArray⟩:=by
    apply ByteArray.ext;simp[ByteArray.data_extract,List.extract_eq_take_drop]
   rw[this];exact .fr (.str _)
 | lst es c0=>
  have hf:=hx.lst_inv;have hty:=hk' (by intro s;simp);obtain⟨a,cap,rfl,hcap,hc0⟩:=hf.lst_inv;rcases ht with ht|ht
  case inr=>exact absurd ht hty
  simp only[cA]at hv;cases e1:aG 0 lo with
  |none=>simp[e1]at hv
  |some l=>
  cases e2:aG es.length hi with
  |none=>simp[e1,e2]at hv
  |some hh=>
  cases e3:aG es.length mx with
  |none=>simp[e1,e2,e3]at hv
  |some m=>
  simp only[e1,e2,e3]at hv;by_cases hc:l<=hh/\hh<=m/\m<=es.length/\kz es sz=true
  case neg=>rw[Nw hc]at hv;cases hv
  rw[Nt hc]at hv;cases hv;obtain⟨m',em,ea,eb⟩:=mxn e3 hcap hc.2.2.1;have hm':m<=m'/\m'<=cap:=by
   cases hms:mx.isSome with
   |true=>have:=ea hms;omega
   |false=>have:=eb hms;omega
  obtain⟨q1,q2⟩:=hf.cut (c0':=if mx.isSome then m==l else c0) (m:=m') hc.2.2.2 hc.1 (by omega) (by omega) hm'.2 (by
   cases hms:mx.isSome with
   |true=>intro h1;simp at h1;have:=ea hms;omega
   |false=>intro h1;simp at h1;have:=hc0 h1;omega)
  exact⟨_,hsl ht _ _ _ _ _ _ rfl (ec hlo hhi hmx e1 e2 em hc.1 (by omega)),.fr q2⟩
 | tok r ver z off len room c0=>
  by_cases hz:z=sz
  case neg=>simp only[Nw hz]at hv;cases hv
  simp only[Nt hz]at hv;subst hz;have hty:=hk' (by intro s;simp);obtain⟨a,cap,rfl,hver,h2,h3,h4,h5⟩:=hx.tok_inv;rcases ht with ht|ht
  case inr=>exact absurd ht hty
  have key:∀{l hh m:Nat}{c0':Bool}{rm:Nat},l<=hh->hh<=m->m<=cap->rm<=m-l->hh-l<=rm->(c0'=true->m-l=0)->
    VR ah M (.tok r ver z (off+l) (hh-l) rm c0') (.slice (if m=l then some a else(some a).map (·.add (l*z))) (hh-l) (m-l)):=by
   intro l hh m c0' rm k1 k2 k3 k4 k5 k6;by_cases hm:m=l
   ·rw[Nt hm];exact .tok _ _ _ _ _ _ _ _ _ hver k5 k4 k6 (λloc hl=>⟨(h5 loc hl).1,.inl (by omega)⟩)
   ·rw[Nw hm];refine .tok _ _ _ _ _ _ _ _ _ hver k5 k4 k6 (λloc hl=>⟨(h5 loc hl).1,.inr ?_⟩);obtain⟨hs,hcc⟩:=h5 loc hl;rcases hcc with hcc|⟨rfl,hb⟩
    ·omega
    ·show Addr.add _ _=_/\_;rw[mX];refine⟨by rw[N6,Pu],?_⟩;have e1:(off+l)*z+(m-l)*z=off*z+m*z:=by rw[<-N6,<-N6];congr 1;omega
     have e2:m*z<=cap*z:=NS _ k3;omega
  simp only[uN]at hv;cases e1:aG 0 lo with
  |none=>simp[e1]at hv
  |some l=>
  cases e2:aG len hi with
  |none=>simp[e1,e2]at hv
  |some hh=>
  cases e3:aG room mx with
  |none=>simp[e1,e2,e3]at hv
  |some m=>
  simp only[e1,e2,e3]at hv;by_cases hc:l<=hh/\hh<=m/\m<=room
  case neg=>rw[Nw hc]at hv;cases hv
  rw[Nt hc]at hv;cases hv;obtain⟨m',em,ea,eb⟩:=mxn e3 h3 hc.2.2;have hm':m<=m'/\m'<=cap:=by
   cases hms:mx.isSome with
   |true=>have:=ea hms;omega
   |false=>have:=eb hms;omega
  refine⟨_,hsl ht _ _ _ _ _ _ rfl (ec hlo hhi hmx e1 e2 em hc.1 (by omega)),key hc.1 (by omega) hm'.2 (by omega) (by omega) ?_⟩;cases hms:mx.isSome with
  |true=>intro h1;simp at h1;have:=ea hms;omega
  |false=>intro h1;simp at h1;have:=h4 h1;omega
 |_=>cases hv
end
section
variable{ah:Nat->FuncId}{P:Program}{M:Mp}{w:World}{h:Heap}
def kU(P:Program)(s:TypeId)(k off:Nat)(sz:Option Nat):Bool:=
 match P.underlying s with
 |some (.struct fs)=>match fs[k]? with
  |some f=>f.offset==off&&jM P f.type sz&&ji sz !=0
  |none=>false
 |_=>false
theorem ru{s:TypeId}{k off:Nat}{sz:Option Nat}(h:kU P s k off sz=true):
  ∃fs f,P.underlying s=some (.struct fs)/\fs[k]?=some f/\f.offset=off/\jM P f.type sz=true/\ji sz≠0:=by
 unfold kU at h;split at h
 ·rename_i fs hu;split at h
  ·rename_i f hf;simp only[Np,NX,bne_iff_ne]at h;exact⟨fs,f,hu,hf,h.1.1,h.1.2,h.2⟩
  ·cases h
 ·cases h
theorem FR.lptr_drop{rd:RD}{cs:List PV}{a:Addr}(hf:FR ah rd (.lptr cs) (.pointer (some a)))(off:Nat):FR ah rd (.lptr (cs.drop off)) (.pointer (some (a.add off))):=by
 cases hf with
 | lptr _ _ us h1 h2 h3=>
  refine .lptr _ _ (λj=>us (off+j)) ?_ ?_ ?_
  ·intro j c hj;rw[N8]at hj;obtain⟨q1,q2,vs,q3,q4⟩:=h1 _ _ hj;refine⟨q1,?_⟩;rw[fG h3];exact⟨rfl,vs,q3,by rw[<-q4];show vs[a.off+off+j]?=_;congr 1;omega⟩
  ·intro j c hj;rw[N8]at hj;exact h2 _ _ hj
  ·rw[fG h3]
theorem VR.at_off{x v:PV}{off:Nat}{c:Value}(hv:ba x off=some v)(hx:VR ah M x c):∃a,c=.pointer (some a)/\VR ah M v (.pointer (some (a.add off))):=by
 unfold ba at hv;split at hv
 ·cases hv;obtain⟨a,rfl,h1,h2⟩:=hx.ptr_inv;refine⟨a,rfl,.ptr _ _ _ _ _ h1 (λloc hl=>?_)⟩;rw[h2 loc hl,mX,Pu]
 ·cases hv;have hf:=hx.of_lptr;obtain⟨a,rfl⟩:=hx.lptr_inv;exact⟨a,rfl,.fr (hf.lptr_drop off)⟩
 ·cases hv
theorem xa{x v:PV}{off k:Nat}{c:Value}{s:TypeId}{sz:Option Nat}(hv:ba x off=some v)(hx:VR ah M x c)(ht:kU P s k off sz=true):
  ∃u,(Instr.fieldAt s c k).run P w=.ok u w/\VR ah M v u:=by
 obtain⟨a,rfl,hr⟩:=VR.at_off hv hx;obtain⟨fs,f,h1,h2,h3,h4,h5⟩:=ru ht;refine⟨_,?_,hr⟩;unfold Instr.fieldAt;simp only[Sem.run_bind,bm h1,Result.andThen_ok,h2,Instr.sureAddr,Sem.run_pure,fieldPlace,iF h4];rw[Nw h5,h3];rfl
theorem Df{n sz:Nat}{x i v:PV}{c ci:Value}{t:TypeId}(hv:iZ n sz x i=some v)(hx:VR ah M x c)(hi:VR ah M i ci)
  (ht:∃e inf,P.underlying t=some (.array n e)/\P.info? e=some inf/\inf.size=sz):∃u,(Instr.indexAt t c ci).run P w=.ok u w/\VR ah M v u:=by
 unfold iZ at hv;split at hv
 ·rename_i k j;have:=hi.int_inv;subst this;split at hv
  ·rename_i hj;obtain⟨a,rfl,hr⟩:=VR.at_off hv hx;obtain⟨e,inf,h1,h2,h3⟩:=ht;refine⟨_,?_,hr⟩;unfold Instr.indexAt;simp only[asIntOf,Sem.run_bind,Sem.run_pure,Result.andThen_ok,bm h1,Instr.sureAddr,Nt hj,gF h2,h3]
  ·cases hv
 ·cases hv
theorem xz{sz:Nat}{x i v:PV}{c ci:Value}{t:TypeId}(hv:au sz x i=some v)(hx:VR ah M x c)(hi:VR ah M i ci)
  (ht:∃e inf,P.underlying t=some (.slice e)/\P.info? e=some inf/\inf.size=sz)(hs0:0<sz):∃u,(Instr.indexAt t c ci).run P w=.ok u w/\VR ah M v u:=by
 obtain⟨e,inf,h1,h2,h3⟩:=ht;unfold au at hv;split at hv
 ·rename_i k j;have:=hi.int_inv;subst this;have run:∀(a:Addr)(len cap:Nat),c=.slice (some a) len cap->0<=j->j<len->(Instr.indexAt t c (.int k j)).run P w=.ok (.pointer (some (a.add (j.toNat*sz)))) w:=by
   rintro a len cap rfl q1 q2
   unfold Instr.indexAt;simp only[asIntOf,Sem.run_bind,Sem.run_pure,Result.andThen_ok,bm h1,Nt (And.intro q1 q2),gF h2,h3]
  split at hv
  ·rename_i r ver z off len room c0;split at hv
   ·rename_i hc;obtain⟨hz,q1,q2⟩:=hc;cases hv;obtain⟨a,cap,rfl,hver,k2,k3,k4,k5⟩:=hx.tok_inv;refine⟨_,run a len cap rfl q1 q2,.ptr _ _ _ _ _ hver (λloc hl=>?_)⟩;obtain⟨e1,e2⟩:=k5 loc hl;rcases e2 with e2|⟨rfl,e2⟩
    ·omega
    ·rw[mX,e1,hz,N6];congr 1;omega
   ·cases hv
  ·rename_i es c0;split at hv
   ·rename_i hc;obtain⟨q1,q2⟩:=hc;split at hv
    ·rename_i el hel;split at hv
     ·rename_i hsz;cases hv;have hf:=hx.lst_inv;cases hf with
      | lst _ _ a cap esz us r1 r2 r3 r4 r5=>
       refine⟨_,run a _ _ rfl q1 q2,.fr (.lptr _ _ (us j.toNat) ?_ (λj' c hj=>r5 _ _ _ _ hel hj) ?_)⟩
       ·intro j' c hj;obtain⟨s1,s2,vs,s3,s4⟩:=r4 _ _ _ _ hel hj;refine⟨s1,?_⟩;rw[fG s2];refine⟨rfl,vs,s3,?_⟩;have:esz=sz:=by rw[<-r3 _ _ hel,hsz]
        rw[<-s4,this];show vs[a.off+j.toNat*sz+j']?=_;congr 1;omega
       ·have hne:∃c,el.cells[0]?=some c∨el.cells=[]:=by
         cases el.cells with
         |nil=>exact⟨.junk,.inr rfl⟩
         |cons y ys=>exact⟨y,.inl rfl⟩
        obtain⟨c,hc|hc⟩:=hne
        ·obtain⟨s1,s2,_⟩:=r4 _ _ _ _ hel hc;rw[fG s2]
        ·rw[hc]at hsz;simp at hsz;omega
     ·cases hv
    ·cases hv
   ·cases hv
  ·cases hv
 ·cases hv
theorem DV{sz:Option Nat}{x v:PV}{off k:Nat}{c:Value}{s:TypeId}{h':Heap}(hv:(mq sz x off).run h=some (v,h'))(hx:VR ah M x c)(ht:kU P s k off sz=true):
  h'=h/\∃u,(Instr.field s c k).run P w=.ok u w/\VR ah M v u:=by
 unfold mq at hv;split at hv
 ·rename_i cs;obtain⟨hl,rfl⟩:=HM.run_ofO_some hv;refine⟨rfl,?_⟩;obtain⟨vs,rfl,q1,q2⟩:=hx.agg_inv;obtain⟨fs,f,h1,h2,h3,h4,h5⟩:=ru ht;unfold Instr.field;simp only[Sem.run_bind,bm h1,Result.andThen_ok,h2,asAgg,Sem.run_pure,part,lR h4];cases sz with
  | none=>
   have h0:=tF hl;have hlt:off<vs.size:=by
    rw[<-q1];rcases NI off cs.length with z|z
    ·exact z
    ·rw[NA z]at h0;cases h0
   have hu:vs[f.offset]?=some vs[off]:=by rw[h3,NK hlt]
   exact⟨vs[off],by simp[hu],q2 _ _ _ h0 (NK hlt)⟩
  | some n=>
   obtain⟨hb,rfl⟩:=tc hl;refine⟨.agg (vs.extract off (off+n)),by simp[iF h4,ji,h3],.agg _ _ (by simp;omega) ?_⟩;intro i y u hi hu;rw[N7]at hi;split at hi
   ·rename_i hin;rw[N8]at hi;rw[Array.getElem?_extract]at hu;split at hu
    ·exact q2 _ _ _ hi hu
    ·cases hu
   ·cases hi
 ·simp[HM.run]at hv
theorem Ad{x v:PV}{i:Nat}{c:Value}{h':Heap}(hv:(oQ x i).run h=some (v,h'))(hx:VR ah M x c):h'=h/\∃u,(Instr.extract c i).run P w=.ok u w/\VR ah M v u:=by
 unfold oQ at hv;split at hv
 ·rename_i cs;obtain⟨hl,rfl⟩:=HM.run_ofO_some hv;refine⟨rfl,?_⟩;obtain⟨vs,rfl,q1,q2⟩:=hx.tup_inv;have hlt:i<vs.size:=by
   rw[<-q1];rcases NI i cs.length with z|z
   ·exact z
   ·rw[NA z]at hl;cases hl
  exact⟨vs[i],by simp[Instr.extract,NK hlt],q2 _ _ _ hl (NK hlt)⟩
 ·simp[HM.run]at hv
theorem Ia{x v:PV}{c:Value}{t ty:TypeId}(hv:vU x=some v)(hx:VR ah M x c){e:TypeId}(hu:P.underlying t=some (.slice e)):
  ∃u,(Builtin.len_ #[t] ty #[c]).run P w=.ok u w/\VR ah M v u:=by
 unfold vU at hv;split at hv
 ·cases hv;have:=hx.nils_inv;subst this;exact⟨_,by simp[Builtin.len_,bm hu,goInt],.fr (.int _ _)⟩
 ·rename_i es c0;cases hv;obtain⟨a,cap,rfl,_⟩:=hx.lst_inv.lst_inv;exact⟨_,by simp[Builtin.len_,bm hu,goInt],.fr (.int _ _)⟩
 ·cases hv;obtain⟨a,cap,rfl,_⟩:=hx.tok_inv;exact⟨_,by simp[Builtin.len_,bm hu,goInt],.fr (.int _ _)⟩
 ·cases hv
theorem Ft{b:Bool}:∀(ys:List PV)(us:List Value){x v:PV}{c:Value},lU b x ys=some v->VR ah M x c->ys.length=us.length->(∀(i:Nat)(e:PV)(u:Value),ys[i]?=some e->us[i]?=some u->VR ah M e u)->
  ∃u,(us.foldlM (if b then Builtin.max2 else Builtin.min2) c).run P w=.ok u w/\VR ah M v u
 |[],us,x,v,c,hv,hx,hl,_=>by
  cases us with
  |nil=>cases hv;exact⟨c,rfl,hx⟩
  |cons u us=>simp at hl
 | y::ys,us,x,v,c,hv,hx,hl,hr=>by
  cases us with
  |nil=>simp at hl
  | cons u us=>
   simp only[lU]at hv;split at hv
   case h_2=>cases hv
   rename_i z hz;unfold xo at hz;split at hz
   case h_2=>cases hz
   rename_i k n k' m;cases hz;have h1:=hx.int_inv;subst h1;have h2:=(hr 0 _ _ rfl rfl).int_inv;subst h2;obtain⟨r,e1,e2⟩:=Ft ys us (c:=.int k (if b then(if m>n then m else n)else(if m<n then m else n))) hv (.fr (.int _ _)) (by simpa using hl) (λi e u hi hu=>hr (i+1) e u (by simpa using hi) (by simpa using hu));refine⟨r,?_,e2⟩;rw[List.foldlM_cons,Sem.run_bind];have:((if b then Builtin.max2 else Builtin.min2) (.int k n) (.int k' m)).run P w=.ok (.int k (if b then(if m>n then m else n)else(if m<n then m else n))) w:=by
    cases b<;>rfl
   rw[this];exact e1
theorem FP{x i v:PV}{c d:Value}{t:TypeId}(hv:Ac x i=some v)(hx:VR ah M x c)(hi:VR ah M i d)(hu:P.underlying t=some .string):
  ∃u,(Instr.index t c d).run P w=.ok u w/\VR ah M v u:=by
 unfold Ac at hv;split at hv
 case h_2=>cases hv
 rename_i s k n;by_cases h0:0<=n
 case neg=>rw[Nw h0]at hv;cases hv
 rw[Nt h0]at hv;split at hv
 case h_2=>cases hv
 rename_i b hb;cases hv;have h1:=hx.str_inv;subst h1;have h2:=hi.int_inv;subst h2;refine⟨.int .u8 b.toNat,?_,.fr (.int _ _)⟩;have hg:(⟨s.toArray⟩:ByteArray)[n.toNat]?=some b:=by
  have hlt:n.toNat<s.length:=by
   rcases NI n.toNat s.length with z|z
   ·exact z
   ·rw[NA z]at hb;cases hb
  rw[Ns hlt]at hb;have hsz:n.toNat<(⟨s.toArray⟩:ByteArray).size:=by simpa[ByteArray.size]using hlt
  rw[getElem?_pos (⟨s.toArray⟩:ByteArray) n.toNat hsz];rw[<-hb];rfl
 simp[Instr.index,bm hu,h0,hg,asIntOf]
theorem Hc{x v:PV}{c:Value}{t ty:TypeId}(hv:mK x=some v)(hx:VR ah M x c)(hu:P.underlying t=some .string):
  ∃u,(Builtin.len_ #[t] ty #[c]).run P w=.ok u w/\VR ah M v u:=by
 unfold mK at hv;split at hv
 ·rename_i s;cases hv;have:=hx.str_inv;subst this;refine⟨.int .i64 s.length,?_,.fr (.int _ _)⟩;have hsz:(⟨s.toArray⟩:ByteArray).size=s.length:=by simp[ByteArray.size]
  simp[Builtin.len_,bm hu,goInt,hsz]
 ·cases hv
end
section
variable{ah:Nat->FuncId}{P:Program}{M:Mp}{w:World}{h:Heap}
theorem VR.fits_cells{v:PV}{sz:Option Nat}{c:Value}(hf:v.fits sz=true)(hx:VR ah M v c):
  c.cells.size=ji sz/\v.cells.length=ji sz/\∀(j:Nat)(x:PV),v.cells[j]?=some x->∃u,c.cells[j]?=some u/\VR ah M x u:=by
 cases sz with
 | none=>
  have one:v.cells=[v]/\c.cells= #[c]:=by
   cases hx with
   |fr hx=>cases hx<;>first|exact⟨rfl,rfl⟩|(simp[PV.fits]at hf;done)
   |junk=>simp[PV.fits]at hf
   |tok=>exact⟨rfl,rfl⟩
   |ptr=>exact⟨rfl,rfl⟩
   |agg=>simp[PV.fits]at hf
   |tup=>simp[PV.fits]at hf
   |fn=>exact⟨rfl,rfl⟩
  rw[one.1,one.2];refine⟨rfl,rfl,λj x hj=>?_⟩;cases j with
  |zero=>cases hj;exact⟨c,rfl,hx⟩
  |succ j=>cases hj
 | some n=>
  cases v with
  | agg cs=>
   obtain⟨vs,rfl,q1,q2⟩:=hx.agg_inv;simp only[PV.fits,NX]at hf;refine⟨by show vs.size=n;omega,hf,λj x hj=>?_⟩;have hlt:j<vs.size:=by
    rw[<-q1];rcases NI j cs.length with z|z
    ·exact z
    ·have hj':cs[j]?=some x:=hj;rw[NA z]at hj';cases hj'
   exact⟨vs[j],NK hlt,q2 _ _ _ hj (NK hlt)⟩
  |_=>simp[PV.fits]at hf
theorem tg(off:Nat):∀(l:List Value)(i:Nat)(A:Array Value),
  ((l.zipIdx i).foldl (λcs p=>cs.setIfInBounds (off+p.2) p.1) A).size=A.size/\
  (off+i+l.length<=A.size->∀k,((l.zipIdx i).foldl (λcs p=>cs.setIfInBounds (off+p.2) p.1) A)[k]?=if off+i<=k/\k<off+i+l.length then l[k-(off+i)]? else A[k]?)
 |[],i,A=>⟨rfl,λ_ k=>by rw[Nw (by simp)];rfl⟩
 | x::l,i,A=>by
  obtain⟨h1,h2⟩:=tg off l (i+1) (A.setIfInBounds (off+i) x);simp only[List.zipIdx_cons,List.foldl_cons,NW];refine⟨by rw[h1];simp,λhb k=>?_⟩;rw[h2 (by rw[Array.size_setIfInBounds];omega)];by_cases hk:off+i<=k/\k<off+i+(l.length+1)
  ·rw[Nt hk];by_cases hk':off+(i+1)<=k/\k<off+(i+1)+l.length
   ·rw[Nt hk'];have:k-(off+i)=(k-(off+(i+1)))+1:=by omega
    rw[this];rfl
   ·rw[Nw hk'];have:k=off+i:=by omega
    subst this;rw[Nat.sub_self,Ot (by omega)];rfl
  ·rw[Nw hk,Nw (by omega)];exact Oq (by omega)
inductive pz (ah:Nat->FuncId) (M:Mp) (place:Nat->Option (Nat×Nat)):List (Nat×Option Nat×PV)->List (Nat×Value)->Prop
 |nil:pz ah M place [] []
 | cons (off:Nat) (sz:Option Nat) (v:PV) (i:Nat) (c:Value) (ps:List (Nat×Option Nat×PV)) (cs:List (Nat×Value)) (h:VR ah M v c) (hp:place i=some (off,ji sz))
   (hr:pz ah M place ps cs):pz ah M place ((off,sz,v)::ps) ((i,c)::cs)
theorem B8{place:Nat->Option (Nat×Nat)}:∀{ps:List (Nat×Option Nat×PV)}{cs:List (Nat×Value)},pz ah M place ps cs->∀{z r:List PV}{Z:Array Value},
  kw z ps=some r->z.length=Z.size->(∀(i:Nat)(e:PV)(u:Value),z[i]?=some e->Z[i]?=some u->VR ah M e u)->
  ∃R,Instr.fill place Z cs=some R/\r.length=R.size/\∀(i:Nat)(e:PV)(u:Value),r[i]?=some e->R[i]?=some u->VR ah M e u:=by
 intro ps cs hp;induction hp with
 |nil=>intro z r Z hf hl hz;simp[kw]at hf;subst hf;exact⟨Z,rfl,hl,hz⟩
 | cons off sz v i c ps cs hv hpl _ ih=>
  intro z r Z hf hl hz;simp only[kw]at hf;by_cases hc:v.fits sz=true/\off+v.cells.length<=z.length
  case neg=>rw[Nw hc]at hf;cases hf
  rw[Nt hc]at hf;obtain⟨q1,q2,q3⟩:=VR.fits_cells hc.1 hv;simp only[Instr.fill,hpl];have hno:¬((decide (c.cells.size≠ji sz)||decide (off+c.cells.size>Z.size))=true):=by
   simp only[OH,NU,not_or,Decidable.not_not];have:=hc.2;refine⟨q1,?_⟩;omega
  rw[Nw hno];have hfold:=tg off c.cells.toList 0 Z;have hfe:c.cells.zipIdx.foldl (λcs(p:Value×Nat)=>cs.setIfInBounds (off+p.2) p.1) Z=(c.cells.toList.zipIdx 0).foldl (λcs p=>cs.setIfInBounds (off+p.2) p.1) Z:=by
   rw[<-Array.foldl_toList];simp
  have hget:=hfold.2 (by have:=hc.2;simp;omega);have hfe':(c.cells.zipIdx.foldl (λcs(x:Value×Nat)=>match x with|(c,j)=>cs.setIfInBounds (off+j) c) Z)=(c.cells.toList.zipIdx 0).foldl (λcs p=>cs.setIfInBounds (off+p.2) p.1) Z:=hfe;rw[hfe'];refine ih hf ?_ ?_
  ·rw[hfold.1];simp;have:=hc.2;omega
  ·intro k e u hk hu;rw[hget k]at hu;simp only[OI,OZ]at hu;have hb:=hc.2;by_cases h1:off<=k/\k<off+c.cells.size
   ·rw[Nt h1]at hu;rw[Ol,NH (by simp;omega)]at hk;simp only[NP]at hk;rw[NN (by omega)]at hk;have e1:k-min off z.length=k-off:=by omega
    rw[e1]at hk;obtain⟨u',hu',hr⟩:=q3 _ _ hk;have:u=u':=by
     rw[OU]at hu;rw[hu']at hu;exact(O7 hu).symm
    rw[this];exact hr
   ·rw[Nw h1]at hu;refine hz k e u ?_ hu;rw[<-hk];rcases NI k off with h2|h2
    ·rw[Ol,NN (by simp;omega),N7,Nt h2]
    ·rw[Ol,NH (by simp;omega),NH (by simp;omega),N8];congr 1;simp;omega
def je:Nat->PV->Value->Bool
 |0,_,_=>false
 |n+1,v,c=>match v,c with
  |.int k a,.int k' b=>k==k'&&a==b
  |.bool a,.bool b=>a==b
  |.str s,.string b=>s==b.toList
  |.nils,.slice none 0 0=>true
  |.nilp,.pointer none=>true
  |.nilfn,.nilFunc=>true
  |.agg cs,.agg vs=>cs.length==vs.size&&(cs.zip vs.toList).all λp=>je n p.1 p.2
  |.tup cs,.tuple vs=>cs.length==vs.size&&(cs.zip vs.toList).all λp=>je n p.1 p.2
  |_,_=>false
theorem oe{rd:RD}:∀(n:Nat){v:PV}{c:Value},je n v c=true->FR ah rd v c
 |0,v,c,h=>by simp[je]at h
 | n+1,v,c,h=>by
  have many:∀(cs:List PV)(vs:Array Value),(cs.length==vs.size&&(cs.zip vs.toList).all λp=>je n p.1 p.2)=true->
    cs.length=vs.size/\∀(i:Nat)(e:PV)(u:Value),cs[i]?=some e->vs[i]?=some u->FR ah rd e u:=by
   intro cs vs h;simp only[Np,NX,Og]at h;refine⟨h.1,λi e u h1 h2=>oe n (h.2 (e,u) ?_)⟩;rw[List.mem_iff_getElem?];refine⟨i,?_⟩;rw[List.getElem?_zip_eq_some];exact⟨h1,by rw[OU];exact h2⟩
  unfold je at h;split at h
  ·simp only[Np,NX]at h;obtain⟨rfl,rfl⟩:=h;exact .int _ _
  ·simp only[NX]at h;subst h;exact .bool _
  ·rename_i s b;simp only[NX]at h;subst h;rw[ByteArray.toList_eq];have:(Value.string b)=.string ⟨b.data.toList.toArray⟩:=by cases b;simp
   rw[this];exact .str _
  ·exact .nils
  ·exact .nilp
  ·exact .nilfn
  ·obtain⟨h1,h2⟩:=many _ _ h;exact .agg _ _ h1 h2
  ·obtain⟨h1,h2⟩:=many _ _ h;exact .tup _ _ h1 h2
  ·cases h
def z6(P:Program)(t:TypeId):Option (Nat->Option (Nat×Nat)):=
 match P.underlying t with
 |some (.array _ e)=>match P.info? e with
  |some ie=>some λi=>some (i*ie.size,ie.size)
  |none=>none
 |some (.struct fields)=>match fields.toList.mapM (λf=>(P.info? f.type).map λi=>(f.offset,i.size))with
  |some pl=>some λi=>pl.toArray[i]?
  |none=>none
 |_=>none
def lG(P:Program)(t:TypeId)(z:PV):Bool:=
 match P.info? t with
 |some i=>match i.zero with
  |some v=>je 20 z v
  |none=>false
 |none=>false
theorem kf{t:TypeId}{z:PV}(h:lG P t z=true):∃i v,P.info? t=some i/\i.zero=some v/\∀rd,FR ah rd z v:=by
 unfold lG at h;split at h
 ·rename_i i hi;split at h
  ·rename_i v hv;exact⟨i,v,hi,hv,λrd=>oe 20 h⟩
  ·cases h
 ·cases h
theorem EK{t:TypeId}{z:List PV}{ps:List (Nat×Option Nat×PV)}{cs:List (Nat×Value)}{pl:Nat->Option (Nat×Nat)}{v:PV}{h':Heap}
  (hv:(sH z ps).run h=some (v,h'))(hz:lG P t (.agg z)=true)(hpl:z6 P t=some pl)(hp:pz ah M pl ps cs):
  h'=h/\∃u,(Instr.build t cs.toArray).run P w=.ok u w/\VR ah M v u:=by
 unfold sH at hv;cases hf:kw z ps with
 |none=>simp[hf,HM.run]at hv
 | some r=>
  simp only[hf]at hv;obtain⟨rfl,rfl⟩:=HM.run_ret_some hv;refine⟨rfl,?_⟩;obtain⟨i,zv,hi,hzv,hfr⟩:=kf (ah:=ah) hz;have hfr':=hfr M.rd;cases hfr' with
  | agg _ vs q1 q2=>
   obtain⟨R,hR,r1,r2⟩:=B8 hp hf q1 (λi e u a b=>.fr (q2 i e u a b));refine⟨.agg R,run_build w t _ R ?_,.agg _ _ r1 r2⟩;unfold z6 at hpl;unfold Program.built;rw[hi];split at hpl
   ·rename_i n e hu;split at hpl
    ·rename_i ie hie;simp only[No]at hpl;subst hpl;simp only[hu,hzv,hie];exact hR
    ·cases hpl
   ·rename_i fields hu;split at hpl
    ·rename_i pl' hm;simp only[No]at hpl;subst hpl;simp only[hu,hzv,hm];exact hR
    ·cases hpl
   ·cases hpl
end
def gO(P:Program)(t:TypeId):Nat:=match P.info? t with|some i=>i.size|none=>0
def n7(P:Program)(ft:TypeId->List Bool->Bool)(ks:List Bool)(total:Nat):Nat->List Field->Bool
 |off,[]=>off==total
 |off,f::fs=>f.name !="_"&&f.offset==off&&ft f.type ((ks.drop off).take (gO P f.type))&&n7 P ft ks total (off+gO P f.type) fs
def ng(P:Program):Nat->TypeId->List Bool->Bool
 |0,_,_=>false
 |n+1,t,ks=>match P.underlying t with
  |some (.int _)=>jM P t none&&ks==[false]
  |some .bool=>jM P t none&&ks==[true]
  |some (.struct fs)=>jM P t (some (gO P t))&& !P.stoodInHeld t&&ks.length==gO P t&&n7 P (ng P n) ks (gO P t) 0 fs.toList
  |_=>false
def Bd:PV->Value
 |.int k n=>.int k n
 |.bool b=>.bool b
 |_=>undef
theorem kh:∀(k1 k2:List Bool)(a b a' b':List PV)(r:Bool),k1.length=a.length->a.length=a'.length->aH (k1++k2) (a++b) (a'++b')=some r->
  ∃r1 r2,aH k1 a a'=some r1/\aH k2 b b'=some r2/\r=(r1&&r2)
 |[],k2,[],b,[],b',r,_,_,h=>⟨true,r,rfl,h,by simp⟩
 |[],k2,[],b,y::a',b',r,_,hl,h=>by simp at hl
 |[],k2,x::a,b,_,b',r,hk,hl,h=>by simp at hk
 |k::k1,k2,[],b,_,b',r,hk,hl,h=>by simp at hk
 |k::k1,k2,x::a,b,[],b',r,hk,hl,h=>by simp at hl
 | k::k1,k2,x::a,b,y::a',b',r,hkl,hl,h=>by
  simp only[NW,Nat.add_right_cancel_iff]at hl hkl;simp only[OM]at h;unfold aH at h;split at h
  ·rename_i he _ _;cases he
  ·rename_i ks k p xs k' q ys h0 h1 h2;simp only[Pe]at h0 h1 h2;obtain⟨rfl,rfl⟩:=h0;obtain⟨rfl,rfl⟩:=h1;obtain⟨rfl,rfl⟩:=h2;split at h
   ·cases h
   ·rename_i hk;cases hr:aH (k1++k2) (a++b) (a'++b')with
    |none=>simp[hr]at h
    |some r'=>
     simp only[hr,No]at h;obtain⟨r1,r2,e1,e2,e3⟩:=kh k1 k2 a b a' b' r' hkl hl hr;refine⟨p==q&&r1,r2,?_,e2,by rw[<-h,e3,Bool.and_assoc]⟩;unfold aH;simp only[hk,Oc,e1]
  ·rename_i ks p xs q ys h0 h1 h2;simp only[Pe]at h0 h1 h2;obtain⟨rfl,rfl⟩:=h0;obtain⟨rfl,rfl⟩:=h1;obtain⟨rfl,rfl⟩:=h2;cases hr:aH (k1++k2) (a++b) (a'++b')with
   |none=>simp[hr]at h
   |some r'=>
    simp only[hr,No]at h;obtain⟨r1,r2,e1,e2,e3⟩:=kh k1 k2 a b a' b' r' hkl hl hr;refine⟨p==q&&r1,r2,?_,e2,by rw[<-h,e3,Bool.and_assoc]⟩;unfold aH;simp only[e1]
  ·cases h
section
variable{ah:Nat->FuncId}{P:Program}{M:Mp}{w:World}{h:Heap}
def sB(xs:Array Value)(X:List PV):Prop:=X.length=xs.size/\∀(i:Nat)(x:PV),X[i]?=some x->xs[i]?=some (Bd x)
theorem vO{t:TypeId}(ht:jM P t none=true){xs:Array Value}{off:Nat}{u:Value}(h:xs[off]?=some u):(part t xs off).run P w=.ok u w:=by
 simp[part,lR ht,h]
theorem Cy{t:TypeId}{n:Nat}(ht:jM P t (some n)=true)(xs:Array Value)(off:Nat):(part t xs off).run P w=.ok (.agg (xs.extract off (off+n))) w:=by
 simp[part,lR ht,iF ht,ji]
def qa(P:Program)(t:TypeId)(X:List PV)(v:Value):Prop:=
 match P.underlying t with
 |some (.struct _)=>∃xs,v=.agg xs/\sB xs X/\X.length=gO P t
 |_=>∃x,X=[x]/\v=Bd x
theorem rP(n:Nat)(ih:∀(t:TypeId)(ks:List Bool)(d:Nat)(X Y:List PV)(b:Bool)(vx vy:Value),ng P n t ks=true->aH ks X Y=some b->qa P t X vx->qa P t Y vy->
   (Op.equalIn (d+n) t vx vy).run P w=.ok b w)(ks:List Bool)(d total:Nat)(hks:ks.length=total)(xs ys:Array Value)(X Y:List PV)(hX:sB xs X)(hY:sB ys Y)(hlX:X.length=total)(hlY:Y.length=total):
  ∀(fs:List Field)(off:Nat)(b:Bool),n7 P (ng P n) ks total off fs=true->aH (ks.drop off) (X.drop off) (Y.drop off)=some b->(Op.eqFields (d+n) xs ys fs).run P w=.ok b w
 |[],off,b,h,he=>by
  simp only[n7,NX]at h;subst h;rw[List.drop_of_length_le (by omega),List.drop_of_length_le (by omega),List.drop_of_length_le (by omega)]at he;simp only[aH,No]at he;subst he;rfl
 | f::fs,off,b,h,he=>by
  simp only[n7,Np,NX,bne_iff_ne]at h;obtain⟨⟨⟨hn,ho⟩,hf⟩,hr⟩:=h;have hfit:∀(fs:List Field)(off:Nat),n7 P (ng P n) ks total off fs=true->off<=total:=by
   intro fs;induction fs with
   |nil=>intro off h;simp only[n7,NX]at h;omega
   |cons f fs ih'=>intro off h;simp only[n7,Np]at h;have:=ih' _ h.2;omega
  have hle:=hfit _ _ hr;have s1:X.drop off=(X.drop off).take (gO P f.type)++X.drop (off+gO P f.type):=by rw[<-Ps];exact(Pf _ _).symm
  have s2:Y.drop off=(Y.drop off).take (gO P f.type)++Y.drop (off+gO P f.type):=by rw[<-Ps];exact(Pf _ _).symm
  have s0:ks.drop off=(ks.drop off).take (gO P f.type)++ks.drop (off+gO P f.type):=by rw[<-Ps];exact(Pf _ _).symm
  rw[s0,s1,s2]at he;obtain⟨r1,r2,e1,e2,rfl⟩:=kh _ _ _ _ _ _ _ (by simp;omega) (by simp;omega) he;have hrest:=rP n ih ks d total hks xs ys X Y hX hY hlX hlY fs _ r2 hr e2;have fv:∀(zs:Array Value)(Z:List PV),sB zs Z->Z.length=total->∃v,(part f.type zs f.offset).run P w=.ok v w/\qa P f.type ((Z.drop off).take (gO P f.type)) v:=by
   intro zs Z hZ hlZ;cases n with
   |zero=>simp[ng]at hf
   | succ n=>
    unfold ng at hf;unfold qa;split at hf
    ·rename_i k hu;simp only[Np]at hf
     replace hf:=hf.1
     obtain⟨_,i,_,hi,hsz,_⟩:=ms hf;have hs:gO P f.type=1:=by simp[gO,hi,hsz,ji]
     have hz:Z[off]?=some Z[off]:=Ns (by omega);refine⟨Bd Z[off],vO hf (by rw[ho];exact hZ.2 _ _ hz),?_⟩;simp only[hu];refine⟨Z[off],?_,rfl⟩;rw[hs,List.take_one];simp[hz]
    ·rename_i hu;simp only[Np]at hf
     replace hf:=hf.1
     obtain⟨_,i,_,hi,hsz,_⟩:=ms hf;have hs:gO P f.type=1:=by simp[gO,hi,hsz,ji]
     have hz:Z[off]?=some Z[off]:=Ns (by omega);refine⟨Bd Z[off],vO hf (by rw[ho];exact hZ.2 _ _ hz),?_⟩;simp only[hu];refine⟨Z[off],?_,rfl⟩;rw[hs,List.take_one];simp[hz]
    ·rename_i fs' hu;simp only[Np]at hf;refine⟨_,Cy hf.1.1.1 _ _,?_⟩;simp only[hu];refine⟨_,rfl,⟨?_,?_⟩,?_⟩
     ·have:=hZ.1;simp;omega
     ·intro i x hi;rw[N7]at hi;split at hi
      ·rename_i hin;rw[N8]at hi;rw[Array.getElem?_extract,Nt (by have:=hZ.1;omega),ho];exact hZ.2 _ _ hi
      ·cases hi
     ·simp;omega
    ·cases hf
  obtain⟨va,ha,hfa⟩:=fv xs X hX hlX;obtain⟨vb,hb,hfb⟩:=fv ys Y hY hlY;have hq:=ih f.type _ d _ _ r1 va vb hf e1 hfa hfb;simp only[Op.eqFields,Nt hn,Sem.run_bind,ha,hb,hq,Result.andThen_ok];cases r1
  ·simp
  ·simpa using hrest
theorem tP:∀(n:Nat)(t:TypeId)(ks:List Bool)(d:Nat)(X Y:List PV)(b:Bool)(vx vy:Value),ng P n t ks=true->aH ks X Y=some b->qa P t X vx->qa P t Y vy->
   (Op.equalIn (d+n) t vx vy).run P w=.ok b w
 |0,t,ks,d,X,Y,b,vx,vy,h,_,_,_=>by simp[ng]at h
 | n+1,t,ks,d,X,Y,b,vx,vy,h,he,hx,hy=>by
  unfold ng at h;unfold qa at hx hy;split at h
  ·rename_i k hu;simp only[hu]at hx hy;obtain⟨x,rfl,rfl⟩:=hx;obtain⟨y,rfl,rfl⟩:=hy;simp only[Np,NX]at h;obtain⟨_,rfl⟩:=h;cases x<;>cases y<;>try(simp[aH]at he;done)
   rename_i k1 p k2 q;simp only[aH]at he;split at he
   ·cases he
   ·rename_i hk;simp only[ne_eq,Decidable.not_not]at hk;subst hk;simp only[No,Oi]at he;subst he;exact run_equalIn_int w (d+n) t k1 k p q hu
  ·rename_i hu;simp only[hu]at hx hy;obtain⟨x,rfl,rfl⟩:=hx;obtain⟨y,rfl,rfl⟩:=hy;simp only[Np,NX]at h;obtain⟨_,rfl⟩:=h;cases x<;>cases y<;>try(simp[aH]at he;done)
   simp only[aH,No,Oi]at he;subst he;exact lO hu (d+n) _ _
  ·rename_i fs hu;simp only[hu]at hx hy;obtain⟨xs,rfl,hX,hlX⟩:=hx;obtain⟨ys,rfl,hY,hlY⟩:=hy;simp only[Np,NV,NX]at h;have hfo:P.fieldsOf t=fs:=by simp[Program.fieldsOf,hu]
   show(Op.equalIn (d+n+1) t (.agg xs) (.agg ys)).run P w=_;rw[run_equalIn_struct (P:=P) w (d+n) t xs ys (by rw[hfo];exact hu) h.1.1.2,hfo];exact rP n (tP n) ks d _ h.1.2 xs ys X Y hX hY hlX hlY fs.toList 0 b h.2 (by simpa using he)
  ·cases h
theorem wT:∀{ks:List Bool}{X Y:List PV}{b:Bool},aH ks X Y=some b->(∀x∈X,(∃k n,x=.int k n)∨∃b,x=.bool b)/\(∀y∈Y,(∃k n,y=.int k n)∨∃b,y=.bool b)/\X.length=ks.length/\Y.length=ks.length:=by
 intro ks;induction ks with
 |nil=>
  intro X Y b h;cases X<;>cases Y<;>simp[aH]at h
  simp
 | cons k ks ih=>
  intro X Y b h;cases X with
  |nil=>simp[aH]at h
  |cons x X=>
  cases Y with
  |nil=>simp[aH]at h
  | cons y Y=>
   have:∃r,aH ks X Y=some r/\((∃k n,x=.int k n)∨∃b,x=.bool b)/\((∃k n,y=.int k n)∨∃b,y=.bool b):=by
    unfold aH at h;split at h
    ·rename_i h0 _ _;cases h0
    ·rename_i h0 h1 h2;simp only[Pe]at h0 h1 h2;obtain⟨rfl,rfl⟩:=h0;obtain⟨rfl,rfl⟩:=h1;obtain⟨rfl,rfl⟩:=h2;split at h
     ·cases h
     ·cases hr:aH ks X Y with
      |none=>simp[hr]at h
      |some r=>exact⟨r,rfl,.inl ⟨_,_,rfl⟩,.inl ⟨_,_,rfl⟩⟩
    ·rename_i h0 h1 h2;simp only[Pe]at h0 h1 h2;obtain⟨rfl,rfl⟩:=h0;obtain⟨rfl,rfl⟩:=h1;obtain⟨rfl,rfl⟩:=h2;cases hr:aH ks X Y with
     |none=>simp[hr]at h
     |some r=>exact⟨r,rfl,.inr ⟨_,rfl⟩,.inr ⟨_,rfl⟩⟩
    ·cases h
   obtain⟨r,hr,hx,hy⟩:=this;obtain⟨q1,q2,q3,q4⟩:=ih hr;refine⟨?_,?_,by simp[q3],by simp[q4]⟩
   ·intro z hz;cases hz with
    |head=>exact hx
    |tail _ hz=>exact q1 z hz
   ·intro z hz;cases hz with
    |head=>exact hy
    |tail _ hz=>exact q2 z hz
theorem yE{t:TypeId}{fs:Array Field}(hu:P.underlying t=some (.struct fs)){x:PV}{c:Value}{X:List PV}(hX:x.cells=X)(hl:X.length=gO P t)
  (hv:∀y∈X,(∃k n,y=.int k n)∨∃b,y=.bool b)(hx:VR ah M x c)(hag:∃cs,x=.agg cs):qa P t X c:=by
 obtain⟨cs,rfl⟩:=hag;have:cs=X:=hX;subst this;obtain⟨vs,rfl,q1,q2⟩:=hx.agg_inv;unfold qa;simp only[hu];refine⟨vs,rfl,⟨q1,λi y hi=>?_⟩,hl⟩;have hlt:i<vs.size:=by
  rw[<-q1];rcases NI i cs.length with z|z
  ·exact z
  ·rw[NA z]at hi;cases hi
 have:=q2 i y vs[i] hi (NK hlt);rw[NK hlt];congr 1;rcases hv y (ND hi)with⟨k,n,rfl⟩|⟨b,rfl⟩
 ·exact this.int_inv
 ·exact this.bool_inv
theorem I7{neg:Bool}{ks:List Bool}{x y v:PV}{a b:Value}{h':Heap}(hv:(ye neg ks x y).run h=some (v,h'))(hx:VR ah M x a)(hy:VR ah M y b){t:TypeId}
  {fs:Array Field}(hu:P.underlying t=some (.struct fs))(hf:ng P 20 t ks=true)(hg:P.eqGuardType P.depth t=false)(X Y:Operand):
  h'=h/\∃c,((Go.eqGuard (if neg then .neq else .eql) t X Y a b)>>= λ_=>Go.binOp (if neg then .neq else .eql) t a b).run P w=.ok c w/\VR ah M v c:=by
 unfold ye at hv;split at hv
 case h_2=>simp[HM.run]at hv
 rename_i xs ys;cases he:aH ks xs ys with
 |none=>simp[he,HM.run]at hv
 | some r=>
  simp only[he]at hv;obtain⟨rfl,rfl⟩:=HM.run_ret_some hv;refine⟨rfl,?_⟩;obtain⟨q1,q2,q3,q4⟩:=wT he;have hl:ks.length=gO P t:=by
   unfold ng at hf;simp only[hu,Np,NX]at hf;exact hf.1.2
  have fx:=yE (P:=P) hu (x:=.agg xs) (X:=xs) rfl (by omega) q1 hx ⟨_,rfl⟩;have fy:=yE (P:=P) hu (x:=.agg ys) (X:=ys) rfl (by omega) q2 hy ⟨_,rfl⟩;have hq:=tP (P:=P) (w:=w) 20 t ks 9980 xs ys r a b hf he fx fy;obtain⟨va,rfl,_⟩:=hx.agg_inv;obtain⟨vb,rfl,_⟩:=hy.agg_inv;rw[Sem.run_bind,run_eqGuard_agg (P:=P) w _ t X Y va vb hg];exact⟨_,ja hq (λo=>⟨λe=>by subst e;rfl,λe=>by subst e;rfl⟩),.fr (.bool _)⟩
end
theorem cj:∀{cs:List PV}{j:Nat}{x:PV},ai cs=true->cs[j]?=some x->x.isCell=true
 |c::cs,0,x,h,hj=>by simp only[ai,Np]at h;cases hj;exact h.1
 |c::cs,j+1,x,h,hj=>by simp only[ai,Np]at h;exact cj h.2 hj
section
variable{ah:Nat->FuncId}{P:Program}{M:Mp}{w:World}{h:Heap}
def OkR(ah:Nat->FuncId)(P:Program)(M:Mp)(w:World)(s:Sem Value)(v:PV)(h':Heap):Prop:=
 ∃c w' M',s.run P w=.ok c w'/\Stp M w M' w'/\HR ah M' h' w'/\VR ah M' v c
theorem OkR.pure{s:Sem Value}{v:PV}{c:Value}(H:HR ah M h w)(hs:s.run P w=.ok c w)(hv:VR ah M v c):OkR ah P M w s v h:=
 ⟨c,w,M,hs,.refl _ _,H,hv⟩
theorem VR.isCell_one{v:PV}{c:Value}(h:VR ah M v c)(hc:v.isCell=true):c.oneCell'=true:=by
 cases h with
 |fr h=>cases h<;>first|rfl|(simp[PV.isCell]at hc;done)
 |junk=>simp[PV.isCell]at hc
 |tok=>rfl
 |ptr=>rfl
 |agg=>simp[PV.isCell]at hc
 |tup=>simp[PV.isCell]at hc
 |fn=>rfl
theorem CC{t:TypeId}{sz:Option Nat}{x:PV}{s v:Nat}{c:Value}{h':Heap}(H:HR ah M h w)(hf:x.fits sz=true)(hk:ai x.cells=true)
  (hb:(ek s ⟨x.cells.length,[x],false⟩).run h=some (v,h'))(hx:VR ah M x c):
  OkR ah P M w (do pure (.pointer (some (<-newVar t c)))) (.ptr (.l s) v 0 0) h':=by
 obtain⟨e,he,rfl,rfl⟩:=i5 hb;obtain⟨q1,q2,q3⟩:=VR.fits_cells hf hx;obtain⟨H',S'⟩:=H.alloc he (b:=⟨x.cells.length,[x],false⟩) (cs:=c.cells) (t:=t) rfl (by simp;omega) (by show c.cells.size<=9223372036854775807*x.cells.length;omega) (by
  intro i e hi;cases i with
  |succ i=>simp at hi
  |zero=>
   simp only[Nz,No]at hi;subst hi;refine⟨rfl,λj y hj=>⟨cj hk hj,?_⟩⟩;obtain⟨u,h1,h2⟩:=q3 j y hj;exact⟨u,by simpa using h1,h2⟩)
 refine⟨_,_,_,by simp[newVar,newRow];rfl,S',H',?_⟩;refine .ptr _ _ _ _ _ ?_ (λloc hl=>?_)
 ·show e.ver+1<=(if(ao.l s)=.l s then _ else _);rw[Nt rfl];exact Ny _
 ·have hl':(if(ao.l s)=.l s then(if e.ver+1=e.ver+1 then some _ else none)else _)=some loc:=hl;rw[Nt rfl,Nt rfl]at hl';simp only[No]at hl';subst hl';simp
theorem box_ok{t:TypeId}{sz:Option Nat}{x v:PV}{s:Nat}{c:Value}{h':Heap}(H:HR ah M h w)(hv:(vJ sz x s).run h=some (v,h'))(hx:VR ah M x c):
  OkR ah P M w (Instr.box t c) v h':=by
 unfold vJ at hv;by_cases hc:x.fits sz=true/\ai x.cells=true
 case neg=>rw[Nw hc]at hv;simp[HM.run]at hv
 rw[Nt hc]at hv;obtain⟨n,h1,hb,hv⟩:=HM.run_bind_some hv;obtain⟨rfl,rfl⟩:=HM.run_ret_some hv;exact CC H hc.1 hc.2 hb hx
theorem EW{t:TypeId}{sz:Option Nat}{x v:PV}{s:Nat}{h':Heap}(H:HR ah M h w)(hv:(vJ sz x s).run h=some (v,h'))(hz:lG P t x=true):
  OkR ah P M w (Instr.alloc t true (.tuple #[])) v h':=by
 obtain⟨i,zv,hi,hzv,hfr⟩:=kf (ah:=ah) hz;obtain⟨c,w',M',h1,h2⟩:=box_ok (P:=P) (t:=t) H hv (.fr (hfr M.rd));refine⟨c,w',M',?_,h2⟩;rw[<-h1];simp[Instr.alloc,Instr.box,zeroValue,typeInfo,hi,hzv]
theorem jT{t:TypeId}{s v:Nat}{b:Blk}{cs:Array Value}{h':Heap}(H:HR ah M h w)(hb:(ek s b).run h=some (v,h'))(hro:b.ro=false)
  (hsz:b.es.length*b.sz<=cs.size)(hbg:cs.size<=9223372036854775807*b.sz)(hc:CellsAt ah M cs 0 b.sz b.es):
  ∃M',Stp M w M' (w.alloc (.cells cs t))/\HR ah M' h' (w.alloc (.cells cs t))/\v<=M'.cv (.l s)/\M'.io (.l s) v=some ⟨w.heap.size,0,b.sz,cs.size⟩:=by
 obtain⟨e,he,rfl,rfl⟩:=i5 hb;obtain⟨H',S'⟩:=H.alloc he (b:=b) (cs:=cs) (t:=t) hro hsz hbg hc;refine⟨_,S',H',?_,?_⟩
 ·show e.ver+1<=(if(ao.l s)=.l s then _ else _);rw[Nt rfl];exact Ny _
 ·show(if(ao.l s)=.l s then(if e.ver+1=e.ver+1 then some _ else none)else _)=_;rw[Nt rfl,Nt rfl]
theorem jZ{M':Mp}{s v sz n room cap base size:Nat}(hv:v<=M'.cv (.l s))(hio:M'.io (.l s) v=some ⟨base,0,sz,size⟩)(h1:n<=room)(h2:room<=cap)(h3:cap*sz<=size):
  VR ah M' (.tok (.l s) v sz 0 n room false) (.slice (some ⟨base,0,none⟩) n cap):=by
 refine .tok _ _ _ _ _ _ _ _ _ hv h1 h2 (by intro h;cases h) (λloc hl=>?_);rw[hio]at hl;simp only[No]at hl;subst hl;exact⟨rfl,.inr ⟨by simp,by simpa using h3⟩⟩
structure SrcAt (ah:Nat->FuncId) (M:Mp) (w:World) (ad:Addr) (sz:Nat) (es:List PV) (us:Nat->Nat->Value):Prop where
 len:∀(i:Nat)(e:PV),es[i]?=some e->e.cells.length=sz
 cell:∀(i:Nat)(e:PV)(j:Nat)(x:PV),es[i]?=some e->e.cells[j]?=some x->x.isCell=true/\w.cell? (ad.add (i*sz+j))=some (us i j)/\VR ah M x (us i j)
inductive nN (ah:Nat->FuncId) (M:Mp) (w:World):List PV->Value->Prop
 |none (n cap:Nat) (h:n=0):nN ah M w [] (.slice none n cap)
 |empty (a:Option Addr) (cap:Nat):nN ah M w [] (.slice a 0 cap)
 |some (ad:Addr) (cap sz:Nat) (es:List PV) (us:Nat->Nat->Value) (h:SrcAt ah M w ad sz es us) (hne:es≠[]):nN ah M w es (.slice (some ad) es.length cap)
 |str (s:List UInt8):nN ah M w (s.map λb=>.int .u8 b.toNat) (.string ⟨s.toArray⟩)
theorem gP{x:PV}{es:List PV}{c:Value}{h':Heap}(hv:(elems x).run h=some (es,h'))(H:HR ah M h w)(hx:VR ah M x c):h'=h/\nN ah M w es c:=by
 unfold elems at hv;split at hv
 ·obtain⟨rfl,rfl⟩:=HM.run_ret_some hv;have:=hx.nils_inv;subst this;exact⟨rfl,.none 0 0 rfl⟩
 ·rename_i es c0;obtain⟨rfl,rfl⟩:=HM.run_ret_some hv;refine⟨rfl,?_⟩;have hf:=hx.lst_inv;cases hf with
  | lst _ _ a cap esz us h1 h2 h3 h4 h5=>
   by_cases hne:es=[]
   ·subst hne;exact .empty _ _
   ·refine .some a cap esz es us ⟨h3,λi e j x hi hj=>?_⟩ hne;obtain⟨q1,q2,vs,q3,q4⟩:=h4 i e j x hi hj;obtain⟨t,fz,hh⟩:=H.rd _ _ q3;exact⟨q1,by rw[fG q2,gU hh,q4],.fr (h5 i e j x hi hj)⟩
 ·rename_i s;obtain⟨rfl,rfl⟩:=HM.run_ret_some hv;have:=hx.str_inv;subst this;exact⟨rfl,.str s⟩
 ·rename_i r ver sz off len room c0;obtain⟨a,cap,rfl,hver,k2,k3,k4,k5⟩:=hx.tok_inv;split at hv
  ·rename_i hl;obtain⟨rfl,rfl⟩:=HM.run_ret_some hv;subst hl;exact⟨rfl,.empty _ _⟩
  ·rename_i hl0;obtain⟨b,h1,hb,hv⟩:=HM.run_bind_some hv;obtain⟨rfl,hg⟩:=aX hb;split at hv
   ·rename_i hc;obtain⟨rfl,rfl⟩:=HM.run_ret_some hv;refine⟨rfl,?_⟩;obtain⟨loc,ca,ty,lo,hi,hl,B⟩:=H.live hg;obtain⟨e1,e2⟩:=k5 loc hl;have hlen:((b.es.drop off).take len).length=len:=by simp;omega
    rcases e2 with e2|⟨rfl,e2⟩
    ·omega
    have key:nN ah M w ((b.es.drop off).take len) (.slice (some ⟨loc.b,loc.base+off*sz,none⟩) ((b.es.drop off).take len).length cap):=by
     have hget:∀(i:Nat)(e:PV),((b.es.drop off).take len)[i]?=some e->b.es[off+i]?=some e:=by
      intro i e hi;rw[N7]at hi;split at hi
      ·rw[N8]at hi;exact hi
      ·cases hi
     refine .some _ cap sz _ (λi j=>ca.getD (loc.base+(off+i)*sz+j) undef) ⟨?_,?_⟩ ?_
     ·intro i e hi;rw[(B.cells _ _ (hget i e hi)).1,hc.2]
     ·intro i e j x hi hj;obtain⟨q1,u,q2,q3⟩:=(B.cells _ _ (hget i e hi)).2 j x hj;rw[hc.2]at q2;rw[mX,gU B.heap];have e3:loc.base+off*sz+(i*sz+j)=loc.base+(off+i)*sz+j:=by rw[N6];omega
      rw[e3,q2];exact⟨q1,by simp[q2],by simpa[q2]using q3⟩
     ·intro h0;rw[h0]at hlen;simp at hlen;omega
    rw[hlen]at key;exact key
   ·simp[HM.run]at hv
 ·simp[HM.run]at hv
def lN(n sz:Nat)(us:Nat->Nat->Value):List Value:=(List.range (n*sz)).map λk=>us (k/sz) (k %sz)
theorem mF(n sz:Nat)(us:Nat->Nat->Value):(lN n sz us).length=n*sz:=by simp[lN]
theorem Ct{n sz i j:Nat}(us:Nat->Nat->Value)(hi:i<n)(hj:j<sz):(lN n sz us)[i*sz+j]?=some (us i j):=by
 have hlt:i*sz+j<n*sz:=by
  have:(i+1)*sz<=n*sz:=NS _ hi;rw[N6]at this;omega
 unfold lN;rw[NE,Ou hlt];have h0:0<sz:=by omega
 simp only[NM,No];rw[Nat.add_comm,Nat.add_mul_div_right _ _ h0,Nat.add_mul_mod_self_right,Nat.div_eq_of_lt hj,Nat.mod_eq_of_lt hj,Oe]
theorem SrcAt.row{ad:Addr}{sz:Nat}{es:List PV}{us:Nat->Nat->Value}(S:SrcAt ah M w ad sz es us)(k:Nat)(v:Value)(h:(lN es.length sz us)[k]?=some v):
  w.cell? (ad.add k)=some v/\∃i j e x,es[i]?=some e/\e.cells[j]?=some x/\k=i*sz+j/\v=us i j:=by
 unfold lN at h;rw[NE]at h;have hlt:k<es.length*sz:=by
  rcases NI k (es.length*sz)with z|z
  ·exact z
  ·rw[NA (by simpa using z)]at h;cases h
 rw[Ou hlt]at h;simp only[NM,No]at h;have h0:0<sz:=by
  rcases Nat.eq_zero_or_pos sz with z|z
  ·rw[z]at hlt;omega
  ·exact z
 have hi:k/sz<es.length:=Nat.div_lt_of_lt_mul (by rw[Nat.mul_comm];exact hlt);have hj:k %sz<sz:=Nat.mod_lt _ h0;have he:es[k/sz]?=some es[k/sz]:=Ns hi;have hl:=S.len _ _ he;have hx:(es[k/sz]).cells[k %sz]?=some (es[k/sz]).cells[k %sz]:=Ns (by omega);have hk:k/sz*sz+k %sz=k:=by rw[Nat.mul_comm];exact Nat.div_add_mod k sz
 obtain⟨_,q2,_⟩:=S.cell _ _ _ _ he hx;rw[hk,h]at q2;exact⟨q2,_,_,_,_,he,hx,hk.symm,h.symm⟩
end
def cf(c:Array Value)(k:Nat)(vs:List Value):Array Value:=(c.toList.take k++vs++c.toList.drop (k+vs.length)).toArray
theorem cO{c:Array Value}{k:Nat}{vs:List Value}(h:k+vs.length<=c.size):(cf c k vs).size=c.size:=by
 simp[cf];omega
theorem bK{c:Array Value}{k:Nat}{vs:List Value}(h:k+vs.length<=c.size)(i:Nat):
  (cf c k vs)[i]?=if k<=i/\i<k+vs.length then vs[i-k]? else c[i]?:=by
 simp only[cf,O2];by_cases h1:i<k
 ·rw[Ol,NN (by simp;omega),N7,Nt h1,Nw (by omega),OU]
 ·by_cases h2:i<k+vs.length
  ·rw[Nt ⟨by omega,h2⟩,Ol,NH (by simp;omega),NN (by simp;omega)];congr 1;simp;omega
  ·rw[Nw (by omega),Ol,NH (by simp;omega),NH (by simp;omega),N8,<-OU];congr 1;simp;omega
theorem EA(c:Array Value)(k:Nat):cf c k []=c:=by simp[cf,Pf]
theorem Cw{c:Array Value}{k:Nat}{v:Value}{vs:List Value}(h:k+(vs.length+1)<=c.size):cf (c.setIfInBounds k v) (k+1) vs=cf c k (v::vs):=by
 apply Array.ext_getElem?;intro i;rw[bK (by simp;omega),bK (by simpa using h)];by_cases h1:k<=i/\i<k+(v::vs).length
 ·rw[Nt h1];by_cases h2:k+1<=i/\i<k+1+vs.length
  ·rw[Nt h2];have:i-k=(i-(k+1))+1:=by omega
   rw[this];rfl
  ·rw[Nw h2];have:i=k:=by simp at h1;omega
   subst this;rw[Ot (by omega),Nat.sub_self];rfl
 ·rw[Nw h1,Nw (by simp at h1;omega)];exact Oq (by simp at h1;omega)
def fX(w:World)(b:Nat)(o:Obj):World:={w with heap:=w.heap.setIfInBounds b o}
theorem gm{w:World}{b:Nat}{o:Obj}(h:b<w.heap.size):(fX w b o).heap[b]?=some o:=by
 show(w.heap.setIfInBounds b o)[b]?=_;rw[Ot h]
theorem b6{w:World}{b k:Nat}{o:Obj}(h:k≠b):(fX w b o).heap[k]?=w.heap[k]?:=by
 show(w.heap.setIfInBounds b o)[k]?=_;rw[Oq (Ne.symm h)]
theorem Cs{w:World}{b:Nat}{o o':Obj}:fX (fX w b o) b o'=fX w b o':=by
 simp[fX]
theorem CI{w:World}{b:Nat}{o:Obj}(h:w.heap[b]?=some o):fX w b o=w:=by
 cases w with
 | mk heap tape drawn os output=>
  simp only[fX,World.mk.injEq,Pj];apply Array.ext_getElem?;intro i;by_cases hi:b=i
  ·subst hi;have hlt:b<heap.size:=by
    rcases NI b heap.size with z|z
    ·exact z
    ·simp[OS z]at h
   rw[Ot hlt];exact h.symm
  ·rw[Oq hi]
theorem wy{w:World}{b o:Nat}{c:Array Value}{t:TypeId}{fz:Nat×Nat}{v:Value}(h:w.heap[b]?=some (.cells c t fz)):
  w.setCell ⟨b,o,none⟩ v=fX w b (.cells (c.setIfInBounds o v) t fz):=by
 unfold World.setCell fX;congr 1;apply Array.ext_getElem?;intro i;rw[Array.getElem?_modify];by_cases hi:b=i
 ·subst hi;have hlt:b<w.heap.size:=by
   rcases NI b w.heap.size with z|z
   ·exact z
   ·simp[OS z]at h
  rw[Nt rfl,h,Ot hlt];simp
 ·rw[Nw hi,Oq hi]
theorem dS{P:Program}(b base:Nat)(t:TypeId)(lo hi:Nat):∀(vs:List Value)(i:Nat)(c:Array Value)(w:World),w.heap[b]?=some (.cells c t (lo,hi))->
  base+i+vs.length<=c.size->(∀k,k<c.size->¬(lo<=k/\k<hi))->(∀v∈vs,v.oneCell'=true)->
  (storeCells ⟨b,base,none⟩ vs i).run P w=.ok () (fX w b (.cells (cf c (base+i) vs) t (lo,hi)))
 |[],i,c,w,hh,_,_,_=>by simp[storeCells,EA,CI hh]
 | v::vs,i,c,w,hh,hl,hf,h1=>by
  simp only[NW]at hl;have hlt:b<w.heap.size:=by
   rcases NI b w.heap.size with z|z
   ·exact z
   ·simp[OS z]at hh
  have hcell:w.cell? ⟨b,base+i,none⟩=some c[base+i]:=by rw[gU hh,NK (by omega)]
  have hfro:w.frozen? ⟨b,base+i,none⟩=false:=by
   simp only[World.frozen?,hh];have:=hf (base+i) (by omega);simp only[Pg,N4];omega
  have hone:v.oneCell'=true:=h1 v (by simp);have ih:=dS (P:=P) b base t lo hi vs (i+1) (c.setIfInBounds (base+i) v) (fX w b (.cells (c.setIfInBounds (base+i) v) t (lo,hi))) (gm hlt)
   (by simp;omega) (by simpa using hf) (λu hu=>h1 u (by simp[hu]))
  simp only[storeCells,Sem.run_bind,mX,run_store P w _ v .plain hone,hcell,hfro,NL,Oc,Result.andThen_ok];rw[wy hh,ih,Cs];have e1:base+(i+1)=base+i+1:=by omega
  rw[e1,Cw (by omega)]
section
variable{ah:Nat->FuncId}{P:Program}{M:Mp}{w:World}{h:Heap}
theorem HR.write{r:ao}{ver:Nat}{b b':Blk}(H:HR ah M h w)(hg:h.get r=some ⟨ver,some b⟩)(hro:b.ro=false)(hro':b'.ro=false)
  {loc:Bt}{c c':Array Value}{t lo hi:Nat}(hl:M.io r ver=some loc)(B:BlkAt ah M w loc b c t lo hi)(hsz:b'.sz=b.sz)(hc:c'.size=c.size)
  (hfit:loc.base+b'.es.length*b'.sz<=c.size)(hcells:CellsAt ah M c' loc.base b'.sz b'.es):
  HR ah M (h.put r ⟨ver,some b'⟩) (fX w loc.b (.cells c' t (lo,hi)))/\Stp M w M (fX w loc.b (.cells c' t (lo,hi))):=by
 have hlt:=B.lt;have hne:∀r' v' loc',r'≠r->M.io r' v'=some loc'->loc'.b≠loc.b:=λr' v' loc' hr h1 e=>hr (H.inj _ _ _ _ _ _ h1 hl e);have hrd:M.rd loc.b=none:=B.rw_ hro;refine⟨H.upd hg (by intro i hi;subst hi;have:=Heap.ver_a hg;exact this) (.refl _) (λ_ _=>rfl) (λ_ _=>rfl) (by have:=H.cv _ _ hg;exact this) (λv hv=>⟨(H.dom _ _ _ hg hv).1,by simp⟩)
  (λ_=>by simp[hl]) ?_ ?_ ?_ ?_,?_⟩
 ·intro b1 loc1 h1 h2;simp only[No]at h1;subst h1;have h2':M.io r ver=some loc1:=h2;rw[hl]at h2';cases h2';exact⟨c',t,lo,hi,⟨gm hlt,by rw[B.sz,hsz],by rw[hc];exact B.size,λk hk=>B.free k (by omega),⟨B.lohi.1,λq=>by rw[hc];exact B.lohi.2.1 (by first|(rw[hsz]at q;exact q)|(rw[<-hsz]at q;exact q)|(rw[<-hsz];exact q)),by rw[hc,hsz];exact B.lohi.2.2⟩,by omega,λq=>absurd q (by rw[hro'];decide),λ_=>hrd,hcells⟩⟩
 ·intro v loc1 r' v' loc' hr h1 h2 e;exact hr (H.inj _ _ _ _ _ _ h2 h1 e.symm)
 ·intro r' v' loc' hr h1;exact⟨b6 (hne _ _ _ hr h1),rfl⟩
 ·intro b1 vs h1;obtain⟨t1,fz,hh⟩:=H.rd b1 vs h1;exact⟨t1,fz,by rw[b6 (by intro e;subst e;rw[hrd]at h1;cases h1)];exact hh⟩
 ·exact⟨⟨.refl _,rfl,rfl,rfl,by simp[fX],λk hk hn=>b6 (λe=>hn ⟨r,ver,loc,hl,e.symm⟩),λk hk=>.inl hk,λk hk=>.inl hk⟩,.refl _⟩
theorem qn{t:TypeId}{sz:Option Nat}(ht:jM P t sz=true){b base:Nat}{ty lo hi:Nat}{c:Array Value}{v:Value}(hs:v.cells.size=ji sz)
  (hh:w.heap[b]?=some (.cells c ty (lo,hi)))(hl:base+v.cells.size<=c.size)(hf:∀k,k<c.size->¬(lo<=k/\k<hi))(h1:∀u∈v.cells.toList,u.oneCell'=true):
  (storeVar t ⟨b,base,none⟩ v).run P w=.ok () (fX w b (.cells (cf c base v.cells.toList) ty (lo,hi))):=by
 unfold storeVar;have:=dS (P:=P) b base ty lo hi v.cells.toList 0 c w hh (by simpa using hl) hf h1;simp only[OI]at this;simp only[Sem.run_bind,iF ht,Result.andThen_ok,hs,ne_eq,OB,Oc,this]
theorem m9{e:PV}{cs:List PV}(h:e.cells.length=cs.length):(e.withCells cs).cells=cs∨∃x,cs=[x]/\e.withCells cs=x:=by
 cases e with
 |agg xs=>exact .inl rfl
 |_=>
  right;have hl:cs.length=1:=by rw[<-h];rfl
  obtain⟨x,rfl⟩:=List.length_eq_one_iff.1 hl;exact⟨x,rfl,rfl⟩
theorem jP{x:PV}(h:x.isCell=true):x.cells=[x]:=by cases x<;>first|rfl|(simp[PV.isCell]at h;done)
theorem EN{t:TypeId}{sz:Option Nat}(ht:jM P t sz=true){x y v:PV}{cx cy:Value}{h':Heap}(hv:(fc sz x y).run h=some (v,h'))(H:HR ah M h w)
  (hx:VR ah M x cx)(hy:VR ah M y cy):∃w' M',(Instr.storeAt t cx cy).run P w=.ok () w'/\Stp M w M' w'/\HR ah M' h' w':=by
 unfold fc at hv;split at hv
 case h_2=>simp[HM.run]at hv
 rename_i r ver i o;obtain⟨b,h1,hb,hv⟩:=HM.run_bind_some hv;obtain⟨rfl,hg⟩:=aX hb;split at hv
 case h_2=>simp[HM.run]at hv
 rename_i e he;by_cases hc:y.fits sz=true/\ai y.cells=true/\o+y.cells.length<=e.cells.length/\b.ro=false
 case neg=>rw[Nw hc]at hv;simp[HM.run]at hv
 rw[Nt hc]at hv;obtain⟨e0,he0,hv⟩:=bu hv;obtain⟨_,rfl⟩:=HM.run_ret_some hv;obtain⟨c1,c2,c3,c4⟩:=hc;obtain⟨loc,ca,ty,lo,hi,hl,B⟩:=H.live hg;obtain⟨a,rfl,_,ha⟩:=hx.ptr_inv;have ha:=ha loc hl;subst ha;obtain⟨q1,q2,q3⟩:=VR.fits_cells c1 hy;obtain⟨he1,he2⟩:=B.cells i e he;have hil:i<b.es.length:=by
  rcases NI i b.es.length with z|z
  ·exact z
  ·rw[NA z]at he;cases he
 have hsz:=B.sz;have hfit:=B.fits;have hmul:(i+1)*b.sz<=b.es.length*b.sz:=NS _ hil;rw[N6,Pv]at hmul;have hbound:loc.base+i*loc.sz+o+cy.cells.size<=ca.size:=by rw[hsz];omega
 have hrun:=qn (P:=P) (w:=w) ht (v:=cy) q1 B.heap hbound B.free (by
  intro u hu;obtain⟨j,hj,rfl⟩:=List.mem_iff_getElem.1 hu;simp only[OZ]at hj;have hjy:y.cells[j]?=some y.cells[j]:=Ns (by omega);obtain⟨u',h3,h4⟩:=q3 j _ hjy;rw[NK hj]at h3;simp only[No]at h3;rw[Array.getElem_toList,h3];exact h4.isCell_one (cj c2 hjy))
 let cs':=e.cells.take o++y.cells++e.cells.drop (o+y.cells.length)
 have hcl:cs'.length=e.cells.length:=by simp[cs'];omega
 have hcell':∀(j:Nat)(x:PV),cs'[j]?=some x->x.isCell=true/\∃u,(cf ca (loc.base+i*loc.sz+o) cy.cells.toList)[loc.base+i*b.sz+j]?=some u/\VR ah M x u:=by
  intro j x hj;have hjl:j<e.cells.length:=by
   rw[<-hcl];rcases NI j cs'.length with z|z
   ·exact z
   ·rw[NA z]at hj;cases hj
  rw[bK (by simpa using hbound)];by_cases h5:o<=j/\j<o+y.cells.length
  ·rw[Nt (by rw[hsz];simp;omega)];have:y.cells[j-o]?=some x:=by
    simp only[cs']at hj;rw[Ol,NH (by simp;omega),NN (by simp;omega)]at hj;rw[<-hj];congr 1;simp;omega
   obtain⟨u,h6,h7⟩:=q3 _ _ this;refine⟨cj c2 this,u,?_,h7⟩;rw[OU,<-h6];congr 1;rw[hsz];omega
  ·rw[Nw (by rw[hsz];simp;omega)];have:e.cells[j]?=some x:=by
    simp only[cs']at hj;rcases NI j o with z|z
    ·rw[Ol,NN (by simp;omega),N7,Nt z]at hj;exact hj
    ·rw[Ol,NH (by simp;omega),NH (by simp;omega),N8]at hj;rw[<-hj];congr 1;simp;omega
   exact he2 j x this
 obtain⟨H',S'⟩:=H.write hg c4 (b':=⟨b.sz,b.es.set i (e.withCells cs'),false⟩) rfl hl B rfl (c':=cf ca (loc.base+i*loc.sz+o) cy.cells.toList) (cO (by simpa using hbound))
  (by simpa using hfit) (by
   intro k e' hk;by_cases hki:i=k
   ·subst hki;simp only[Ok hil,No]at hk;subst hk;have hcs:(e.withCells cs').cells=cs':=by
     rcases m9 (e:=e) (cs:=cs') (by omega)with h8|⟨x,h8,h9⟩
     ·exact h8
     ·rw[h9,h8];have:=(hcell' 0 x (by rw[h8];rfl)).1;exact jP this
    rw[hcs];exact⟨by rw[hcl];exact he1,hcell'⟩
   ·simp only[Ox hki]at hk;obtain⟨h5,h6⟩:=B.cells k e' hk;refine⟨h5,λj x hj=>⟨(h6 j x hj).1,?_⟩⟩;obtain⟨u,h7,h8⟩:=(h6 j x hj).2;refine⟨u,?_,h8⟩;have hjl:j<b.sz:=by
     rw[<-h5];rcases NI j e'.cells.length with z|z
     ·exact z
     ·rw[NA z]at hj;cases hj
    rw[bK (by simpa using hbound),Nw,h7];rw[hsz];simp only[OZ];rcases Nat.lt_or_gt_of_ne hki with z|z
    ·have:(i+1)*b.sz<=k*b.sz:=NS _ z;rw[N6,Pv]at this;omega
    ·have:(k+1)*b.sz<=i*b.sz:=NS _ z;rw[N6,Pv]at this;omega)
 refine⟨_,M,?_,S',H'⟩;unfold Instr.storeAt;simp only[Sem.run_bind,Instr.sureAddr,Sem.run_pure,Result.andThen_ok];exact hrun
end
section
variable{ah:Nat->FuncId}{P:Program}{M:Mp}{w:World}{h:Heap}
theorem FR.cells_size{rd:RD}{v:PV}{c:Value}(x:FR ah rd v c):v.cells.length=c.cells.size:=by
 cases x<;>first|rfl|assumption
theorem FR.cells_at{rd:RD}{v:PV}{c:Value}(x:FR ah rd v c):∀(j:Nat)(y:PV),v.cells[j]?=some y->∃u,c.cells[j]?=some u/\FR ah rd y u:=by
 intro j y hj;have one:(v.cells=[v]/\c.cells= #[c])∨∃cs vs,v=.agg cs/\c=.agg vs:=by
  cases x<;>first|exact .inl ⟨rfl,rfl⟩|exact .inr ⟨_,_,rfl,rfl⟩
 rcases one with⟨h1,h2⟩|⟨cs,vs,rfl,rfl⟩
 ·rw[h1]at hj;rw[h2];cases j with
  |zero=>cases hj;exact⟨c,rfl,x⟩
  |succ j=>cases hj
 ·cases x with
  | agg _ _ q1 q2=>
   have hj':cs[j]?=some y:=hj;have hlt:j<vs.size:=by
    rw[<-q1];rcases NI j cs.length with z|z
    ·exact z
    ·rw[NA z]at hj';cases hj'
   exact⟨vs[j],NK hlt,q2 _ _ _ hj' (NK hlt)⟩
theorem FR.isCell{rd:RD}{v:PV}{c:Value}(x:FR ah rd v c)(hc:c.oneCell'=true):v.isCell=true:=by
 cases x<;>first|rfl|(simp[Value.oneCell']at hc;done)
def uX(e:PV)(u:Nat->Value):Value:=match e with
 |.agg cs=>.agg ((List.range cs.length).map u).toArray
 |_=>u 0
theorem wX{e:PV}{u:Nat->Value}(hc:∀(j:Nat)(x:PV),e.cells[j]?=some x->VR ah M x (u j)):VR ah M e (uX e u):=by
 cases e with
 | agg cs=>
  refine .agg _ _ (by simp) (λi c v h1 h2=>?_);have hlt:i<cs.length:=by
   rcases NI i cs.length with z|z
   ·exact z
   ·rw[NA z]at h1;cases h1
  simp only[O2,NE,Ou hlt,NM,No]at h2;rw[<-h2];exact hc i c h1
 |_=>exact hc 0 _ rfl
theorem kq{e:PV}{u:Nat->Value}(j:Nat)(hj:j<e.cells.length)(h1:(∀cs,e≠ .agg cs)->(u 0).oneCell'=true):(uX e u).cells[j]?=some (u j):=by
 cases e with
 |agg cs=>simp only[PV.cells]at hj;simp[uX,Value.cells,hj]
 |_=>
  have h0:j=0:=by simp[PV.cells]at hj;exact hj
  subst h0;have:=h1 (by intro cs;simp);simp only[uX];cases hu:u 0<;>first|rfl|(rw[hu]at this;simp[Value.oneCell']at this;done)
theorem qN{e:PV}{u:Nat->Value}(h1:(∀cs,e≠ .agg cs)->(u 0).oneCell'=true):(uX e u).cells.size=e.cells.length:=by
 cases e with
 |agg cs=>simp[uX,Value.cells,PV.cells]
 |_=>
  have:=h1 (by intro cs;simp);simp only[uX];cases hu:u 0<;>first|rfl|(rw[hu]at this;simp[Value.oneCell']at this;done)
theorem HR.consume{s ver:Nat}{b:Blk}(H:HR ah M h w)(hg:h.get (.l s)=some ⟨ver,some b⟩){loc:Bt}{c:Array Value}{t lo hi:Nat}(hl:M.io (.l s) ver=some loc)
  (B:BlkAt ah M w loc b c t lo hi):
  let M':=M.at (.l s) ver none (λx=>if x=loc.b then some c else M.rd x)
  HR ah M' (h.put (.l s) ⟨ver,none⟩) w/\Stp M w M' w/\M'.rd loc.b=some c:=by
 intro M';have hne:∀r' v' loc',r'≠ .l s->M.io r' v'=some loc'->loc'.b≠loc.b:=λr' v' loc' hr h1 e=>hr (H.inj _ _ _ _ _ _ h1 hl e);have hrd:RdLe M.rd M'.rd:=by
  intro x vs hx;show(if x=loc.b then some c else M.rd x)=some vs;by_cases hxb:x=loc.b
  ·subst hxb;rw[Nt rfl];cases hro:b.ro with
   |true=>rw[B.ro hro]at hx;exact hx
   |false=>rw[B.rw_ hro]at hx;cases hx
  ·rw[Nw hxb];exact hx
 have hcv:M.cv (.l s)=ver:=H.cv _ _ hg;have hio:∀r',r'≠ .l s->M'.io r'=M.io r':=λr' hr=>by funext v;show(if r'=.l s then _ else _)=_;rw[Nw hr]
 have hself:∀v,M'.io (.l s) v=none:=λv=>by show(if(ao.l s)=.l s then(if v=ver then none else none)else _)=_;rw[Nt rfl];split<;>rfl
 have le:M.le M':=⟨hrd,λr=>by
   show _<=(if r=.l s then ver else _);split
   ·rename_i hr;rw[hr,hcv];exact Ny _
   ·exact Ny _,λr v _=>by
   by_cases hr:r=.l s
   ·subst hr;exact .inr (hself v)
   ·left;rw[hio r hr]⟩
 have hrdb:M'.rd loc.b=some c:=by show(if loc.b=loc.b then _ else _)=_;rw[Nt rfl]
 refine⟨H.upd hg (by intro i hi;cases hi) le (λr' hr=>by show(if r'=.l s then _ else _)=_;rw[Nw hr]) hio (by show(if(ao.l s)=.l s then _ else _)=_;rw[Nt rfl])
  (λv hv=>absurd (hself v) hv) (λhb=>absurd rfl hb) (λb loc hb=>by cases hb) (λv loc r' v' loc' hr h1=>by rw[hself]at h1;cases h1) ?_ ?_,?_,hrdb⟩
 ·intro r' v' loc' hr h1;refine⟨rfl,?_⟩;show(if loc'.b=loc.b then some c else M.rd loc'.b)=_;rw[Nw (hne _ _ _ hr h1)]
 ·intro b1 vs h1;have h1':(if b1=loc.b then some c else M.rd b1)=some vs:=h1;by_cases hb:b1=loc.b
  ·subst hb;rw[Nt rfl]at h1';cases h1';exact⟨t,_,B.heap⟩
  ·rw[Nw hb]at h1';exact H.rd _ _ h1'
 ·refine⟨⟨hrd,rfl,rfl,rfl,Ny _,λ_ _ _=>rfl,λk hk=>?_,λk hk=>?_⟩,le⟩
  ·obtain⟨r,v,loc',hl',rfl⟩:=hk;by_cases hr:r=.l s
   ·subst hr;rw[hself]at hl';cases hl'
   ·rw[hio _ hr]at hl';exact .inl (cX hl')
  ·have hk':(if k=loc.b then some c else M.rd k)≠none:=hk;by_cases hb:k=loc.b
   ·subst hb;exact .inr (.inl (cX hl))
   ·rw[Nw hb]at hk';exact .inl hk'
theorem gI{n:Nat}(ih:∀{M:Mp}{h h':Heap}{v v':PV}{c:Value},(bc n v).run h=some (v',h')->HR ah M h w->VR ah M v c->∃M',Stp M w M' w/\HR ah M' h' w/\FR ah M'.rd v' c):
  ∀{es es':List PV}{M:Mp}{h h':Heap}{cs:Nat->Value},(HM.mapM (bc n) es).run h=some (es',h')->HR ah M h w->(∀i e,es[i]?=some e->VR ah M e (cs i))->
   ∃M',Stp M w M' w/\HR ah M' h' w/\es'.length=es.length/\∀(i:Nat)(e:PV),es'[i]?=some e->FR ah M'.rd e (cs i)
 |[],es',M,h,h',cs,hv,H,_=>by
  obtain⟨rfl,rfl⟩:=HM.run_ret_some hv;exact⟨M,.refl _ _,H,rfl,λi e hi=>by simp at hi⟩
 |e::es,es',M,h,h',cs,hv,H,hr=>by
  obtain⟨y,h1,hy,hv⟩:=HM.run_bind_some hv;obtain⟨ys,h2,hys,hv⟩:=HM.run_bind_some hv;obtain⟨rfl,rfl⟩:=HM.run_ret_some hv;obtain⟨M1,S1,H1,F1⟩:=ih hy H (hr 0 e rfl);obtain⟨M2,S2,H2,L2,F2⟩:=gI ih (cs:=λi=>cs (i+1)) hys H1 (λi e' hi=>(hr (i+1) e' hi).mono S1.le);refine⟨M2,S1.trans S2,H2,by simp[L2],λi e' hi=>?_⟩;cases i with
  |zero=>simp only[Nz,No]at hi;subst hi;exact F1.mono ah S2.rd
  |succ i=>simp only[Oo]at hi;exact F2 i e' hi
theorem iB:∀(n:Nat){M:Mp}{h h':Heap}{v v':PV}{c:Value},(bc n v).run h=some (v',h')->HR ah M h w->VR ah M v c->
  ∃M',Stp M w M' w/\HR ah M' h' w/\FR ah M'.rd v' c
 |0,M,h,h',v,v',c,hv,H,hx=>by simp[bc,HM.run]at hv
 | n+1,M,h,h',v,v',c,hv,H,hx=>by
  have many:∀(cs:List PV)(vs:Array Value){cs':List PV}{h1:Heap},(HM.mapM (bc n) cs).run h=some (cs',h1)->cs.length=vs.size->
    (∀(i:Nat)(e:PV)(u:Value),cs[i]?=some e->vs[i]?=some u->VR ah M e u)->
    ∃M',Stp M w M' w/\HR ah M' h1 w/\cs'.length=vs.size/\∀(i:Nat)(e:PV)(u:Value),cs'[i]?=some e->vs[i]?=some u->FR ah M'.rd e u:=by
   intro cs vs cs' h1 hm hl hr;obtain⟨M1,S1,H1,L1,F1⟩:=gI (iB n) (cs:=λi=>vs.getD i undef) hm H (λi e hi=>by
    have hlt:i<vs.size:=by
     rw[<-hl];rcases NI i cs.length with z|z
     ·exact z
     ·rw[NA z]at hi;cases hi
    have:=hr i e vs[i] hi (NK hlt);simpa[hlt]using this)
   refine⟨M1,S1,H1,by omega,λi e u hi hu=>?_⟩;have:=F1 i e hi;simpa[hu]using this
  unfold bc at hv;cases v with
  | tok r ver sz off len room c0=>
   cases r with
   |a i=>simp[HM.run]at hv
   |dead=>simp[HM.run]at hv
   | l s=>
    simp only at hv;obtain⟨a,cap,rfl,hver,k2,k3,k4,k5⟩:=hx.tok_inv;by_cases hl0:len=0
    ·rw[Nt hl0]at hv;obtain⟨rfl,rfl⟩:=HM.run_ret_some hv;subst hl0;exact⟨M,.refl _ _,H,.lst [] c0 a cap 0 (λ_ _=>undef) (by simp) k4 (by simp) (by simp) (by simp)⟩
    rw[Nw hl0]at hv;obtain⟨es,h1,hes,hv⟩:=HM.run_bind_some hv;obtain⟨es',h2,hes',hv⟩:=HM.run_bind_some hv;obtain⟨b2,h3,hb2,hv⟩:=HM.run_bind_some hv;obtain⟨rfl,hg2⟩:=aX hb2;obtain⟨e0,he0,hv⟩:=bu hv;obtain⟨rfl,rfl⟩:=HM.run_ret_some hv;simp only[elems,Nw hl0]at hes;obtain⟨b,h4,hb,hes⟩:=HM.run_bind_some hes;obtain⟨rfl,hg⟩:=aX hb;split at hes
    case isFalse=>simp[HM.run]at hes
    rename_i hc;obtain⟨rfl,rfl⟩:=HM.run_ret_some hes;obtain⟨loc,ca,ty,lo,hi,hl,B⟩:=H.live hg;obtain⟨e1,e2⟩:=k5 loc hl;have hlen:((b.es.drop off).take len).length=len:=by simp;omega
    rcases e2 with e2|⟨rfl,e2⟩
    ·omega
    have hget:∀(i:Nat)(e:PV),((b.es.drop off).take len)[i]?=some e->b.es[off+i]?=some e:=by
     intro i e hi;rw[N7]at hi;split at hi
     ·rw[N8]at hi;exact hi
     ·cases hi
    have hat:∀(i:Nat)(e:PV)(j:Nat)(x:PV),((b.es.drop off).take len)[i]?=some e->e.cells[j]?=some x->
      x.isCell=true/\ca[loc.base+(off+i)*sz+j]?=some (ca.getD (loc.base+(off+i)*sz+j) undef)/\VR ah M x (ca.getD (loc.base+(off+i)*sz+j) undef):=by
     intro i e j x hi hj;obtain⟨q1,u,q2,q3⟩:=(B.cells _ _ (hget i e hi)).2 j x hj;rw[hc.2]at q2;exact⟨q1,by simp[q2],by simpa[q2]using q3⟩
    obtain⟨M1,S1,H1,L1,F1⟩:=gI (iB n) (cs:=λi=>uX (((b.es.drop off).take len).getD i .junk) (λj=>ca.getD (loc.base+(off+i)*sz+j) undef)) hes' H (λi e hi=>by
     have hd:((b.es.drop off).take len).getD i .junk=e:=by simp[List.getD,hi]
     rw[hd];exact wX (λj x hj=>(hat i e j x hi hj).2.2))
    obtain⟨loc2,ca2,KU,lo2,hi2,hl2,B2⟩:=H1.live hg2;have hloc:loc2=loc:=by
     rcases S1.le.io (.l s) ver hver with e3|e3
     ·rw[e3,hl]at hl2;exact(O7 hl2).symm
     ·rw[e3]at hl2;cases hl2
    subst hloc;have hca:ca2=ca:=by
     have:=B2.heap;rw[B.heap]at this;simp only[No,Obj.cells.injEq]at this;exact this.1.symm
    subst hca;obtain⟨H2,S2,R2⟩:=H1.consume hg2 hl2 B2;refine⟨_,S1.trans S2,H2,?_⟩;have key:FR ah (M1.at (.l s) ver none (λx=>if x=loc2.b then some ca2 else M1.rd x)).rd (.lst es' c0) (.slice (some ⟨loc2.b,loc2.base+off*sz,none⟩) es'.length cap):=by
     refine .lst es' c0 _ cap sz (λi j=>ca2.getD (loc2.base+(off+i)*sz+j) undef) (by rw[L1,hlen];omega) k4 ?_ ?_ ?_
     all_goals
      intro i e'
      try intro j x
      intro hi;have hilt:i<((b.es.drop off).take len).length:=by
       rw[<-L1];rcases NI i es'.length with z|z
       ·exact z
       ·rw[NA z]at hi;cases hi
      have he:((b.es.drop off).take len)[i]?=some ((b.es.drop off).take len)[i]:=Ns hilt;have hF:=F1 i e' hi;have hd:((b.es.drop off).take len).getD i .junk=((b.es.drop off).take len)[i]:=by simp[List.getD,he]
      rw[hd]at hF;have hone:(∀cs,((b.es.drop off).take len)[i]≠ .agg cs)->(ca2.getD (loc2.base+(off+i)*sz+0) undef).oneCell'=true:=by
       intro hna;have hcl:((b.es.drop off).take len)[i].cells=[((b.es.drop off).take len)[i]]:=by
        cases hh:((b.es.drop off).take len)[i]<;>first|rfl|exact absurd hh (hna _)
       have h00:=hat i _ 0 ((b.es.drop off).take len)[i] he (by rw[hcl];rfl);exact h00.2.2.isCell_one h00.1
      have hsize:=qN (e:=((b.es.drop off).take len)[i]) (u:=λj=>ca2.getD (loc2.base+(off+i)*sz+j) undef) hone;have hlcells:((b.es.drop off).take len)[i].cells.length=sz:=by rw[(B.cells _ _ (hget i _ he)).1,hc.2]
     ·rw[hF.cells_size,hsize,hlcells]
     ·intro hj;obtain⟨u,h5,h6⟩:=hF.cells_at j x hj;have hjlt:j<((b.es.drop off).take len)[i].cells.length:=by
       rw[<-hsize,<-hF.cells_size];rcases NI j e'.cells.length with z|z
       ·exact z
       ·rw[NA z]at hj;cases hj
      rw[kq j hjlt hone]at h5;simp only[No]at h5;obtain⟨g1,g2,g3⟩:=hat i _ j _ he (Ns hjlt);refine⟨h6.isCell (by rw[<-h5];exact g3.isCell_one g1),rfl,ca2,R2,?_⟩;rw[<-g2];show ca2[loc2.base+off*sz+(i*sz+j)]?=_;congr 1;rw[N6];omega
     ·intro hj;obtain⟨u,h5,h6⟩:=hF.cells_at j x hj;have hjlt:j<((b.es.drop off).take len)[i].cells.length:=by
       rw[<-hsize,<-hF.cells_size];rcases NI j e'.cells.length with z|z
       ·exact z
       ·rw[NA z]at hj;cases hj
      rw[kq j hjlt hone]at h5;simp only[No]at h5;rw[h5];exact h6.mono ah S2.rd
    rw[L1,hlen]at key;exact key
  | ptr r ver i o=>
   cases r with
   |a i=>simp[HM.run]at hv
   |dead=>simp[HM.run]at hv
   | l s=>
    simp only at hv;obtain⟨a,rfl,hver,k5⟩:=hx.ptr_inv;obtain⟨b,h1,hb,hv⟩:=HM.run_bind_some hv;obtain⟨rfl,hg⟩:=aX hb;split at hv
    case h_2=>simp[HM.run]at hv
    rename_i e he;obtain⟨cs',h2,hcs',hv⟩:=HM.run_bind_some hv;obtain⟨b2,h3,hb2,hv⟩:=HM.run_bind_some hv;obtain⟨rfl,hg2⟩:=aX hb2;obtain⟨e0,he0,hv⟩:=bu hv;obtain⟨rfl,rfl⟩:=HM.run_ret_some hv;obtain⟨loc,ca,ty,lo,hi,hl,B⟩:=H.live hg;have ha:=k5 loc hl;subst ha;obtain⟨q0,q1⟩:=B.cells i e he;obtain⟨M1,S1,H1,L1,F1⟩:=gI (iB n) (cs:=λj=>ca.getD (loc.base+i*b.sz+j) undef) hcs' H (λj x hj=>by
     obtain⟨_,u,q2,q3⟩:=q1 j x hj;simpa[q2]using q3)
    obtain⟨loc2,ca2,KU,lo2,hi2,hl2,B2⟩:=H1.live hg2;have hloc:loc2=loc:=by
     rcases S1.le.io (.l s) ver hver with e3|e3
     ·rw[e3,hl]at hl2;exact(O7 hl2).symm
     ·rw[e3]at hl2;cases hl2
    subst hloc;have hca:ca2=ca:=by
     have:=B2.heap;rw[B.heap]at this;simp only[No,Obj.cells.injEq]at this;exact this.1.symm
    subst hca;obtain⟨H2,S2,R2⟩:=H1.consume hg2 hl2 B2;refine⟨_,S1.trans S2,H2,.lptr _ _ (λj=>ca2.getD (loc2.base+i*b.sz+(o+j)) undef) ?_ ?_ rfl⟩
    ·intro j c hj;rw[N8]at hj;have hjlt:o+j<e.cells.length:=by
      rw[<-L1];rcases NI (o+j) cs'.length with z|z
      ·exact z
      ·rw[NA z]at hj;cases hj
     obtain⟨g1,u,g2,g3⟩:=q1 (o+j) _ (Ns hjlt);have hF:=F1 _ _ hj;have hu:ca2.getD (loc2.base+i*b.sz+(o+j)) undef=u:=by simp[g2]
     rw[hu]at hF;refine⟨hF.isCell (g3.isCell_one g1),rfl,ca2,R2,?_⟩;show ca2[loc2.base+i*loc2.sz+o+j]?=_;rw[B.sz,Pu,g2];simp[g2]
    ·intro j c hj;rw[N8]at hj;exact(F1 _ _ hj).mono ah S2.rd
  |agg cs=>
   simp only at hv;obtain⟨cs',h1,hm,hv⟩:=HM.run_bind_some hv;obtain⟨rfl,rfl⟩:=HM.run_ret_some hv;obtain⟨vs,rfl,q1,q2⟩:=hx.agg_inv;obtain⟨M1,S1,H1,L1,F1⟩:=many cs vs hm q1 q2;exact⟨M1,S1,H1,.agg _ _ L1 F1⟩
  |tup cs=>
   simp only at hv;obtain⟨cs',h1,hm,hv⟩:=HM.run_bind_some hv;obtain⟨rfl,rfl⟩:=HM.run_ret_some hv;obtain⟨vs,rfl,q1,q2⟩:=hx.tup_inv;obtain⟨M1,S1,H1,L1,F1⟩:=many cs vs hm q1 q2;exact⟨M1,S1,H1,.tup _ _ L1 F1⟩
  | fn f cs=>
   simp only at hv;by_cases he:cs.isEmpty=true
   ·rw[Nt he]at hv;obtain⟨rfl,rfl⟩:=HM.run_ret_some hv;have:cs=[]:=by simpa using he
    subst this;obtain⟨vs,rfl,q1,_⟩:=hx.fn_inv;have:vs= #[]:=by simpa using q1.symm
    subst this;exact⟨M,.refl _ _,H,.fn f⟩
   ·rw[Nw he]at hv;simp[HM.run]at hv
  |junk=>simp[HM.run]at hv
  |int k m=>obtain⟨rfl,rfl⟩:=HM.run_ret_some hv;cases hx with|fr hx=>exact⟨M,.refl _ _,H,hx⟩
  |bool k=>obtain⟨rfl,rfl⟩:=HM.run_ret_some hv;cases hx with|fr hx=>exact⟨M,.refl _ _,H,hx⟩
  |str k=>obtain⟨rfl,rfl⟩:=HM.run_ret_some hv;cases hx with|fr hx=>exact⟨M,.refl _ _,H,hx⟩
  |nils=>obtain⟨rfl,rfl⟩:=HM.run_ret_some hv;cases hx with|fr hx=>exact⟨M,.refl _ _,H,hx⟩
  |lst es c0=>obtain⟨rfl,rfl⟩:=HM.run_ret_some hv;cases hx with|fr hx=>exact⟨M,.refl _ _,H,hx⟩
  |nilp=>obtain⟨rfl,rfl⟩:=HM.run_ret_some hv;cases hx with|fr hx=>exact⟨M,.refl _ _,H,hx⟩
  |lptr cs=>obtain⟨rfl,rfl⟩:=HM.run_ret_some hv;cases hx with|fr hx=>exact⟨M,.refl _ _,H,hx⟩
  |nilfn=>obtain⟨rfl,rfl⟩:=HM.run_ret_some hv;cases hx with|fr hx=>exact⟨M,.refl _ _,H,hx⟩
end
end Gv
