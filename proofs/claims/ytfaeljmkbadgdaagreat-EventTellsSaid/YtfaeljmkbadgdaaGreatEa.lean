/- A part of the proof that the law is true of all its inputs, by an interpreter that is proved sound. -/
import GoSem.Core.Code
import GoSem.Dispatch
import Derived.Below
import Derived.LoopN
import Derived.Orders
import Derived.Laws.AppendOwn
import Derived.Laws.CopyOwn
import Derived.WalkKit
import Derived.Laws.Strings
import Derived.Laws.Tables
import Derived.Laws.StructEq
namespace Gv
theorem O5:type_of% @Option.some.injEq.{0}:=@Option.some.injEq
theorem O6:type_of% @Bool.and_eq_true:=@Bool.and_eq_true
theorem O7:type_of% @beq_self_eq_true.{0}:=@beq_self_eq_true
theorem O8:type_of% @List.mem_append_right.{0}:=@List.mem_append_right
theorem O9:type_of% @if_pos.{1}:=@if_pos
theorem Pa:type_of% @List.getElem?_eq_getElem.{0}:=@List.getElem?_eq_getElem
theorem Pc:type_of% @List.mem_append_left.{0}:=@List.mem_append_left
theorem Pd:type_of% @if_neg.{1}:=@if_neg
theorem Pe:type_of% @List.mem_cons_of_mem.{0}:=@List.mem_cons_of_mem
theorem Pf:type_of% @Nat.le_refl:=@Nat.le_refl
theorem Pg:type_of% @List.getElem?_cons_zero.{0}:=@List.getElem?_cons_zero
theorem Ph:type_of% @List.getElem?_eq_none.{0}:=@List.getElem?_eq_none
theorem Pi:type_of% @List.nil_append.{0}:=@List.nil_append
theorem Pj:type_of% @List.mem_cons_self.{0}:=@List.mem_cons_self
theorem Pk:type_of% @List.getElem?_map.{0,0}:=@List.getElem?_map
theorem Pl:type_of% @List.mem_of_getElem?.{0}:=@List.mem_of_getElem?
theorem Po:type_of% @decide_eq_false:=@decide_eq_false
theorem Pp:type_of% @List.getElem?_append_right.{0}:=@List.getElem?_append_right
theorem Pq:type_of% @Prod.mk.injEq.{0,0}:=@Prod.mk.injEq
theorem Ps:type_of% @Bool.false_eq_true:=@Bool.false_eq_true
theorem Pt:type_of% @Nat.lt_or_ge:=@Nat.lt_or_ge
theorem Pu:type_of% @List.length_append.{0}:=@List.length_append
theorem Pv:type_of% @Array.getElem?_eq_getElem.{0}:=@Array.getElem?_eq_getElem
theorem Pw:type_of% @List.length_take.{0}:=@List.length_take
theorem Px:type_of% @List.mem_singleton.{0}:=@List.mem_singleton
theorem Py:type_of% @Option.map_some.{0,0}:=@Option.map_some
theorem Pz:type_of% @List.getElem?_append_left.{0}:=@List.getElem?_append_left
theorem PA:type_of% @Nat.mul_le_mul_right:=@Nat.mul_le_mul_right
theorem PB:type_of% @List.append_nil.{0}:=@List.append_nil
theorem PC:type_of% @Bool.not_eq_true':=@Bool.not_eq_true'
theorem PD:type_of% @decide_eq_false_iff_not:=@decide_eq_false_iff_not
theorem PE:type_of% @Bool.and_self:=@Bool.and_self
theorem PF:type_of% @beq_iff_eq.{0}:=@beq_iff_eq
theorem PG:type_of% @decide_eq_true_eq:=@decide_eq_true_eq
theorem PH:type_of% @decide_eq_true:=@decide_eq_true
theorem PI:type_of% @Option.map_eq_some_iff.{0,0}:=@Option.map_eq_some_iff
theorem PJ:type_of% @List.length_cons.{0}:=@List.length_cons
theorem PK:type_of% @Option.getD_some.{0}:=@Option.getD_some
theorem PL:type_of% @Nat.add_mul:=@Nat.add_mul
theorem PM:type_of% @List.map_cons.{0,0}:=@List.map_cons
theorem PN:type_of% @List.getElem?_take.{0}:=@List.getElem?_take
theorem PP:type_of% @List.getElem?_drop.{0}:=@List.getElem?_drop
theorem PQ:type_of% @if_true.{1}:=@if_true
theorem PS:type_of% @if_false.{1}:=@if_false
theorem PT:type_of% @List.length_nil.{0}:=@List.length_nil
theorem PU:type_of% @List.length_map.{0,0}:=@List.length_map
theorem PW:type_of% @List.contains_eq_mem.{0}:=@List.contains_eq_mem
theorem PX:type_of% @Bool.false_and:=@Bool.false_and
theorem PY:type_of% @Bool.true_and:=@Bool.true_and
theorem PZ:type_of% @Nat.zero_add:=@Nat.zero_add
theorem P0:type_of% @List.mem_map_of_mem.{0,0}:=@List.mem_map_of_mem
theorem P2:type_of% @Bool.and_true:=@Bool.and_true
theorem P4:type_of% @List.all_eq_true.{0}:=@List.all_eq_true
theorem P5:type_of% @List.getElem?_set_self.{0}:=@List.getElem?_set_self
theorem P6:type_of% @List.append_assoc.{0}:=@List.append_assoc
theorem P7:type_of% @List.length_drop.{0}:=@List.length_drop
theorem P8:type_of% @Int.ofNat_lt:=@Int.ofNat_lt
theorem P9:type_of% @List.eq_nil_of_length_eq_zero.{0}:=@List.eq_nil_of_length_eq_zero
theorem Qa:type_of% @List.getElem?_set_ne.{0}:=@List.getElem?_set_ne
theorem Qb:type_of% @of_decide_eq_true:=@of_decide_eq_true
theorem Qc:type_of% @List.getElem?_cons_succ.{0}:=@List.getElem?_cons_succ
theorem Qd:type_of% @List.getElem?_replicate.{0}:=@List.getElem?_replicate
theorem Qe:type_of% @Array.getElem?_setIfInBounds_ne.{0}:=@Array.getElem?_setIfInBounds_ne
theorem Qf:type_of% @Nat.zero_le:=@Nat.zero_le
theorem Qg:type_of% @not_true_eq_false:=@not_true_eq_false
theorem Qh:type_of% @Array.getElem?_setIfInBounds_self_of_lt.{0}:=@Array.getElem?_setIfInBounds_self_of_lt
theorem Qi:type_of% @List.getElem?_range:=@List.getElem?_range
theorem Qj:type_of% @List.replicate_succ.{0}:=@List.replicate_succ
theorem Qk:type_of% @List.isEmpty_iff.{0}:=@List.isEmpty_iff
theorem Ql:type_of% @Array.getD_eq_getD_getElem?.{0}:=@Array.getD_eq_getD_getElem?
theorem Qm:type_of% @Array.toArray_toList.{0}:=@Array.toArray_toList
theorem Qn:type_of% @List.mem_of_mem_drop.{0}:=@List.mem_of_mem_drop
theorem Qo:type_of% @List.mem_of_mem_take.{0}:=@List.mem_of_mem_take
theorem Qp:type_of% @Nat.add_zero:=@Nat.add_zero
theorem Qq:type_of% @List.length_filter_le.{0}:=@List.length_filter_le
theorem Qr:type_of% @Array.getElem?_append_left.{0}:=@Array.getElem?_append_left
theorem Qs:type_of% @Nat.le_trans:=@Nat.le_trans
theorem Qt:type_of% @Bool.or_eq_true:=@Bool.or_eq_true
theorem Qu:type_of% @List.cons_append.{0}:=@List.cons_append
theorem Qv:type_of% @List.take_of_length_le.{0}:=@List.take_of_length_le
theorem Qw:type_of% @not_false_eq_true:=@not_false_eq_true
theorem Qx:type_of% @List.mem_cons.{0}:=@List.mem_cons
theorem Qy:type_of% @Bool.not_false:=@Bool.not_false
theorem Qz:type_of% @List.length_replicate.{0}:=@List.length_replicate
theorem QA:type_of% @or_self:=@or_self
theorem QC:type_of% @false_and:=@false_and
theorem QD:type_of% @Option.isSome_some.{0}:=@Option.isSome_some
theorem QE:type_of% @and_false:=@and_false
theorem QF:type_of% @Bool.not_true:=@Bool.not_true
theorem QG:type_of% @List.sum_cons.{0}:=@List.sum_cons
theorem QH:type_of% @Array.getElem?_eq_none.{0}:=@Array.getElem?_eq_none
theorem QI:type_of% @List.flatMap_cons.{0,0}:=@List.flatMap_cons
theorem QJ:type_of% @Array.getElem?_toList.{0}:=@Array.getElem?_toList
theorem QK:type_of% @Classical.choose_spec.{1}:=@Classical.choose_spec
theorem QM:type_of% @List.map_nil.{0,0}:=@List.map_nil
theorem QN:type_of% @Bool.false_or:=@Bool.false_or
theorem QO:type_of% @List.getElem?_of_mem.{0}:=@List.getElem?_of_mem
theorem QP:type_of% @or_true:=@or_true
theorem QQ:type_of% @Int.eq_ofNat_of_zero_le:=@Int.eq_ofNat_of_zero_le
theorem QR:type_of% @List.map_append.{0,0}:=@List.map_append
theorem QS:type_of% @List.mem_append.{0}:=@List.mem_append
theorem QT:type_of% @Array.length_toList.{0}:=@Array.length_toList
theorem QU:type_of% @List.getD_eq_getElem?_getD.{0}:=@List.getD_eq_getElem?_getD
theorem QV:type_of% @List.getElem?_toArray.{0}:=@List.getElem?_toArray
theorem QW:type_of% @Option.isSome_none.{0}:=@Option.isSome_none
theorem QX:type_of% @List.filter_append.{0}:=@List.filter_append
theorem QY:type_of% @true_or:=@true_or
theorem QZ:type_of% @decide_true:=@decide_true
theorem Q0:type_of% @Option.some.inj.{0}:=@Option.some.inj
theorem Q2:type_of% @beq_eq_false_iff_ne.{0}:=@beq_eq_false_iff_ne
theorem Q3:type_of% @List.take_succ_cons.{0}:=@List.take_succ_cons
theorem Q4:type_of% @Bool.and_false:=@Bool.and_false
theorem Q5:type_of% @or_false:=@or_false
theorem Q6:type_of% @Array.getElem?_map.{0,0}:=@Array.getElem?_map
theorem Q7:type_of% @List.cons.injEq.{0}:=@List.cons.injEq
theorem Q8:type_of% @List.take_append_drop.{0}:=@List.take_append_drop
theorem Q9:type_of% @Bool.and_eq_false_iff:=@Bool.and_eq_false_iff
theorem Rb:type_of% @List.nodup_cons.{0}:=@List.nodup_cons
theorem Rc:type_of% @and_true:=@and_true
theorem Rd:type_of% @List.drop_drop.{0}:=@List.drop_drop
theorem Re:type_of% @Nat.mul_le_mul:=@Nat.mul_le_mul
theorem Rf:type_of% @List.drop_zero.{0}:=@List.drop_zero
theorem Rh:type_of% @Bool.not_eq_true:=@Bool.not_eq_true
theorem Ri:type_of% @decide_false:=@decide_false
theorem Rj:type_of% @Nat.add_assoc:=@Nat.add_assoc
theorem Rk:type_of% @List.length_set.{0}:=@List.length_set
theorem Rl:type_of% @Nat.one_mul:=@Nat.one_mul
open Go (IntKind BinOp UnOp)
inductive aq where
 |a (i:Nat)
 |l (s:Nat)
 |dead
 deriving DecidableEq,Inhabited
inductive PV where
 |int (k:IntKind) (n:Int)
 |bool (b:Bool)
 |str (s:List UInt8)
 |nils
 |lst (es:List PV) (c0:Bool)
 |tok (r:aq) (ver sz off len room:Nat) (c0:Bool)
 |ptr (r:aq) (ver i o:Nat)
 |nilp
 |lptr (cs:List PV)
 |agg (cs:List PV)
 |tup (vs:List PV)
 |fn (f:Nat) (caps:List PV)
 |nilfn
 |junk
 deriving Inhabited
structure Blk where
 sz:Nat
 es:List PV
 ro:Bool:=false
structure fg where
 ver:Nat
 blk:Option Blk
structure Heap where
 A:List (Option Blk)
 L:List fg
def Heap.get(h:Heap):aq->Option fg
 |.a i=>match h.A[i]? with|some b=>some ⟨0,b⟩|none=>none
 |.l s=>h.L[s]?
 |.dead=>none
def Heap.put(h:Heap):aq->fg->Heap
 |.a i,e=>⟨h.A.set i e.blk,h.L⟩
 |.l s,e=>⟨h.A,h.L.set s e⟩
 |.dead,_=>h
inductive HM (α:Type) where
 |ret (a:α)
 |fail
 |get (r:aq) (k:fg->HM α)
 |set (r:aq) (e:fg) (k:HM α)
namespace HM
def bind{α β:Type}:HM α->(α->HM β)->HM β
 |.ret a,f=>f a
 |.fail,_=>.fail
 |.get r k,f=>.get r λe=>(k e).bind f
 |.set r e k,f=>.set r e (k.bind f)
def run{α:Type}:HM α->Heap->Option (α×Heap)
 |.ret a,h=>some (a,h)
 |.fail,_=>none
 |.get r k,h=>match h.get r with|some e=>(k e).run h|none=>none
 |.set r e k,h=>match h.get r with|some _=>k.run (h.put r e)|none=>none
def runT{α:Type}:HM α->Heap->Option (α×Heap×List aq×List aq)
 |.ret a,h=>some (a,h,[],[])
 |.fail,_=>none
 |.get r k,h=>match h.get r with
  |some e=>match(k e).runT h with|some (a,h',R,W)=>some (a,h',r::R,W)|none=>none
  |none=>none
 |.set r e k,h=>match h.get r with
  |some _=>match k.runT (h.put r e)with|some (a,h',R,W)=>some (a,h',R,r::W)|none=>none
  |none=>none
def mapM{α β:Type}(f:α->HM β):List α->HM (List β)
 |[]=>.ret []
 |x::xs=>(f x).bind λy=>(mapM f xs).bind λys=>.ret (y::ys)
def ofO{α:Type}:Option α->HM α
 |some a=>.ret a
 |none=>.fail
def guard(b:Bool):HM Unit:=if b then .ret ()else .fail
end HM
def PV.isCell:PV->Bool
 |.agg _=>false
 |.tup _=>false
 |.junk=>false
 |_=>true
def aj:List PV->Bool
 |[]=>true
 |v::vs=>v.isCell&&aj vs
def PV.cells:PV->List PV
 |.agg cs=>cs
 |v=>[v]
def PV.withCells(old:PV)(cs:List PV):PV:=
 match old with
 |.agg _=>.agg cs
 |_=>cs.headD .junk
def dD(cs:List PV)(o:Nat):Option Nat->Option PV
 |none=>cs[o]?
 |some n=>if o+n<=cs.length then some (.agg ((cs.drop o).take n))else none
def PV.fits(v:PV):Option Nat->Bool
 |none=>match v with|.agg _=>false|.tup _=>false|.junk=>false|_=>true
 |some n=>match v with|.agg cs=>cs.length==n|_=>false
def bS(r:aq)(ver:Nat):HM Blk:=
 .get r λe=>if e.ver=ver then HM.ofO e.blk else .fail
def eG(s:Nat)(b:Blk):HM Nat:=
 .get (.l s) λe=>.set (.l s) ⟨e.ver+1,some b⟩ (.ret (e.ver+1))
def elems:PV->HM (List PV)
 |.nils=>.ret []
 |.lst es _=>.ret es
 |.str s=>.ret (s.map λb=>.int .u8 b.toNat)
 |.tok r ver sz off len _ _=>
  if len=0 then .ret []else
  (bS r ver).bind λb=>if off+len<=b.es.length/\b.sz=sz then .ret ((b.es.drop off).take len)else .fail
 |_=>.fail
mutual
def kt:PV->List (aq×Nat)
 |.tok r v _ _ _ _ _=>[(r,v)]
 |.ptr r v _ _=>[(r,v)]
 |.agg cs=>bi cs
 |.tup cs=>bi cs
 |.fn _ cs=>bi cs
 |_=>[]
def bi:List PV->List (aq×Nat)
 |[]=>[]
 |x::xs=>kt x++bi xs
end
mutual
def ren(f:aq->Nat->Option (aq×Nat)):PV->PV
 |.tok r v sz off len room c0=>match f r v with|some (r',v')=>.tok r' v' sz off len room c0|none=>.tok .dead 0 sz off len room c0
 |.ptr r v i o=>match f r v with|some (r',v')=>.ptr r' v' i o|none=>.ptr .dead 0 i o
 |.agg cs=>.agg (co f cs)
 |.tup cs=>.tup (co f cs)
 |.fn g cs=>.fn g (co f cs)
 |v=>v
def co(f:aq->Nat->Option (aq×Nat)):List PV->List PV
 |[]=>[]
 |x::xs=>ren f x::co f xs
end
def Blk.ren(f:aq->Nat->Option (aq×Nat))(b:Blk):Blk:=⟨b.sz,co f b.es,b.ro⟩
def bp:Nat->PV->HM PV
 |0,_=>.fail
 | n+1,v=>match v with
  |.tok r ver sz off len _ c0=>match r with
   |.a _=>.fail
   |.dead=>.fail
   | .l s=>if len=0 then .ret (.lst [] c0)else
     (elems (.tok (.l s) ver sz off len 0 c0)).bind λes=>(HM.mapM (bp n) es).bind λes'=>
     (bS (.l s) ver).bind λ_=>.set (.l s) ⟨ver,none⟩ (.ret (.lst es' c0))
  | .ptr r ver i o=>match r with
   |.a _=>.fail
   |.dead=>.fail
   |.l s=>(bS (.l s) ver).bind λb=>match b.es[i]? with
    |some e=>(HM.mapM (bp n) e.cells).bind λcs=>(bS (.l s) ver).bind λ_=>.set (.l s) ⟨ver,none⟩ (.ret (.lptr (cs.drop o)))
    |none=>.fail
  |.agg cs=>(HM.mapM (bp n) cs).bind λcs=>.ret (.agg cs)
  |.tup cs=>(HM.mapM (bp n) cs).bind λcs=>.ret (.tup cs)
  |.fn g cs=>if cs.isEmpty then .ret (.fn g [])else .fail
  |.junk=>.fail
  |v=>.ret v
mutual
def fN:PV->Bool
 |.tok _ _ _ _ _ _ _=>false
 |.ptr _ _ _ _=>false
 |.junk=>false
 |.agg cs=>dv cs
 |.tup cs=>dv cs
 |.fn _ cs=>cs.isEmpty
 |_=>true
def dv:List PV->Bool
 |[]=>true
 |x::xs=>fN x&&dv xs
end
def qh(f:PV->HM (PV×List (aq×Nat×Blk))):List PV->HM (List PV×List (aq×Nat×Blk))
 |[]=>.ret ([],[])
 |x::xs=>(f x).bind λy=>(qh f xs).bind λys=>.ret (y.1::ys.1,y.2++ys.2)
def bR:Nat->PV->HM (PV×List (aq×Nat×Blk))
 |0,_=>.fail
 | n+1,v=>match v with
  | .tok r ver sz off len _ c0=>if len=0 then .ret (.lst [] c0,[])else
   (bS r ver).bind λb=>if off+len<=b.es.length/\b.sz=sz then
    (qh (bR n) ((b.es.drop off).take len)).bind λes=>if dv es.1 then .ret (.lst es.1 c0,(r,ver,b)::es.2)else .fail
   else .fail
  |.agg cs=>(qh (bR n) cs).bind λcs=>.ret (.agg cs.1,cs.2)
  |v=>.ret (v,[])
def gx:Nat->List (aq×Nat)->List (aq×Nat×Blk)->HM (List (aq×Nat×Blk))
 |0,_,_=>.fail
 |_+1,[],acc=>.ret acc
 | n+1,(r,v)::rest,acc=>
  if acc.any (λx=>x.1==r&&x.2.1==v)then gx n rest acc else
  if r=.dead then gx n rest acc else
  .get r λe=>match e.blk with
   |some b=>if e.ver=v then gx n (rest++bi b.es) (acc++[(r,v,b)])else gx n rest acc
   |none=>gx n rest acc
def fV(r:aq)(v:Nat):List (aq×Nat×Blk)->Nat->Option Nat
 |[],_=>none
 |(r',v',_)::rest,k=>if r'=r/\v'=v then some k else fV r v rest (k+1)
def lG:List PV->Nat->PV
 |[],_=>.junk
 |x::_,0=>x
 |_::xs,n+1=>lG xs n
def upd:List PV->Nat->PV->List PV
 |[],_,_=>[]
 |_::xs,0,v=>v::xs
 |x::xs,n+1,v=>x::upd xs n v
inductive PO where
 |t (n:Nat)
 |c (v:PV)
def PO.ev(fr:List PV):PO->PV
 |.t n=>lG fr n
 |.c v=>v
inductive IOp where
 |mov (x:PO)
 |pick (c a b:PO)
 |box (sz:Option Nat) (x:PO) (s:Nat)
 |boxA (n:Nat) (z:PV) (s:Nat)
 |build (zero:List PV) (parts:List (Nat×Option Nat×PO))
 |buildSlice (sz:Option Nat) (parts:List PO) (s:Nat)
 |load (sz:Option Nat) (x:PO)
 |store (sz:Option Nat) (x y:PO)
 |nilchk (x:PO)
 |bin (op:BinOp) (x y:PO)
 |eqs (neg:Bool) (ks:List Bool) (x y:PO)
 |eqb (neg:Bool) (x y:PO)
 |eqn (k:Nat) (neg:Bool) (x y:PO)
 |un (op:UnOp) (x:PO)
 |toInt (k:IntKind) (x:PO)
 |b2s (x:PO)
 |s2b (x:PO) (s:Nat)
 |slice (sz:Nat) (x:PO) (lo hi mx:Option PO)
 |fieldAddr (x:PO) (off:Nat)
 |field (sz:Option Nat) (x:PO) (off:Nat)
 |indexAddr (sz:Nat) (x i:PO)
 |idxArr (n sz:Nat) (x i:PO)
 |idxArrB (n sz:Nat) (x i:PO)
 |storeA (m:Nat) (x y:PO)
 |sliceArr (n sz:Nat) (x:PO) (lo hi:Option PO)
 |extract (x:PO) (i:Nat)
 |mkfn (f:Nat) (caps:List PO)
 |mkslice (sz:Nat) (z:PV) (n:PO) (s:Nat)
 |call (f:Nat) (args:List PO) (s:Nat)
 |callv (f:PO) (args:List PO) (s:Nat)
 |append (sz:Nat) (x y:PO) (s:Nat)
 |copy (sz:Nat) (x y:PO)
 |clear(z:PV) (x:PO)
 |len (x:PO)
 |lenS (x:PO)
 |mm (isMax:Bool) (xs:List PO)
 |same (x:PO)
 |sidx (x i:PO)
 |callD (f:Nat) (args:List PO) (s cap:Nat)
 |bad
structure IOper where
 dst:Option Nat
 op:IOp
 guard:Option (Nat×Bool)
 bef:List Nat
inductive Adj where
 |cell (t j:Nat) (h:Option Nat)
 |tmp (t:Nat) (h:Option Nat)
inductive eZ where
 |skip
 |reg (ops:List IOper) (draw:Bool)
 |seq (a b:eZ)
 |cond (c:PO) (x y:eZ)
 |block (id:Nat) (c:eZ)
 |loop (c:eZ)
 |exit (id:Nat)
 |ret
 |adj (js:List Adj) (c:eZ)
 |post (c:eZ) (js:List Adj)
inductive uR where
 |tmp (t:Nat)
 |cell (sz:Option Nat) (t:Nat)
structure am where
 ntmps:Nat
 nslots:Nat
 frz:Bool
 ro:List Bool
 res:List uR
 body:eZ
 intr:Option (List PV->List Blk->Option (PV×List (Option Blk)))
def aY(op:BinOp)(k:IntKind)(a:Int)(k':IntKind)(b:Int):Option PV:=
 match op with
 |.shl=>if b<0 then none else some (.int k (k.wrap (a*2^(min b.toNat k.bits))))
 |.shr=>if b<0 then none else some (.int k (a.fdiv (2^(min b.toNat k.bits))))
 |op=>if k≠k' then none else match op with
  |.add=>some (.int k (k.wrap (a+b)))
  |.sub=>some (.int k (k.wrap (a-b)))
  |.mul=>some (.int k (k.wrap (a*b)))
  |.quo=>if b=0 then none else some (.int k (k.wrap (a.tdiv b)))
  |.rem=>if b=0 then none else some (.int k (a.tmod b))
  |.and=>some (.int k (k.wrap (BitVec.ofInt k.bits a&&&BitVec.ofInt k.bits b).toNat))
  |.or=>some (.int k (k.wrap (BitVec.ofInt k.bits a|||BitVec.ofInt k.bits b).toNat))
  |.xor=>some (.int k (k.wrap (BitVec.ofInt k.bits a^^^BitVec.ofInt k.bits b).toNat))
  |.andNot=>some (.int k (k.wrap (BitVec.ofInt k.bits a&&& ~~~BitVec.ofInt k.bits b).toNat))
  |.eql=>some (.bool (a==b))
  |.neq=>some (.bool (a !=b))
  |.lss=>some (.bool (a<b))
  |.leq=>some (.bool (a<=b))
  |.gtr=>some (.bool (a>b))
  |.geq=>some (.bool (a>=b))
  |_=>none
def bin(op:BinOp)(x y:PV):Option PV:=
 match x,y with
 |.int k a,.int k' b=>aY op k a k' b
 |.str a,.str b=>match op with
  |.eql=>some (.bool (a==b))
  |.neq=>some (.bool (!(a==b)))
  |.add=>if a.length+b.length<2147483648 then some (.str (a++b))else none
  |_=>none
 |_,_=>none
def eqb(neg:Bool):PV->PV->Option PV
 |.bool a,.bool b=>some (.bool (if neg then !(a==b)else(a==b)))
 |_,_=>none
def Hf:PV->Option Bool
 |.nils=>some true
 |.lst _ _=>some false
 |.tok _ _ _ _ _ _ _=>some false
 |_=>none
def Br:PV->Option Bool
 |.nilp=>some true
 |.lptr _=>some false
 |.ptr _ _ _ _=>some false
 |_=>none
def B4:PV->Option Bool
 |.nilfn=>some true
 |.fn _ _=>some false
 |_=>none
def eqn(k:Nat)(neg:Bool)(x y:PV):Option PV:=
 match k with
 |0=>match x,y with
  |.nils,y=>(Hf y).map λb=>.bool (if neg then !b else b)
  |x,.nils=>(Hf x).map λb=>.bool (if neg then !b else b)
  |_,_=>none
 |1=>match x,y with
  |.nilp,y=>(Br y).map λb=>.bool (if neg then !b else b)
  |x,.nilp=>(Br x).map λb=>.bool (if neg then !b else b)
  |_,_=>none
 |_=>match x,y with
  |.nilfn,y=>(B4 y).map λb=>.bool (if neg then !b else b)
  |x,.nilfn=>(B4 x).map λb=>.bool (if neg then !b else b)
  |_,_=>none
def aK:List Bool->List PV->List PV->Option Bool
 |[],[],[]=>some true
 |false::ks,.int k a::xs,.int k' b::ys=>if k≠k' then none else match aK ks xs ys with|some r=>some (a==b&&r)|none=>none
 |true::ks,.bool a::xs,.bool b::ys=>match aK ks xs ys with|some r=>some (a==b&&r)|none=>none
 |_,_,_=>none
def un(op:UnOp)(x:PV):Option PV:=
 match op,x with
 |.neg,.int k n=>some (.int k (k.wrap (0-n)))
 |.xor,.int k n=>aY .xor k (if k.signed then-1 else k.max) k n
 |.not,.bool b=>some (.bool !b)
 |_,_=>none
def ru:PV->Option Nat
 |.int _ n=>if 0<=n then some n.toNat else none
 |_=>none
def aL(d:Nat):Option PV->Option Nat
 |none=>some d
 |some v=>ru v
def lW:List PV->Nat->Bool
 |[],_=>true
 |e::_,sz=>e.cells.length==sz
def kH(lo hi mx:Option PV):Option PV:=
 match aL 0 lo,aL 0 hi,aL 0 mx with
 |some l,some h,some m=>if l=0/\h=0/\m=0 then some .nils else none
 |_,_,_=>none
def rP(s:List UInt8)(lo hi:Option PV):Option PV:=
 match aL 0 lo,aL s.length hi with
 |some l,some h=>if l<=h/\h<=s.length then some (.str ((s.drop l).take (h-l)))else none
 |_,_=>none
def dt(sz:Nat)(es:List PV)(c0:Bool)(lo hi mx:Option PV):Option PV:=
 match aL 0 lo,aL es.length hi,aL es.length mx with
 |some l,some h,some m=>if l<=h/\h<=m/\m<=es.length/\lW es sz then some (.lst ((es.drop l).take (h-l)) (if mx.isSome then m==l else c0))else none
 |_,_,_=>none
def wi(r:aq)(v z off len room:Nat)(c0:Bool)(lo hi mx:Option PV):Option PV:=
 match aL 0 lo,aL len hi,aL room mx with
 |some l,some h,some m=>if l<=h/\h<=m/\m<=room then some (.tok r v z (off+l) (h-l) (m-l) (if mx.isSome then m==l else c0))else none
 |_,_,_=>none
def gB(sz:Nat)(x:PV)(lo hi mx:Option PV):Option PV:=
 if mx.isSome&&hi.isNone then none else
 match x with
 |.nils=>kH lo hi mx
 |.str s=>if mx.isSome then none else rP s lo hi
 |.lst es c0=>dt sz es c0 lo hi mx
 |.tok r v z off len room c0=>if z=sz then wi r v z off len room c0 lo hi mx else none
 |_=>none
def PV.isStr:PV->Bool
 |.str _=>true
 |_=>false
def cV(sz:Nat)(x:PV)(lo hi mx:Option PV):Option PV:=if x.isStr=(sz==0)then gB sz x lo hi mx else none
def bl(x:PV)(off:Nat):Option PV:=
 match x with
 |.ptr r v i o=>some (.ptr r v i (o+off))
 |.lptr cs=>some (.lptr (cs.drop off))
 |_=>none
def au(sz:Nat)(x i:PV):Option PV:=
 match i with
 |.int _ n=>match x with
  |.tok r v z off len _ _=>if z=sz/\0<=n/\n<len then some (.ptr r v (off+n.toNat) 0)else none
  | .lst es _=>if 0<=n/\n<es.length then(match es[n.toNat]? with
    |some e=>if e.cells.length=sz then some (.lptr e.cells)else none
    |none=>none)else none
  |_=>none
 |_=>none
def jJ(n sz:Nat)(x i:PV):Option PV:=
 match i with
 |.int _ j=>if 0<=j/\j<n then bl x (j.toNat*sz)else none
 |_=>none
def kW:List PV->List (Nat×Option Nat×PV)->Option (List PV)
 |cs,[]=>some cs
 |cs,(off,sz,v)::rest=>if v.fits sz/\off+v.cells.length<=cs.length then kW (cs.take off++v.cells++cs.drop (off+v.cells.length)) rest else none
def jN(sz:Option Nat)(x:PV):HM PV:=
 match x with
 |.ptr r v i o=>(bS r v).bind λb=>match b.es[i]? with
  |some e=>HM.ofO (dD e.cells o sz)
  |none=>.fail
 |.lptr cs=>HM.ofO (dD cs 0 sz)
 |_=>.fail
def fK(sz:Option Nat)(x y:PV):HM PV:=
 match x with
 | .ptr r v i o=>(bS r v).bind λb=>match b.es[i]? with
  |some e=>if y.fits sz/\aj y.cells/\o+y.cells.length<=e.cells.length/\b.ro=false
   then .set r ⟨v,some ⟨b.sz,b.es.set i (e.withCells (e.cells.take o++y.cells++e.cells.drop (o+y.cells.length))),false⟩⟩ (.ret .junk)else .fail
  |none=>.fail
 |_=>.fail
def j9(sz:Nat):List PV->List PV->List PV
 |[],_=>[]
 |e::es,cs=>e.withCells (cs.take sz)::j9 sz es (cs.drop sz)
def pc(m:Nat)(x y:PV):HM PV:=
 match x with
 |.ptr r v 0 0=>(bS r v).bind λb=>
  if y.fits (some m)/\aj y.cells/\m=b.es.length*b.sz/\0<b.sz/\b.ro=false then .set r ⟨v,some ⟨b.sz,j9 b.sz b.es y.cells,false⟩⟩ (.ret .junk)else .fail
 |_=>.fail
def bG:Nat:=2147483648
def cC(sz:Nat):List PV->Bool
 |[]=>true
 |v::vs=>v.cells.length==sz&&cC sz vs
def eE(sz:Nat)(old vs:List PV)(s:Nat):HM PV:=
 if old.length+vs.length<bG then(eG s ⟨sz,old++vs,false⟩).bind λv=>.ret (.tok (.l s) v sz 0 (old.length+vs.length) (old.length+vs.length) false)else .fail
def gO(sz:Nat)(r:aq)(ver off len room:Nat)(vs:List PV)(s:Nat):HM PV:=
 (bS r ver).bind λb=>
  if b.sz=sz/\b.ro=false/\off+len<=b.es.length/\len+vs.length<bG then
   if len+vs.length<=room then
    if off+len+vs.length<=b.es.length then .set r ⟨ver,some ⟨sz,b.es.take (off+len)++vs++b.es.drop (off+len+vs.length),false⟩⟩ (.ret (.tok r ver sz off (len+vs.length) room false))else .fail
   else if r=.l s then(eG s ⟨sz,(b.es.drop off).take len++vs,false⟩).bind λv=>.ret (.tok (.l s) v sz 0 (len+vs.length) (len+vs.length) false)
   else .set r ⟨ver,none⟩ ((eG s ⟨sz,(b.es.drop off).take len++vs,false⟩).bind λv=>.ret (.tok (.l s) v sz 0 (len+vs.length) (len+vs.length) false))
  else .fail
def jy(sz:Nat)(x y:PV)(s:Nat):HM PV:=
 (elems y).bind λvs0=>if cC sz vs0 then(HM.mapM (bp 9) vs0).bind λvs=>
  if vs.isEmpty then(match x with|.nils=>.ret .nils|.lst es c0=>.ret (.lst es c0)|.tok r ver z off len room c0=>.ret (.tok r ver z off len room c0)|_=>.fail)
  else match x with
   |.nils=>eE sz [] vs s
   |.lst es c0=>if c0/\es.isEmpty then eE sz [] vs s else .fail
   |.tok r ver z off len room c0=>if c0 then(if len=0 then eE sz [] vs s else .fail)else if z=sz then gO sz r ver off len room vs s else .fail
   |_=>.fail
  else .fail
def BU(sz:Nat)(x y:PV):HM PV:=
 (elems y).bind λvs=>match x with
  | .tok r ver z off len _ _=>
   let n:=min vs.length len
   if n=0 then .ret (.int .i64 0)else
   (bS r ver).bind λb=>if z=sz/\b.sz=sz/\off+len<=b.es.length/\b.ro=false/\vs.all (λv=>v.cells.length==sz)
    then .set r ⟨ver,some ⟨sz,b.es.take off++vs.take n++b.es.drop (off+n),false⟩⟩ (.ret (.int .i64 n))else .fail
  |.nils=>.ret (.int .i64 0)
  |.lst es _=>if vs.isEmpty||es.isEmpty then .ret (.int .i64 0)else .fail
  |_=>.fail
def yE(z:PV)(x:PV):HM PV:=
 match x with
 | .tok r ver sz off len _ _=>if len=0 then .ret .junk else
  (bS r ver).bind λb=>if z.cells.length=sz/\aj z.cells/\b.sz=sz/\off+len<=b.es.length/\b.ro=false
   then .set r ⟨ver,some ⟨sz,b.es.take off++List.replicate len z++b.es.drop (off+len),false⟩⟩ (.ret .junk)else .fail
 |.nils=>.ret .junk
 |.lst es _=>if es.isEmpty then .ret .junk else .fail
 |_=>.fail
def nV:PV->Option PV
 |.str s=>some (.int .i64 s.length)
 |_=>none
def xf:PV->Option PV
 |.nils=>some (.int .i64 0)
 |.lst es _=>some (.int .i64 es.length)
 |.tok _ _ _ _ len _ _=>some (.int .i64 len)
 |_=>none
def Bj(x i:PV):Option PV:=
 match x,i with
 |.str s,.int _ n=>if 0<=n then(match s[n.toNat]? with|some b=>some (.int .u8 b.toNat)|none=>none)else none
 |_,_=>none
def x7(isMax:Bool):PV->PV->Option PV
 |.int k x,.int _ y=>some (.int k (if isMax then(if y>x then y else x)else(if y<x then y else x)))
 |_,_=>none
def mP(isMax:Bool):PV->List PV->Option PV
 |x,[]=>some x
 |x,y::ys=>match x7 isMax x y with|some z=>mP isMax z ys|none=>none
def eN:List PV->Option (List UInt8)
 |[]=>some []
 |.int .u8 n::vs=>match eN vs with|some l=>some (UInt8.ofNat n.toNat::l)|none=>none
 |_=>none
abbrev cG:=Nat->List PV->List Blk->Option (PV×List (Option Blk))
def PV.scalar:PV->Bool
 |.int .. |.bool _|.str _|.nilp|.nils|.nilfn=>true
 |.tup vs=>vs.all λ |.int .. |.bool _|.str _|.nilp|.nils|.nilfn=>true|_=>false
 |_=>false
def ew:List Bool->List PV->HM (List PV×List (aq×Nat×Blk))
 |true::bs,v::vs=>(bR 9 v).bind λv'=>(ew bs vs).bind λvs'=>.ret (v'.1::vs'.1,v'.2++vs'.2)
 |_::bs,v::vs=>(ew bs vs).bind λvs'=>.ret (v::vs'.1,vs'.2)
 |[],vs=>.ret (vs,[])
 |_,[]=>.ret ([],[])
def dj(bor:List (aq×Nat×Blk))(s:Nat)(nv:List Nat):aq->Nat->Option (aq×Nat)
 |.a i,_=>match bor[i]? with|some (r,v,_)=>some (r,v)|none=>none
 |.l k,_=>match nv[k]? with|some v=>some (.l (s+k),v)|none=>none
 |.dead,_=>none
def iO(f:aq->Nat->Option (aq×Nat)):List (aq×Nat×Blk)->List (Option Blk)->HM Unit
 |[],_=>.ret ()
 |(r,v,_)::rest,b::bs=>.set r ⟨v,match b with|some b=>some (b.ren f)|none=>none⟩ (iO f rest bs)
 |_::_,[]=>.fail
def pC(s:Nat):Nat->HM (List Nat)
 |0=>.ret []
 |n+1=>.get (.l s) λe=>(pC (s+1) n).bind λvs=>.ret ((e.ver+1)::vs)
def lD(f:aq->Nat->Option (aq×Nat))(s:Nat):List Nat->List (Option Blk)->HM Unit
 |[],[]=>.ret ()
 |v::vs,some b::bs=>.set (.l s) ⟨v,some (b.ren f)⟩ (lD f (s+1) vs bs)
 |_,_=>.fail
def pZ:List (aq×Nat×Blk)->HM Unit
 |[]=>.ret ()
 |(r,v,b)::rest=>if b.ro then pZ rest else .set r ⟨v,some ⟨b.sz,b.es,true⟩⟩ (pZ rest)
def lB(x y:List (aq×Nat×Blk)):Bool:=x.any λp=>y.any λq=>p.1==q.1
def cU(bor:List (aq×Nat×Blk)):aq->Nat->Option (aq×Nat):=λr v=>match fV r v bor 0 with|some i=>some (.a i,0)|none=>none
mutual
def d8:PV->Bool
 |.int .. |.bool _|.str _|.nilp|.nils|.nilfn|.tok .. |.ptr .. =>true
 |.agg cs=>iD cs
 |.tup cs=>iD cs
 |_=>false
def iD:List PV->Bool
 |[]=>true
 |x::xs=>d8 x&&iD xs
end
def g9:List (Option Blk)->Bool
 |[]=>true
 |some b::bs=> !b.ro&&iD b.es&&g9 bs
 |none::_=>false
def lH(bor:List (aq×Nat×Blk))(r:PV)(G:List (Option Blk)):Bool:=bor.isEmpty&&d8 r&&g9 G
def r8(bor robor:List (aq×Nat×Blk))(s:Nat)(r:PV)(G:List (Option Blk)):HM PV:=
 (if lH bor r G then .ret ()else pZ robor).bind λ_=>
 (pC s (G.length-bor.length)).bind λnv=>
 (iO (dj bor s nv) bor (G.take bor.length)).bind λ_=>
 (lD (dj bor s nv) s nv (G.drop bor.length)).bind λ_=>.ret (ren (dj bor s nv) r)
def fc(C:cG)(ro:List Bool)(f:Nat)(args0:List PV)(s:Nat):HM PV:=
 (ew ro args0).bind λargs=>
 (gx 99 (bi args.1) []).bind λbor=>
  if lB args.2 bor then .fail else
  match C f (co (cU bor) args.1) (bor.map λx=>x.2.2.ren (cU bor))with
  |none=>.fail
  |some (r,G)=>r8 bor args.2 s r G
def sI{α:Type}(k:Nat->HM α):Nat->Nat->HM α
 |s,0=>k s
 |s,n+1=>.get (.l s) λe=>if e.blk.isNone then k s else sI k (s+1) n
def vS:PV->PV->PV->HM PV
 |.bool true,a,_=>.ret a
 |.bool false,_,b=>.ret b
 |_,_,_=>.fail
def xA(sz:Option Nat)(x:PV)(s:Nat):HM PV:=
 if x.fits sz/\aj x.cells then(eG s ⟨x.cells.length,[x],false⟩).bind λv=>.ret (.ptr (.l s) v 0 0)else .fail
def BH(n:Nat)(z:PV)(s:Nat):HM PV:=
 if aj z.cells/\n<bG then(eG s ⟨z.cells.length,List.replicate n z,false⟩).bind λv=>.ret (.ptr (.l s) v 0 0)else .fail
def mj(ρ:PO->PV):List (Nat×Option Nat×PO)->List (Nat×Option Nat×PV)
 |[]=>[]
 |(a,b,x)::ps=>(a,b,ρ x)::mj ρ ps
def kQ(ρ:PO->PV):List PO->List PV
 |[]=>[]
 |x::xs=>ρ x::kQ ρ xs
def uC(ρ:PO->PV):Option PO->Option PV
 |none=>none
 |some x=>some (ρ x)
def uf(zero:List PV)(ps:List (Nat×Option Nat×PV)):HM PV:=
 match kW zero ps with|some cs=>.ret (.agg cs)|none=>.fail
def gy(sz:Option Nat):List PV->Bool
 |[]=>true
 |v::vs=>v.fits sz&&aj v.cells&&gy sz vs
def dz(sz:Option Nat)(vs:List PV)(s:Nat):HM PV:=
 if gy sz vs then(eG s ⟨sz.getD 1,vs,false⟩).bind λv=>.ret (.tok (.l s) v (sz.getD 1) 0 vs.length vs.length false)else .fail
def jx:PV->HM PV
 |.ptr r v i o=>.ret (.ptr r v i o)
 |.lptr cs=>.ret (.lptr cs)
 |.fn f cs=>.ret (.fn f cs)
 |_=>.fail
def zm(neg:Bool)(ks:List Bool)(x y:PV):HM PV:=
 match x,y with
 |.agg xs,.agg ys=>match aK ks xs ys with|some b=>.ret (.bool (if neg then !b else b))|none=>.fail
 |_,_=>.fail
def t8(k:IntKind):PV->HM PV
 |.int _ n=>.ret (.int k (k.wrap n))
 |_=>.fail
def xc(x:PV):HM PV:=
 if x.isStr then .fail else
 (elems x).bind λes=>match eN es with|some l=>.ret (.str l)|none=>.fail
def Gq(x:PV)(s:Nat):HM PV:=
 match x with
 |.str l=>if l.length<bG then(eG s ⟨1,l.map λb=>.int .u8 b.toNat,false⟩).bind λv=>.ret (.tok (.l s) v 1 0 l.length l.length false)else .fail
 |_=>.fail
def nI(sz:Option Nat)(x:PV)(off:Nat):HM PV:=
 match x with|.agg cs=>HM.ofO (dD cs off sz)|_=>.fail
def pE(x:PV)(i:Nat):HM PV:=
 match x with|.tup vs=>HM.ofO vs[i]?|_=>.fail
def kE(sz:Nat)(z:PV)(n:PV)(s:Nat):HM PV:=
 match n with
 |.int _ n=>if 0<=n/\n<bG/\z.cells.length=sz/\aj z.cells then(eG s ⟨sz,List.replicate n.toNat z,false⟩).bind λv=>.ret (.tok (.l s) v sz 0 n.toNat n.toNat false)else .fail
 |_=>.fail
def si(n sz:Nat)(x i:PV):HM PV:=
 match i,x with
 |.int _ j,.ptr r v 0 0=>if 0<=j/\j<n then(bS r v).bind λb=>if b.sz=sz then .ret (.ptr r v j.toNat 0)else .fail else .fail
 |_,_=>.fail
def qy(n sz:Nat)(x:PV)(lo hi:Option PV):HM PV:=
 match x,aL 0 lo,aL n hi with
 |.ptr r v 0 0,some l,some h=>if l<=h/\h<=n then(bS r v).bind λb=>if b.sz=sz/\b.es.length=n then .ret (.tok r v sz l (h-l) (n-l) false)else .fail else .fail
 |_,_,_=>.fail
def pi(RO:Nat->List Bool)(C:cG)(g:PV)(args:List PV)(s:Nat):HM PV:=
 match g with
 |.fn f caps=>fc C (RO f) f (args++caps) s
 |_=>.fail
def D7(b:Bool):List PV->HM PV
 |[]=>.fail
 |y::ys=>HM.ofO (mP b y ys)
def y0:PV->HM PV
 |.tok r v sz off len room c0=>if 0<len/\sz=1 then(bS r v).bind λb=>if b.ro=false then .ret (.tok r v sz off len room c0)else .fail else .fail
 |_=>.fail
def iQ(RO:Nat->List Bool)(C:cG)(ρ:PO->PV):IOp->HM PV
 |.mov x=>.ret (ρ x)
 |.pick c a b=>vS (ρ c) (ρ a) (ρ b)
 |.box sz x s=>xA sz (ρ x) s
 |.boxA n z s=>BH n z s
 |.build zero parts=>uf zero (mj ρ parts)
 |.buildSlice sz parts s=>dz sz (kQ ρ parts) s
 |.load sz x=>jN sz (ρ x)
 |.store sz x y=>fK sz (ρ x) (ρ y)
 |.nilchk x=>jx (ρ x)
 |.bin op x y=>HM.ofO (bin op (ρ x) (ρ y))
 |.eqs neg ks x y=>zm neg ks (ρ x) (ρ y)
 |.eqb neg x y=>HM.ofO (eqb neg (ρ x) (ρ y))
 |.eqn k neg x y=>HM.ofO (eqn k neg (ρ x) (ρ y))
 |.un op x=>HM.ofO (un op (ρ x))
 |.toInt k x=>t8 k (ρ x)
 |.b2s x=>xc (ρ x)
 |.s2b x s=>Gq (ρ x) s
 |.slice sz x lo hi mx=>HM.ofO (cV sz (ρ x) (uC ρ lo) (uC ρ hi) (uC ρ mx))
 |.fieldAddr x off=>HM.ofO (bl (ρ x) off)
 |.field sz x off=>nI sz (ρ x) off
 |.indexAddr sz x i=>HM.ofO (au sz (ρ x) (ρ i))
 |.idxArr n sz x i=>HM.ofO (jJ n sz (ρ x) (ρ i))
 |.idxArrB n sz x i=>si n sz (ρ x) (ρ i)
 |.sliceArr n sz x lo hi=>qy n sz (ρ x) (uC ρ lo) (uC ρ hi)
 |.storeA m x y=>pc m (ρ x) (ρ y)
 |.extract x i=>pE (ρ x) i
 |.mkfn f caps=>.ret (.fn f (kQ ρ caps))
 |.mkslice sz z n s=>kE sz z (ρ n) s
 |.call f args s=>fc C (RO f) f (kQ ρ args) s
 |.callv g args s=>pi RO C (ρ g) (kQ ρ args) s
 |.append sz x y s=>jy sz (ρ x) (ρ y) s
 |.copy sz x y=>BU sz (ρ x) (ρ y)
 |.clear z x=>yE z (ρ x)
 |.len x=>HM.ofO (xf (ρ x))
 |.lenS x=>HM.ofO (nV (ρ x))
 |.mm b xs=>D7 b (kQ ρ xs)
 |.same x=>y0 (ρ x)
 |.callD f args s n=>sI (λs=>fc C (RO f) f (kQ ρ args) s) s n
 |.sidx x i=>HM.ofO (Bj (ρ x) (ρ i))
 |.bad=>.fail
structure St where
 fr:List PV
 h:Heap
def wanted(fr:List PV):Option (Nat×Bool)->Option Bool
 |none=>some true
 |some (t,b)=>match lG fr t with
  |.bool c=>some (c==b)
  |.tup []=>some false
  |_=>none
def aG(fr:List PV)(dst:Option Nat)(v:PV):List PV:=
 match dst with|some d=>upd fr d v|none=>fr
def jd(RO:Nat->List Bool)(C:cG)(o:IOper)(σ:St):Option St:=
 match wanted σ.fr o.guard with
 |some true=>match(iQ RO C (PO.ev σ.fr) o.op).run σ.h with
  |some (v,h)=>some ⟨aG σ.fr o.dst v,h⟩
  |none=>none
 |some false=>some ⟨aG σ.fr o.dst (.tup []),σ.h⟩
 |none=>none
def gX(RO:Nat->List Bool)(C:cG):List IOper->St->Option St
 |[],σ=>some σ
 |o::os,σ=>match jd RO C o σ with|some σ'=>gX RO C os σ'|none=>none
def bu(RO:Nat->List Bool)(C:cG)(o:IOper)(σ:St):Option (St×List aq×List aq):=
 match wanted σ.fr o.guard with
 |some true=>match(iQ RO C (PO.ev σ.fr) o.op).runT σ.h with
  |some (v,h,R,W)=>some (⟨aG σ.fr o.dst v,h⟩,R,W)
  |none=>none
 |some false=>some (⟨aG σ.fr o.dst (.tup []),σ.h⟩,[],[])
 |none=>none
def lw(R1 W1 R2 W2:List aq):Bool:=W1.all (λr=> !R2.contains r&& !W2.contains r)&&W2.all λr=> !R1.contains r
def lU(RO:Nat->List Bool)(C:cG):Nat->List (Nat×List aq×List aq)->List IOper->St->Option St
 |_,_,[],σ=>some σ
 |j,acc,o::os,σ=>match bu RO C o σ with
  |some (σ',R,W)=>if acc.all (λx=>o.bef.contains x.1||lw x.2.1 x.2.2 R W)then lU RO C (j+1) ((j,R,W)::acc) os σ' else none
  |none=>none
structure GK where
 r:aq
 ver:Nat
 i:Nat
 o:Nat
 sz:Option Nat
structure Tr where
 R:List aq
 W:List aq
 c:Option GK
 D:List (aq×Option fg×Option fg)
mutual
def NJ:PV->PV->Bool
 |.int k n,.int k' m=>decide (k=k')&&decide (n=m)
 |.bool a,.bool b=>decide (a=b)
 |.str a,.str b=>decide (a=b)
 |.nils,.nils=>true
 |.lst es c,.lst es' c'=>decide (c=c')&&wz es es'
 |.tok r v z a l m c,.tok r' v' z' a' l' m' c'=>decide (r=r')&&decide (v=v')&&decide (z=z')&&decide (a=a')&&decide (l=l')&&decide (m=m')&&decide (c=c')
 |.ptr r v i o,.ptr r' v' i' o'=>decide (r=r')&&decide (v=v')&&decide (i=i')&&decide (o=o')
 |.nilp,.nilp=>true
 |.lptr cs,.lptr cs'=>wz cs cs'
 |.agg cs,.agg cs'=>wz cs cs'
 |.tup cs,.tup cs'=>wz cs cs'
 |.fn f cs,.fn f' cs'=>decide (f=f')&&wz cs cs'
 |.nilfn,.nilfn=>true
 |_,_=>false
def wz:List PV->List PV->Bool
 |[],[]=>true
 |x::xs,y::ys=>NJ x y&&wz xs ys
 |_,_=>false
end
def fU(ρ:PO->PV):IOp->Option GK
 |.load sz x=>match ρ x with|.ptr r v i o=>some ⟨r,v,i,o,sz⟩|_=>none
 |_=>none
def ee(o:IOper)(σ σ':St)(R W:List aq):Tr:=
 match wanted σ.fr o.guard with
 |some true=>match fU (PO.ev σ.fr) o.op with
  |some c=>⟨[],[],some c,[]⟩
  |none=>⟨R,W,none,W.map λr=>(r,σ.h.get r,σ'.h.get r)⟩
 |_=>⟨R,W,none,[]⟩
def pX(c:GK)(e:Option fg):Option PV:=
 match e with
 |some e=>if e.ver=c.ver then(match e.blk with|some b=>(match b.es[c.i]? with|some el=>dD el.cells c.o c.sz|none=>none)|none=>none)else none
 |none=>none
def qu(c:GK)(D:List (aq×Option fg×Option fg)):Bool:=
 D.all λd=> !decide (d.1=c.r)||(match pX c d.2.1,pX c d.2.2 with|some v,some w=>NJ v w|_,_=>false)
def qm(x y:Tr):Bool:=
 match x.c,y.c with
 |some _,some _=>true
 |some c,none=>qu c y.D
 |none,some c=>qu c x.D
 |none,none=>lw x.R x.W y.R y.W
def fj(RO:Nat->List Bool)(C:cG):Nat->List (Nat×Tr)->List IOper->St->Option St
 |_,_,[],σ=>some σ
 |j,acc,o::os,σ=>match bu RO C o σ with
  |some (σ',R,W)=>if acc.all (λx=>o.bef.contains x.1||qm x.2 (ee o σ σ' R W))then fj RO C (j+1) ((j,ee o σ σ' R W)::acc) os σ' else none
  |none=>none
def o7(s:Nat)(x:PV):HM PV:=
 match x with
 |.tok (.l s') ver sz off len room c0=>(bS (.l s') ver).bind λb=>.set (.l s') ⟨ver,none⟩ ((eG s b).bind λv=>.ret (.tok (.l s) v sz off len room c0))
 |x=>.ret x
def Fx(o:Option Nat)(x:PV):HM PV:=match o with|some s=>o7 s x|none=>bp 9 x
def uh(x:PV)(j:Nat)(o:Option Nat):HM PV:=
 match x with
 | .ptr r v 0 0=>(bS r v).bind λb=>match b.es[0]? with
  |some e=>(match e.cells[j]? with
   |some y=>(Fx o y).bind λy'=>fK none (.ptr r v 0 j) y'
   |none=>.fail)
  |none=>.fail
 |_=>.fail
def BW(fr:List PV):Adj->HM (List PV)
 |.cell t j o=>(uh (lG fr t) j o).bind λ_=>.ret fr
 |.tmp t o=>(Fx o (lG fr t)).bind λv=>.ret (upd fr t v)
def DZ:List Adj->List PV->HM (List PV)
 |[],fr=>.ret fr
 |a::as,fr=>(BW fr a).bind λfr=>DZ as fr
inductive Ex where
 |norm
 |exit (id:Nat)
 |ret
 deriving DecidableEq,Inhabited
def mS(fr:List PV):List uR->HM (List PV)
 |[]=>.ret []
 |.tmp t::rs=>(mS fr rs).bind λvs=>.ret (lG fr t::vs)
 |.cell sz t::rs=>(jN sz (lG fr t)).bind λv=>(mS fr rs).bind λvs=>.ret (v::vs)
def one:List PV->PV
 |[v]=>v
 |vs=>.tup vs
def lZ:Nat->Nat->HM (List (Option Blk))
 |0,_=>.ret []
 |n+1,i=>.get (.a i) λe=>(lZ n (i+1)).bind λbs=>.ret (e.blk::bs)
def fI:List (Option Blk)->List (aq×Nat)
 |[]=>[]
 |some b::bs=>bi b.es++fI bs
 |none::bs=>fI bs
def cY:Nat->List (aq×Nat)->List (aq×Nat×Blk)->HM (List (aq×Nat×Blk))
 |0,_,_=>.fail
 |_+1,[],acc=>.ret acc
 |n+1,(.a _,_)::rest,acc=>cY n rest acc
 |n+1,(.dead,_)::rest,acc=>cY n rest acc
 | n+1,(.l s,v)::rest,acc=>
  if acc.any (λx=>x.1== .l s&&x.2.1==v)then cY n rest acc else
  .get (.l s) λe=>match e.blk with
   |some b=>if e.ver=v then cY n (rest++bi b.es) (acc++[(.l s,v,b)])else cY n rest acc
   |none=>cY n rest acc
def nG(F:am)(m:Nat)(fr:List PV):HM (PV×List (Option Blk)):=
 (mS fr F.res).bind λvs=>
 (if F.frz then bp 9 (one vs)else .ret (one vs)).bind λr=>
 (lZ m 0).bind λbs=>
 (cY 99 (kt r++fI bs) []).bind λnew=>
  let f:aq->Nat->Option (aq×Nat):=λq v=>match q with
   |.a i=>some (.a i,v)
   |.dead=>none
   |.l _=>match fV q v new 0 with|some k=>some (.l k,0)|none=>none
  .ret (ren f r,bs.map (λb=>match b with|some b=>some (b.ren f)|none=>none)++new.map λx=>some (x.2.2.ren f))
mutual
def bf(FT:Nat->Option am):Nat->Nat->List PV->List Blk->Option (PV×List (Option Blk))
 |0,_,_,_=>none
 | n+1,f,args,G=>match FT f with
  |none=>none
  | some F=>match F.intr with
   |some g=>g args G
   |none=>match bF FT n F.body ⟨args++List.replicate (F.ntmps-args.length) .junk,⟨G.map some,List.replicate F.nslots ⟨0,none⟩⟩⟩with
    |some (.norm,σ)=>match(nG F G.length σ.fr).run σ.h with|some (x,_)=>some x|none=>none
    |some (.ret,σ)=>match(nG F G.length σ.fr).run σ.h with|some (x,_)=>some x|none=>none
    |_=>none
def bF(FT:Nat->Option am):Nat->eZ->St->Option (Ex×St)
 |0,_,_=>none
 | n+1,c,σ=>match c with
  |.skip=>some (.norm,σ)
  |.reg ops false=>match gX (λf=>match FT f with|some F=>F.ro|none=>[]) (bf FT n) ops σ with|some σ'=>some (.norm,σ')|none=>none
  |.reg ops true=>match fj (λf=>match FT f with|some F=>F.ro|none=>[]) (bf FT n) 0 [] ops σ with|some σ'=>some (.norm,σ')|none=>none
  |.seq a b=>match bF FT n a σ with
   |some (.norm,σ')=>bF FT n b σ'
   |r=>r
  |.cond c x y=>match c.ev σ.fr with
   |.bool true=>bF FT n x σ
   |.bool false=>bF FT n y σ
   |_=>none
  |.block id c=>match bF FT n c σ with
   |some (.exit i,σ')=>if i=id then some (.norm,σ')else some (.exit i,σ')
   |r=>r
  |.loop c=>match bF FT n c σ with
   |some (.norm,σ')=>bF FT n (.loop c) σ'
   |r=>r
  |.exit id=>some (.exit id,σ)
  |.ret=>some (.ret,σ)
  |.adj js c=>match(DZ js σ.fr).run σ.h with|some (fr,h)=>bF FT n c ⟨fr,h⟩|none=>none
  |.post c js=>match bF FT n c σ with
   |some (.norm,σ')=>(match(DZ js σ'.fr).run σ'.h with|some (fr,h)=>some (.norm,⟨fr,h⟩)|none=>none)
   |r=>r
end
end Gv
namespace Gv
open Go
structure C3 where
 b:Nat
 base:Nat
 sz:Nat
 size:Nat
abbrev RD:=Nat->Option (Array Value)
structure Mp where
 rd:RD
 io:aq->Nat->Option C3
 cv:aq->Nat
def RdAt(rd:RD)(a:Addr)(k:Nat)(u:Value):Prop:=
 a.spot=none/\∃vs,rd a.block=some vs/\vs[a.off+k]?=some u
def RdLe(rd rd':RD):Prop:=∀b vs,rd b=some vs->rd' b=some vs
theorem RdLe.refl(rd:RD):RdLe rd rd:=λ_ _ h=>h
theorem RdLe.trans{a b c:RD}(h:RdLe a b)(k:RdLe b c):RdLe a c:=λx v e=>k x v (h x v e)
theorem RdAt.mono{rd rd':RD}(h:RdLe rd rd'){a:Addr}{k:Nat}{u:Value}(x:RdAt rd a k u):RdAt rd' a k u:=by
 obtain⟨h1,vs,h2,h3⟩:=x;exact⟨h1,vs,h _ _ h2,h3⟩
section
variable(ah:Nat->FuncId)
inductive FR (rd:RD):PV->Value->Prop
 |int (k:IntKind) (n:Int):FR rd (.int k n) (.int k n)
 |bool (b:Bool):FR rd (.bool b) (.bool b)
 |str (s:List UInt8):FR rd (.str s) (.string ⟨s.toArray⟩)
 |nils:FR rd .nils (.slice none 0 0)
 | lst (es:List PV) (c0:Bool) (a:Addr) (cap esz:Nat) (us:Nat->Nat->Value) (h1:es.length<=cap) (h2:c0=true->cap=0)
   (h3:∀(i:Nat)(e:PV),es[i]?=some e->e.cells.length=esz)
   (h4:∀(i:Nat)(e:PV)(j:Nat)(c:PV),es[i]?=some e->e.cells[j]?=some c->c.isCell=true/\RdAt rd a (i*esz+j) (us i j))
   (h5:∀(i:Nat)(e:PV)(j:Nat)(c:PV),es[i]?=some e->e.cells[j]?=some c->FR rd c (us i j)):FR rd (.lst es c0) (.slice (some a) es.length cap)
 |nilp:FR rd .nilp (.pointer none)
 | lptr (cs:List PV) (a:Addr) (us:Nat->Value) (h1:∀(j:Nat)(c:PV),cs[j]?=some c->c.isCell=true/\RdAt rd a j (us j))
   (h2:∀(j:Nat)(c:PV),cs[j]?=some c->FR rd c (us j)) (h3:a.spot=none):FR rd (.lptr cs) (.pointer (some a))
 |agg (cs:List PV) (vs:Array Value) (h1:cs.length=vs.size) (h2:∀(i:Nat)(c:PV)(u:Value),cs[i]?=some c->vs[i]?=some u->FR rd c u):FR rd (.agg cs) (.agg vs)
 |tup (cs:List PV) (vs:Array Value) (h1:cs.length=vs.size) (h2:∀(i:Nat)(c:PV)(u:Value),cs[i]?=some c->vs[i]?=some u->FR rd c u):FR rd (.tup cs) (.tuple vs)
 |fn (f:Nat):FR rd (.fn f []) (.func (.func (ah f)) #[] #[])
 |nilfn:FR rd .nilfn .nilFunc
theorem FR.mono{rd rd':RD}(hr:RdLe rd rd'){v:PV}{c:Value}(h:FR ah rd v c):FR ah rd' v c:=by
 induction h with
 |int k n=>exact .int k n
 |bool b=>exact .bool b
 |str s=>exact .str s
 |nils=>exact .nils
 |lst es c0 a cap esz us h1 h2 h3 h4 h5 ih=>exact .lst es c0 a cap esz us h1 h2 h3 (λi e j c a b=>⟨(h4 i e j c a b).1,(h4 i e j c a b).2.mono hr⟩) ih
 |nilp=>exact .nilp
 |lptr cs a us h1 h2 h3 ih=>exact .lptr cs a us (λj c h=>⟨(h1 j c h).1,(h1 j c h).2.mono hr⟩) ih h3
 |agg cs vs h1 h2 ih=>exact .agg cs vs h1 ih
 |tup cs vs h1 h2 ih=>exact .tup cs vs h1 ih
 |fn f=>exact .fn f
 |nilfn=>exact .nilfn
inductive VR (M:Mp):PV->Value->Prop
 |fr {v:PV} {c:Value} (h:FR ah M.rd v c):VR M v c
 |junk (c:Value):VR M .junk c
 | tok (r:aq) (ver sz off len room:Nat) (c0:Bool) (a:Addr) (cap:Nat) (hv:ver<=M.cv r) (h2:len<=room) (h3:room<=cap) (h4:c0=true->cap=0)
   (h5:∀loc,M.io r ver=some loc->loc.sz=sz/\(cap=0∨a=⟨loc.b,loc.base+off*sz,none⟩/\loc.base+off*sz+cap*sz<=loc.size)):
   VR M (.tok r ver sz off len room c0) (.slice (some a) len cap)
 |ptr (r:aq) (ver i o:Nat) (a:Addr) (hv:ver<=M.cv r) (h:∀loc,M.io r ver=some loc->a=⟨loc.b,loc.base+i*loc.sz+o,none⟩):VR M (.ptr r ver i o) (.pointer (some a))
 |agg (cs:List PV) (vs:Array Value) (h1:cs.length=vs.size) (h2:∀(i:Nat)(c:PV)(u:Value),cs[i]?=some c->vs[i]?=some u->VR M c u):VR M (.agg cs) (.agg vs)
 |tup (cs:List PV) (vs:Array Value) (h1:cs.length=vs.size) (h2:∀(i:Nat)(c:PV)(u:Value),cs[i]?=some c->vs[i]?=some u->VR M c u):VR M (.tup cs) (.tuple vs)
 |fn (f:Nat) (cs:List PV) (vs:Array Value) (h1:cs.length=vs.size) (h2:∀(i:Nat)(c:PV)(u:Value),cs[i]?=some c->vs[i]?=some u->VR M c u):VR M (.fn f cs) (.func (.func (ah f)) #[] vs)
structure Mp.le (M M':Mp):Prop where
 rd:RdLe M.rd M'.rd
 cv:∀r,M.cv r<=M'.cv r
 io:∀r v,v<=M.cv r->M'.io r v=M.io r v∨M'.io r v=none
theorem Mp.le.refl(M:Mp):M.le M:=⟨.refl _,λ_=>Pf _,λ_ _ _=>.inl rfl⟩
theorem Mp.le.trans{A B C:Mp}(h:A.le B)(k:B.le C):A.le C:=
 ⟨h.rd.trans k.rd,λr=>Qs (h.cv r) (k.cv r),λr v hv=>by
  rcases k.io r v (Qs hv (h.cv r))with e|e
  ·rw[e];exact h.io r v hv
  ·exact .inr e⟩
variable{ah}
theorem VR.mono{M M':Mp}(hM:M.le M'){v:PV}{c:Value}(h:VR ah M v c):VR ah M' v c:=by
 induction h with
 |fr h=>exact .fr (h.mono ah hM.rd)
 |junk c=>exact .junk c
 |tok r ver sz off len room c0 a cap hv h2 h3 h4 h5=>
  refine .tok r ver sz off len room c0 a cap (Qs hv (hM.cv r)) h2 h3 h4 (λloc hl=>?_);rcases hM.io r ver hv with e|e
  ·exact h5 loc (by rw[<-e];exact hl)
  ·rw[e]at hl;cases hl
 |ptr r ver i o a hv h=>
  refine .ptr r ver i o a (Qs hv (hM.cv r)) (λloc hl=>?_);rcases hM.io r ver hv with e|e
  ·exact h loc (by rw[<-e];exact hl)
  ·rw[e]at hl;cases hl
 |agg cs vs h1 h2 ih=>exact .agg cs vs h1 ih
 |tup cs vs h1 h2 ih=>exact .tup cs vs h1 ih
 |fn f cs vs h1 h2 ih=>exact .fn f cs vs h1 ih
variable(ah)
def CellsAt(M:Mp)(c:Array Value)(base sz:Nat)(es:List PV):Prop:=
 ∀(i:Nat)(e:PV),es[i]?=some e->e.cells.length=sz/\∀(j:Nat)(x:PV),e.cells[j]?=some x->x.isCell=true/\∃u,c[base+i*sz+j]?=some u/\VR ah M x u
structure BlkAt (M:Mp) (w:World) (loc:C3) (blk:Blk) (c:Array Value) (t:TypeId) (lo hi:Nat):Prop where
 heap:w.heap[loc.b]?=some (.cells c t (lo,hi))
 sz:loc.sz=blk.sz
 size:c.size=loc.size
 free:∀k,k<c.size->¬(lo<=k/\k<hi)
 lohi:lo<=hi/\(blk.sz≠1->hi<=c.size)/\c.size<=9223372036854775807*blk.sz
 fits:loc.base+blk.es.length*blk.sz<=c.size
 ro:blk.ro=true->M.rd loc.b=some c
 rw_:blk.ro=false->M.rd loc.b=none
 cells:CellsAt ah M c loc.base blk.sz blk.es
def RdOk(M:Mp)(w:World):Prop:=∀b vs,M.rd b=some vs->∃t fz,w.heap[b]?=some (.cells vs t fz)
structure HR (M:Mp) (h:Heap) (w:World):Prop where
 cv:∀r e,h.get r=some e->M.cv r=e.ver
 dom:∀r e v,h.get r=some e->M.io r v≠none->v=e.ver/\e.blk≠none
 has:∀r e,h.get r=some e->e.blk≠none->M.io r e.ver≠none
 out:∀r v,h.get r=none->M.io r v=none
 blk:∀r e b loc,h.get r=some e->e.blk=some b->M.io r e.ver=some loc->∃c t lo hi,BlkAt ah M w loc b c t lo hi
 inj:∀r v loc r' v' loc',M.io r v=some loc->M.io r' v'=some loc'->loc.b=loc'.b->r=r'
 rd:RdOk M w
def own(M:Mp)(b:Nat):Prop:=∃r v loc,M.io r v=some loc/\loc.b=b
structure StpI (M:Mp) (w:World) (M':Mp) (w':World):Prop where
 rd:RdLe M.rd M'.rd
 os:w'.os=w.os
 tape:w'.tape=w.tape
 output:w'.output=w.output
 size:w.heap.size<=w'.heap.size
 frame:∀b,b<w.heap.size->¬own M b->w'.heap[b]?=w.heap[b]?
 own:∀b,own M' b->own M b∨w.heap.size<=b
 rdn:∀b,M'.rd b≠none->M.rd b≠none∨Gv.own M b∨w.heap.size<=b
structure Stp (M:Mp) (w:World) (M':Mp) (w':World):Prop extends StpI M w M' w' where
 le:M.le M'
theorem StpI.refl(M:Mp)(w:World):StpI M w M w:=⟨.refl _,rfl,rfl,rfl,Pf _,λ_ _ _=>rfl,λ_ h=>.inl h,λ_ h=>.inl h⟩
theorem Stp.refl(M:Mp)(w:World):Stp M w M w:=⟨.refl _ _,.refl _⟩
theorem StpI.trans{A:Mp}{a:World}{B:Mp}{b:World}{C:Mp}{c:World}(h:StpI A a B b)(k:StpI B b C c):StpI A a C c where
 rd:=h.rd.trans k.rd
 os:=k.os.trans h.os
 tape:=k.tape.trans h.tape
 output:=k.output.trans h.output
 size:=Qs h.size k.size
 frame x hx hn:=by
  rw[k.frame x (Nat.lt_of_lt_of_le hx h.size) (λho=>?_),h.frame x hx hn];rcases h.own x ho with e|e
  ·exact hn e
  ·omega
 own x ho:=by
  rcases k.own x ho with e|e
  ·exact h.own x e
  ·exact .inr (Qs h.size e)
 rdn x ho:=by
  rcases k.rdn x ho with e|e|e
  ·exact h.rdn x e
  ·rcases h.own x e with e|e
   ·exact .inr (.inl e)
   ·exact .inr (.inr e)
  ·exact .inr (.inr (Qs h.size e))
theorem Stp.trans{A:Mp}{a:World}{B:Mp}{b:World}{C:Mp}{c:World}(h:Stp A a B b)(k:Stp B b C c):Stp A a C c:=
 ⟨h.toStpI.trans k.toStpI,h.le.trans k.le⟩
end
theorem Heap.get_put_same{h:Heap}{r:aq}{e e':fg}(he:h.get r=some e)(hv:∀i,r=.a i->e'.ver=0):(h.put r e').get r=some e':=by
 cases r with
 | a i=>
  simp only[Heap.get,Heap.put]at he⊢;have hi:i<h.A.length:=by
   rcases Pt i h.A.length with x|x
   ·exact x
   ·simp[Ph x]at he
  simp only[P5 hi];have:=hv i rfl;cases e';simp_all
 | l s=>
  simp only[Heap.get,Heap.put]at he⊢;have hi:s<h.L.length:=by
   rcases Pt s h.L.length with x|x
   ·exact x
   ·simp[Ph x]at he
  simp only[P5 hi]
 |dead=>simp[Heap.get]at he
theorem Heap.get_put_other{h:Heap}{r r':aq}{e':fg}(hne:r'≠r):(h.put r e').get r'=h.get r':=by
 cases r with
 | a i=>
  cases r' with
  |a j=>
   have:i≠j:=λh=>hne (by rw[h]);simp only[Heap.get,Heap.put,Qa this]
  |l t=>rfl
  |dead=>rfl
 | l s=>
  cases r' with
  |a j=>rfl
  |dead=>rfl
  |l t=>
   have:s≠t:=λh=>hne (by rw[h]);simp only[Heap.get,Heap.put,Qa this]
 |dead=>cases r'<;>rfl
theorem Heap.ver_a{h:Heap}{i:Nat}{e:fg}(he:h.get (.a i)=some e):e.ver=0:=by
 simp only[Heap.get]at he;split at he
 ·simp at he;rw[<-he]
 ·simp at he
theorem HM.run_bind{α β:Type}(m:HM α)(f:α->HM β)(h:Heap):
  (m.bind f).run h=match m.run h with|some (a,h')=>(f a).run h'|none=>none:=by
 induction m generalizing h with
 |ret a=>rfl
 |fail=>rfl
 |get r k ih=>
  simp only[HM.bind,HM.run];cases h.get r with
  |none=>rfl
  |some e=>exact ih e h
 |set r e k ih=>
  simp only[HM.bind,HM.run];cases h.get r with
  |none=>rfl
  |some x=>exact ih _
theorem HM.run_bind_some{α β:Type}{m:HM α}{f:α->HM β}{h h2:Heap}{b:β}(x:(m.bind f).run h=some (b,h2)):
  ∃a h1,m.run h=some (a,h1)/\(f a).run h1=some (b,h2):=by
 rw[HM.run_bind]at x;cases hm:m.run h with
 |none=>simp[hm]at x
 |some p=>obtain⟨a,h1⟩:=p;simp only[hm]at x;exact⟨a,h1,rfl,x⟩
theorem HM.run_ret_some{α:Type}{a b:α}{h h':Heap}(x:(HM.ret a).run h=some (b,h')):a=b/\h=h':=by
 simpa[HM.run]using x
theorem HM.run_ofO_some{α:Type}{o:Option α}{b:α}{h h':Heap}(x:(HM.ofO o).run h=some (b,h')):o=some b/\h=h':=by
 cases o with
 |none=>simp[HM.ofO,HM.run]at x
 |some a=>simpa[HM.ofO,HM.run]using x
theorem bh{r:aq}{ver:Nat}{b:Blk}{h h':Heap}(x:(bS r ver).run h=some (b,h')):
  h=h'/\h.get r=some ⟨ver,some b⟩:=by
 simp only[bS,HM.run]at x;cases he:h.get r with
 |none=>simp[he]at x
 | some e=>
  simp only[he]at x;split at x
  ·rename_i hv;obtain⟨h1,h2⟩:=HM.run_ofO_some x;refine⟨h2,?_⟩;cases e;simp_all
  ·simp[HM.run]at x
theorem jG{s:Nat}{b:Blk}{v:Nat}{h h':Heap}(x:(eG s b).run h=some (v,h')):
  ∃e,h.get (.l s)=some e/\v=e.ver+1/\h'=h.put (.l s) ⟨e.ver+1,some b⟩:=by
 simp only[eG,HM.run]at x;cases he:h.get (.l s)with
 |none=>simp[he]at x
 |some e=>simp[he]at x;exact⟨e,rfl,x.1.symm,x.2.symm⟩
theorem bA{α:Type}{r:aq}{e:fg}{k:HM α}{a:α}{h h':Heap}(x:(HM.set r e k).run h=some (a,h')):
  ∃e0,h.get r=some e0/\k.run (h.put r e)=some (a,h'):=by
 simp only[HM.run]at x;cases he:h.get r with
 |none=>simp[he]at x
 |some e0=>simp only[he]at x;exact⟨e0,rfl,x⟩
section
variable{ah:Nat->FuncId}
theorem dx{M:Mp}{r:aq}{v:Nat}{loc:C3}(h:M.io r v=some loc):own M loc.b:=⟨r,v,loc,h,rfl⟩
theorem HR.upd{M M':Mp}{h:Heap}{w w':World}{r:aq}{e e':fg}(H:HR ah M h w)(he:h.get r=some e)(hv:∀i,r=.a i->e'.ver=0)
  (le:M.le M')(hcv:∀r',r'≠r->M'.cv r'=M.cv r')(hio:∀r',r'≠r->M'.io r'=M.io r')(hcvr:M'.cv r=e'.ver)
  (hdom:∀v,M'.io r v≠none->v=e'.ver/\e'.blk≠none)(hhas:e'.blk≠none->M'.io r e'.ver≠none)
  (hblk:∀b loc,e'.blk=some b->M'.io r e'.ver=some loc->∃c t lo hi,BlkAt ah M' w' loc b c t lo hi)
  (hinj:∀v loc r' v' loc',r'≠r->M'.io r v=some loc->M.io r' v'=some loc'->loc.b≠loc'.b)
  (hheap:∀r' v' loc',r'≠r->M.io r' v'=some loc'->w'.heap[loc'.b]?=w.heap[loc'.b]?/\M'.rd loc'.b=M.rd loc'.b)
  (hrd:RdOk M' w'):HR ah M' (h.put r e') w' where
 cv r' x hx:=by
  by_cases hr:r'=r
  ·subst hr;rw[Heap.get_put_same he hv]at hx;cases hx;exact hcvr
  ·rw[Heap.get_put_other hr]at hx;rw[hcv _ hr];exact H.cv _ _ hx
 dom r' x v hx hn:=by
  by_cases hr:r'=r
  ·subst hr;rw[Heap.get_put_same he hv]at hx;cases hx;exact hdom v hn
  ·rw[Heap.get_put_other hr]at hx;rw[hio _ hr]at hn;exact H.dom _ _ _ hx hn
 has r' x hx hb:=by
  by_cases hr:r'=r
  ·subst hr;rw[Heap.get_put_same he hv]at hx;cases hx;exact hhas hb
  ·rw[Heap.get_put_other hr]at hx;rw[hio _ hr];exact H.has _ _ hx hb
 out r' v hx:=by
  by_cases hr:r'=r
  ·subst hr;rw[Heap.get_put_same he hv]at hx;cases hx
  ·rw[Heap.get_put_other hr]at hx;rw[hio _ hr];exact H.out _ _ hx
 blk r' x b loc hx hb hl:=by
  by_cases hr:r'=r
  ·subst hr;rw[Heap.get_put_same he hv]at hx;cases hx;exact hblk b loc hb hl
  ·rw[Heap.get_put_other hr]at hx;rw[hio _ hr]at hl;obtain⟨c,t,lo,hi,B⟩:=H.blk _ _ _ _ hx hb hl;obtain⟨h1,h2⟩:=hheap _ _ _ hr hl;exact⟨c,t,lo,hi,⟨by rw[h1];exact B.heap,B.sz,B.size,B.free,B.lohi,B.fits,λq=>by rw[h2];exact B.ro q,λq=>by rw[h2];exact B.rw_ q,
    λi e' hi'=>⟨(B.cells i e' hi').1,λj x hj=>⟨((B.cells i e' hi').2 j x hj).1,by
     obtain⟨u,h3,h4⟩:=((B.cells i e' hi').2 j x hj).2;exact⟨u,h3,h4.mono le⟩⟩⟩⟩⟩
 inj r1 v1 l1 r2 v2 l2 h1 h2 hb:=by
  by_cases e1:r1=r
  ·by_cases e2:r2=r
   ·rw[e1,e2]
   ·subst e1;rw[hio _ e2]at h2;exact absurd hb (hinj _ _ _ _ _ e2 h1 h2)
  ·by_cases e2:r2=r
   ·subst e2;rw[hio _ e1]at h1;exact absurd hb.symm (hinj _ _ _ _ _ e1 h2 h1)
   ·rw[hio _ e1]at h1;rw[hio _ e2]at h2;exact H.inj _ _ _ _ _ _ h1 h2 hb
 rd:=hrd
theorem HR.live{M:Mp}{h:Heap}{w:World}{r:aq}{ver:Nat}{b:Blk}(H:HR ah M h w)(he:h.get r=some ⟨ver,some b⟩):
  ∃loc c t lo hi,M.io r ver=some loc/\BlkAt ah M w loc b c t lo hi:=by
 have h1:=H.has r _ he (by simp);cases hl:M.io r ver with
 |none=>exact absurd hl h1
 |some loc=>
  obtain⟨c,t,lo,hi,B⟩:=H.blk r _ b loc he rfl hl;exact⟨loc,c,t,lo,hi,rfl,B⟩
theorem HR.ver_le{M:Mp}{h:Heap}{w:World}{r:aq}{v:Nat}(H:HR ah M h w)(hio:M.io r v≠none):∃e,h.get r=some e/\v=e.ver/\e.blk≠none:=by
 cases he:h.get r with
 |none=>exact absurd (H.out r v he) hio
 |some e=>obtain⟨a,b⟩:=H.dom r e v he hio;exact⟨e,rfl,a,b⟩
theorem BlkAt.lt{M:Mp}{w:World}{loc:C3}{b:Blk}{c:Array Value}{t lo hi:Nat}(B:BlkAt ah M w loc b c t lo hi):loc.b<w.heap.size:=by
 rcases Pt loc.b w.heap.size with x|x
 ·exact x
 ·have:=B.heap;simp[QH x]at this
theorem HR.own_lt{M:Mp}{h:Heap}{w:World}(H:HR ah M h w){b:Nat}(ho:own M b):b<w.heap.size:=by
 obtain⟨r,v,loc,hl,rfl⟩:=ho;obtain⟨e,he,hv,hb⟩:=H.ver_le (r:=r) (v:=v) (by simp[hl]);cases hbl:e.blk with
 |none=>exact absurd hbl hb
 |some blk=>
  obtain⟨c,t,lo,hi,B⟩:=H.blk r e blk loc he hbl (by rw[<-hv];exact hl);exact B.lt
theorem RdOk.lt{M:Mp}{w:World}(H:RdOk M w){b:Nat}(h:M.rd b≠none):b<w.heap.size:=by
 cases hr:M.rd b with
 |none=>exact absurd hr h
 |some vs=>
  obtain⟨t,fz,hh⟩:=H b vs hr;rcases Pt b w.heap.size with x|x
  ·exact x
  ·simp[QH x]at hh
theorem CellsAt.mono{M M':Mp}(le:M.le M'){c:Array Value}{base sz:Nat}{es:List PV}(h:CellsAt ah M c base sz es):CellsAt ah M' c base sz es:=
 λi e hi=>⟨(h i e hi).1,λj x hj=>⟨((h i e hi).2 j x hj).1,by
  obtain⟨u,h1,h2⟩:=((h i e hi).2 j x hj).2;exact⟨u,h1,h2.mono le⟩⟩⟩
def Mp.at(M:Mp)(r:aq)(v:Nat)(loc:Option C3)(rd:RD):Mp:=
 {rd:=rd,io:=λr' v'=>if r'=r then(if v'=v then loc else none)else M.io r' v',cv:=λr'=>if r'=r then v else M.cv r'}
theorem HR.alloc{M:Mp}{h:Heap}{w:World}{s:Nat}{e:fg}(H:HR ah M h w)(he:h.get (.l s)=some e){b:Blk}{cs:Array Value}{t:TypeId}
  (hro:b.ro=false)(hsz:b.es.length*b.sz<=cs.size)(hbg:cs.size<=9223372036854775807*b.sz)(hc:CellsAt ah M cs 0 b.sz b.es):
  let M':=M.at (.l s) (e.ver+1) (some ⟨w.heap.size,0,b.sz,cs.size⟩) M.rd
  HR ah M' (h.put (.l s) ⟨e.ver+1,some b⟩) (w.alloc (.cells cs t))/\Stp M w M' (w.alloc (.cells cs t)):=by
 intro M';have hcv:M.cv (.l s)=e.ver:=H.cv _ _ he;have le:M.le M':=⟨.refl _,λr=>by
   show _<=(if r=.l s then _ else _);split
   ·rename_i hr;rw[hr,hcv];omega
   ·exact Pf _,λr v hv=>by
   show(if r=.l s then(if v=e.ver+1 then _ else none)else M.io r v)=_∨_;by_cases hr:r=.l s
   ·subst hr;rw[hcv]at hv;right;show(if(aq.l s)=.l s then(if v=e.ver+1 then _ else none)else M.io _ v)=none;rw[O9 rfl,Pd (by omega)]
   ·left;rw[Pd hr]⟩
 have hheap:∀k,k<w.heap.size->(w.alloc (.cells cs t)).heap[k]?=w.heap[k]?:=λk hk=>RowKit.Below.heap_alloc _ _ _ hk;have hnew:(w.alloc (.cells cs t)).heap[w.heap.size]?=some (.cells cs t):=by show(w.heap.push _)[w.heap.size]?=_;simp
 have hlt:∀r' v' loc',M.io r' v'=some loc'->loc'.b<w.heap.size:=λr' v' loc' hl=>H.own_lt (dx hl);have hio:∀r',r'≠ .l s->M'.io r'=M.io r':=λr' hr=>by funext v;show(if r'=.l s then _ else _)=_;rw[Pd hr]
 have hself:∀v,M'.io (.l s) v=if v=e.ver+1 then some ⟨w.heap.size,0,b.sz,cs.size⟩else none:=λv=>by show(if(aq.l s)=.l s then _ else _)=_;rw[O9 rfl]
 refine⟨H.upd he (by intro i hi;cases hi) le (λr' hr=>by show(if r'=.l s then _ else _)=_;rw[Pd hr]) hio (by show(if(aq.l s)=.l s then _ else _)=_;rw[O9 rfl]) ?_ ?_ ?_ ?_ ?_ ?_,?_⟩
 ·intro v hv;rw[hself]at hv;split at hv
  ·rename_i hv';exact⟨hv',by simp⟩
  ·exact absurd rfl hv
 ·intro _;rw[hself];simp
 ·intro b' loc hb hl;simp only[O5]at hb;subst hb;rw[hself,O9 rfl]at hl;simp only[O5]at hl;subst hl;refine⟨cs,t,0,0,⟨hnew,rfl,rfl,λk _=>by omega,⟨Pf _,λ_=>Qf _,hbg⟩,by show 0+_<=_;omega,λq=>absurd q (by rw[hro];decide),λ_=>?_,?_⟩⟩
  ·show M.rd w.heap.size=none;cases hr:M.rd w.heap.size with
   |none=>rfl
   |some vs=>have:=H.rd.lt (b:=w.heap.size) (by simp[hr]);omega
  ·exact hc.mono le
 ·intro v loc r' v' loc' hr h1 h2;rw[hself]at h1;split at h1
  ·simp only[O5]at h1;subst h1;have:=hlt _ _ _ h2;show w.heap.size≠_;omega
  ·cases h1
 ·intro r' v' loc' hr hl;exact⟨hheap _ (hlt _ _ _ hl),rfl⟩
 ·intro b' vs hb;have hb':M.rd b'=some vs:=hb;obtain⟨t',fz,hh⟩:=H.rd b' vs hb';exact⟨t',fz,by rw[hheap _ (H.rd.lt (by rw[hb'];simp))];exact hh⟩
 ·refine⟨⟨.refl _,rfl,rfl,rfl,by simp,λk hk _=>hheap k hk,λk hk=>?_,λk hk=>.inl hk⟩,le⟩;obtain⟨r,v,loc,hl,rfl⟩:=hk;by_cases hr:r=.l s
  ·subst hr;rw[hself]at hl;split at hl
   ·simp only[O5]at hl;subst hl;exact .inr (Pf _)
   ·cases hl
  ·rw[hio _ hr]at hl;exact .inl (dx hl)
end
def ku(P:Program)(t:TypeId)(sz:Option Nat):Bool:=
 match P.underlying t,P.info? t with
 |some (.struct _),some i=>sz==some i.size
 |some (.array _ _),some i=>sz==some i.size
 |some _,some i=>sz==none&&i.size==1
 |_,_=>false
def jK(sz:Option Nat):Nat:=sz.getD 1
theorem nN{P:Program}{t:TypeId}{sz:Option Nat}(h:ku P t sz=true):
  ∃d i,P.underlying t=some d/\P.info? t=some i/\i.size=jK sz/\
   ((sz=none/\(∀fs,d≠ .struct fs)/\(∀n e,d≠ .array n e))∨(∃n,sz=some n/\((∃fs,d=.struct fs)∨(∃n e,d=.array n e)))):=by
 unfold ku at h;split at h
 ·rename_i fs i h1 h2;simp only[PF]at h;exact⟨_,i,h1,h2,by simp[h,jK],.inr ⟨_,h,.inl ⟨_,rfl⟩⟩⟩
 ·rename_i n e i h1 h2;simp only[PF]at h;exact⟨_,i,h1,h2,by simp[h,jK],.inr ⟨_,h,.inr ⟨_,_,rfl⟩⟩⟩
 ·rename_i d i h0 h00 h1 h2;simp only[O6,PF]at h;exact⟨d,i,h1,h2,by simp[h.1,h.2,jK],.inl ⟨h.1,λfs e=>h0 fs e,λn e e'=>h00 n e e'⟩⟩
 ·cases h
section
variable{P:Program}{w:World}
theorem br{t:TypeId}{d:TypeDesc}(h:P.underlying t=some d):(Go.underlying t).run P w=.ok d w:=by
 simp[Go.underlying,h]
theorem re{t:TypeId}{i:TypeInfo}(h:P.info? t=some i):(Go.typeInfo t).run P w=.ok i w:=by
 simp[Go.typeInfo,h]
theorem hI{t:TypeId}{i:TypeInfo}(h:P.info? t=some i):(Go.sizeOf t).run P w=.ok i.size w:=by
 simp[Go.sizeOf,re h]
theorem mI{t:TypeId}{sz:Option Nat}(h:ku P t sz=true):(Go.isAgg t).run P w=.ok sz.isSome w:=by
 obtain⟨d,i,h1,h2,h3,h4⟩:=nN h;rcases h4 with⟨rfl,ha,hb⟩|⟨n,rfl,⟨fs,rfl⟩|⟨n,e,rfl⟩⟩
 ·simp only[Go.isAgg,Sem.run_bind,br h1,Result.andThen_ok];cases d with
  |struct fs=>exact absurd rfl (ha fs)
  |array n e=>exact absurd rfl (hb n e)
  |_=>rfl
 ·simp[Go.isAgg,br h1]
 ·simp[Go.isAgg,br h1]
theorem i6{t:TypeId}{sz:Option Nat}(h:ku P t sz=true):(Go.sizeOf t).run P w=.ok (jK sz) w:=by
 obtain⟨d,i,h1,h2,h3,h4⟩:=nN h;rw[hI h2,h3]
theorem nK(b o k:Nat):(⟨b,o,none⟩:Addr).add k=⟨b,o+k,none⟩:=by
 unfold Addr.add;split
 ·rename_i h;simp[]
 ·rfl
theorem gk{a:Addr}(h:a.spot=none)(k:Nat):a.add k=⟨a.block,a.off+k,none⟩:=by
 cases a;simp only at h;subst h;exact nK _ _ _
theorem iJ{b o:Nat}{c:Array Value}{t:TypeId}{fz:Nat×Nat}(h:w.heap[b]?=some (.cells c t fz)):w.cell? ⟨b,o,none⟩=c[o]?:=by
 simp[World.cell?,h]
theorem tZ{t:TypeId}{a:Addr}{u:Value}(h:ku P t none=true)(hc:w.cell? a=some u):(Go.loadVar t a).run P w=.ok u w:=by
 simp[Go.loadVar,mI h,hc]
theorem sk{t:TypeId}{a:Addr}{n:Nat}{us:List Value}(h:ku P t (some n)=true)(hl:us.length=n)(hc:∀j v,us[j]?=some v->w.cell? (a.add j)=some v):
  (Go.loadVar t a).run P w=.ok (.agg us.toArray) w:=by
 subst hl;have:=run_loadCells_list (P:=P) w a us hc;simp[Go.loadVar,mI h,i6 h,jK,this]
end
section
variable{ah:Nat->FuncId}{P:Program}{M:Mp}{w:World}{h:Heap}
theorem wl{cs:List PV}{o:Nat}{v:PV}(h:dD cs o none=some v):cs[o]?=some v:=h
theorem v4{cs:List PV}{o n:Nat}{v:PV}(h:dD cs o (some n)=some v):o+n<=cs.length/\v=.agg ((cs.drop o).take n):=by
 simp only[dD]at h;by_cases hh:o+n<=cs.length
 ·rw[O9 hh]at h;exact⟨hh,(Q0 h).symm⟩
 ·rw[Pd hh]at h;cases h
theorem rN{t:TypeId}{sz:Option Nat}(ht:ku P t sz=true){cs:List PV}{o:Nat}{v:PV}(hv:dD cs o sz=some v){a:Addr}
  (us:Nat->Value)(hc:∀j x,cs[o+j]?=some x->w.cell? (a.add j)=some (us j))(hr:∀j x,cs[o+j]?=some x->VR ah M x (us j)):
  ∃u,(Go.loadVar t a).run P w=.ok u w/\VR ah M v u:=by
 cases sz with
 |none=>
  have h0:=wl hv;refine⟨us 0,tZ ht ?_,hr 0 v h0⟩;have:=hc 0 v h0;simpa[Addr.add]using this
 | some n=>
  obtain⟨hl,rfl⟩:=v4 hv;have hex:∀j,j<n->∃x,cs[o+j]?=some x:=λj hj=>⟨cs[o+j],Pa (by omega)⟩;refine⟨_,sk (us:=(List.range n).map us) ht (by simp) ?_,?_⟩
  ·intro j x hj;rw[Pk]at hj;rcases Pt j n with h1|h1
   ·rw[Qi h1]at hj;simp only[Py,O5]at hj;obtain⟨y,hy⟩:=hex j h1;rw[hc j y hy,hj]
   ·rw[Ph (by simpa using h1)]at hj;cases hj
  ·refine .agg _ _ (by simp;omega) ?_;intro i x u hi hu;rw[PN]at hi;split at hi
   ·rename_i hin;rw[PP]at hi;have:u=us i:=by
     simp only[QV,Pk,Qi hin,Py,O5]at hu;exact hu.symm
    rw[this];exact hr i x hi
   ·cases hi
theorem VR.of_lptr{cs:List PV}{c:Value}(h:VR ah M (.lptr cs) c):FR ah M.rd (.lptr cs) c:=by
 cases h with
 |fr h=>exact h
theorem xF{t:TypeId}{sz:Option Nat}(ht:ku P t sz=true){x v:PV}{h':Heap}(hx:(jN sz x).run h=some (v,h')){c:Value}(hc:VR ah M x c)
  (H:HR ah M h w):h'=h/\∃a,c=.pointer (some a)/\∃u,(Go.loadVar t a).run P w=.ok u w/\VR ah M v u:=by
 unfold jN at hx;split at hx
 ·rename_i r ver i o;obtain⟨b,h1,hb,hx⟩:=HM.run_bind_some hx;obtain⟨rfl,hg⟩:=bh hb;split at hx
  ·rename_i e he;obtain⟨hv,rfl⟩:=HM.run_ofO_some hx;refine⟨rfl,?_⟩;obtain⟨loc,ca,ty,lo,hi,hl,B⟩:=H.live hg;cases hc with
   |fr h=>cases h
   | ptr _ _ _ _ a' _ hl'=>
    have ha:=hl' loc hl;subst ha;refine⟨_,rfl,?_⟩;obtain⟨he1,he2⟩:=B.cells i e he;have hsz:=B.sz;refine rN ht hv (λj=>ca.getD (loc.base+i*loc.sz+o+j) undef) ?_ ?_
    ·intro j x hj;obtain⟨_,u,hu,_⟩:=he2 (o+j) x hj;rw[nK,iJ B.heap,hsz];rw[show loc.base+i*b.sz+o+j=loc.base+i*b.sz+(o+j)by omega,hu];simp[hu]
    ·intro j x hj;obtain⟨_,u,hu,hr⟩:=he2 (o+j) x hj;rw[hsz,show loc.base+i*b.sz+o+j=loc.base+i*b.sz+(o+j)by omega];simpa[hu]using hr
  ·simp[HM.run]at hx
 ·rename_i cs;obtain⟨hv,rfl⟩:=HM.run_ofO_some hx;refine⟨rfl,?_⟩;have hf:=hc.of_lptr;cases hf with
  | lptr _ a us h1 h2 h3=>
   refine⟨a,rfl,rN ht hv us ?_ ?_⟩
   ·intro j x hj;rw[PZ]at hj;obtain⟨_,hs,vs,hrd,hu⟩:=h1 j x hj;obtain⟨ty,fz,hh⟩:=H.rd _ _ hrd;rw[gk hs,iJ hh,hu]
   ·intro j x hj;rw[PZ]at hj;exact .fr (h2 j x hj)
 ·simp[HM.run]at hx
end
section
variable{ah:Nat->FuncId}{P:Program}{M:Mp}{w:World}{h:Heap}
theorem VR.int_inv{k:IntKind}{n:Int}{c:Value}(x:VR ah M (.int k n) c):c=.int k n:=by cases x with|fr x=>cases x;rfl
theorem VR.bool_inv{b:Bool}{c:Value}(x:VR ah M (.bool b) c):c=.bool b:=by cases x with|fr x=>cases x;rfl
theorem VR.str_inv{s:List UInt8}{c:Value}(x:VR ah M (.str s) c):c=.string ⟨s.toArray⟩:=by cases x with|fr x=>cases x;rfl
theorem VR.nils_inv{c:Value}(x:VR ah M .nils c):c=.slice none 0 0:=by cases x with|fr x=>cases x;rfl
theorem VR.nilp_inv{c:Value}(x:VR ah M .nilp c):c=.pointer none:=by cases x with|fr x=>cases x;rfl
theorem VR.nilfn_inv{c:Value}(x:VR ah M .nilfn c):c=.nilFunc:=by cases x with|fr x=>cases x;rfl
theorem VR.lst_inv{es:List PV}{c0:Bool}{c:Value}(x:VR ah M (.lst es c0) c):FR ah M.rd (.lst es c0) c:=by cases x with|fr x=>exact x
theorem VR.agg_inv{cs:List PV}{c:Value}(x:VR ah M (.agg cs) c):
  ∃vs,c=.agg vs/\cs.length=vs.size/\∀(i:Nat)(e:PV)(u:Value),cs[i]?=some e->vs[i]?=some u->VR ah M e u:=by
 cases x with
 |fr x=>cases x with|agg _ vs h1 h2=>exact⟨vs,rfl,h1,λi e u a b=>.fr (h2 i e u a b)⟩
 |agg _ vs h1 h2=>exact⟨vs,rfl,h1,h2⟩
theorem VR.tup_inv{cs:List PV}{c:Value}(x:VR ah M (.tup cs) c):
  ∃vs,c=.tuple vs/\cs.length=vs.size/\∀(i:Nat)(e:PV)(u:Value),cs[i]?=some e->vs[i]?=some u->VR ah M e u:=by
 cases x with
 |fr x=>cases x with|tup _ vs h1 h2=>exact⟨vs,rfl,h1,λi e u a b=>.fr (h2 i e u a b)⟩
 |tup _ vs h1 h2=>exact⟨vs,rfl,h1,h2⟩
theorem VR.fn_inv{f:Nat}{cs:List PV}{c:Value}(x:VR ah M (.fn f cs) c):
  ∃vs,c=.func (.func (ah f)) #[] vs/\cs.length=vs.size/\∀(i:Nat)(e:PV)(u:Value),cs[i]?=some e->vs[i]?=some u->VR ah M e u:=by
 cases x with
 |fr x=>cases x with|fn _=>exact⟨#[],rfl,rfl,λi e u a b=>by simp at a⟩
 |fn _ _ vs h1 h2=>exact⟨vs,rfl,h1,h2⟩
theorem VR.lptr_inv{cs:List PV}{c:Value}(x:VR ah M (.lptr cs) c):∃a,c=.pointer (some a):=by
 have:=x.of_lptr;cases this;exact⟨_,rfl⟩
theorem H5{op:BinOp}{k k':IntKind}{a b:Int}{v:PV}(hv:aY op k a k' b=some v)(xType:TypeId):
  ∃c,(Go.binOp op xType (.int k a) (.int k' b)).run P w=.ok c w/\VR ah M v c:=by
 unfold aY at hv;split at hv
 ·split at hv
  ·cases hv
  ·rename_i hb;cases hv;exact⟨_,by simp[Go.binOp,Go.Op.shift,hb],.fr (.int _ _)⟩
 ·split at hv
  ·cases hv
  ·rename_i hb;cases hv;exact⟨_,by simp[Go.binOp,Go.Op.shift,hb],.fr (.int _ _)⟩
 ·split at hv
  ·cases hv
  ·rename_i h1 h2 hk;simp only[ne_eq,Decidable.not_not]at hk;subst hk;split at hv
   ·cases hv;exact⟨_,by simp[Go.binOp,Go.Op.intArith],.fr (.int _ _)⟩
   ·cases hv;exact⟨_,by simp[Go.binOp,Go.Op.intArith],.fr (.int _ _)⟩
   ·cases hv;exact⟨_,by simp[Go.binOp,Go.Op.intArith],.fr (.int _ _)⟩
   ·split at hv
    ·cases hv
    ·rename_i hb;cases hv;exact⟨_,by simp[Go.binOp,Go.Op.intDiv,hb],.fr (.int _ _)⟩
   ·split at hv
    ·cases hv
    ·rename_i hb;cases hv;exact⟨_,by simp[Go.binOp,Go.Op.intDiv,hb],.fr (.int _ _)⟩
   ·cases hv;exact⟨_,by simp[Go.binOp,Go.Op.intBits],.fr (.int _ _)⟩
   ·cases hv;exact⟨_,by simp[Go.binOp,Go.Op.intBits],.fr (.int _ _)⟩
   ·cases hv;exact⟨_,by simp[Go.binOp,Go.Op.intBits],.fr (.int _ _)⟩
   ·cases hv;exact⟨_,by simp[Go.binOp,Go.Op.intBits],.fr (.int _ _)⟩
   all_goals first
    |(cases hv;exact⟨_,by simp[Go.binOp,Go.Op.intCmp],.fr (.bool _)⟩)
    |cases hv
theorem jm{op:BinOp}{t:TypeId}{X Y:Operand}{a b:Value}(h:(∀u,a≠ .agg u)/\a≠ .nilIface):(Go.eqGuard op t X Y a b).run P w=.ok () w:=by
 unfold Go.eqGuard;cases op<;>simp
 all_goals
  cases a<;>simp_all
theorem J9{op:BinOp}{x y v:PV}{a b:Value}(hv:bin op x y=some v)(hx:VR ah M x a)(hy:VR ah M y b)(xType:TypeId)(X Y:Operand):
  ∃c,((Go.eqGuard op xType X Y a b)>>= λ_=>Go.binOp op xType a b).run P w=.ok c w/\VR ah M v c:=by
 unfold bin at hv;split at hv
 ·have ha:=hx.int_inv;have hb:=hy.int_inv;subst ha;subst hb;obtain⟨c,h1,h2⟩:=H5 (P:=P) (w:=w) (ah:=ah) (M:=M) hv xType;exact⟨c,by rw[Sem.run_bind,jm ⟨by intro u;simp,by simp⟩];exact h1,h2⟩
 ·have ha:=hx.str_inv;have hb:=hy.str_inv;subst ha;subst hb;rw[Sem.run_bind,jm ⟨by intro u;simp,by simp⟩];split at hv
  ·cases hv;exact⟨_,by simp[Go.binOp,Go.Op.stringOp],.fr (.bool _)⟩
  ·cases hv;exact⟨_,by simp[Go.binOp,Go.Op.stringOp],.fr (.bool _)⟩
  ·split at hv
   ·rename_i s1 s2 _ hl;cases hv;refine⟨.string (⟨s1.toArray⟩++⟨s2.toArray⟩),?_,?_⟩
    ·have:¬(((⟨s1.toArray⟩:ByteArray).size+(⟨s2.toArray⟩:ByteArray).size:Nat):Int)>IntKind.i64.max:=by
      have e1:(⟨s1.toArray⟩:ByteArray).size=s1.length:=by simp[ByteArray.size]
      have e2:(⟨s2.toArray⟩:ByteArray).size=s2.length:=by simp[ByteArray.size]
      have e3:IntKind.i64.max=9223372036854775807:=by decide
      rw[e1,e2,e3];omega
     simp only[Go.binOp,Go.Op.stringOp,Result.andThen_ok];rw[Pd this];rfl
    ·have:(⟨s1.toArray⟩++⟨s2.toArray⟩:ByteArray)=⟨(s1++s2).toArray⟩:=by
      apply ByteArray.ext;simp
     rw[this];exact .fr (.str _)
   ·cases hv
  ·cases hv
 ·cases hv
theorem mK{t:TypeId}(ht:P.underlying t=some .bool)(d:Nat)(a b:Bool):(Op.equalIn (d+1) t (.bool a) (.bool b)).run P w=.ok (a==b) w:=by
 simp[Op.equalIn,br ht]
def cP:Value->Bool
 |.slice none _ _=>true
 |.pointer none=>true
 |.nilFunc=>true
 |_=>false
theorem rQ{t e:TypeId}(ht:P.underlying t=some (.slice e))(d:Nat){a b:Value}(ha:∃p l c,a=.slice p l c)(hb:∃p l c,b=.slice p l c)
  (hn:cP a=true∨cP b=true):(Op.equalIn (d+1) t a b).run P w=.ok (cP a&&cP b) w:=by
 obtain⟨p,l,c,rfl⟩:=ha;obtain⟨q,l',c',rfl⟩:=hb;cases p<;>cases q<;>simp[cP,Op.equalIn,br ht]at hn⊢
theorem tJ{t e:TypeId}(ht:P.underlying t=some (.pointer e))(d:Nat){a b:Value}(ha:∃p,a=.pointer p)(hb:∃p,b=.pointer p)
  (hn:cP a=true∨cP b=true):(Op.equalIn (d+1) t a b).run P w=.ok (cP a&&cP b) w:=by
 obtain⟨p,rfl⟩:=ha;obtain⟨q,rfl⟩:=hb;cases p<;>cases q<;>simp[cP,Op.equalIn,br ht]at hn⊢
theorem sN{t:TypeId}{ps rs:Array TypeId}{v:Bool}(ht:P.underlying t=some (.func ps rs v))(d:Nat){a b:Value}(ha:a=.nilFunc∨∃f p q,a=.func f p q)(hb:b=.nilFunc∨∃f p q,b=.func f p q)
  (hn:cP a=true∨cP b=true):(Op.equalIn (d+1) t a b).run P w=.ok (cP a&&cP b) w:=by
 rcases ha with rfl|⟨f,p,q,rfl⟩<;>rcases hb with rfl|⟨f',p',q',rfl⟩<;>simp[cP,Op.equalIn,br ht]at hn⊢
theorem jz{t:TypeId}{a b:Value}{neg r:Bool}(h:(Op.equalIn (9999+1) t a b).run P w=.ok r w)
  (hab:∀(o:BinOp),(o=.eql->Go.binOp o t a b=(Op.equalIn (9999+1) t a b>>= λr=>pure (.bool r)))/\(o=.neq->Go.binOp o t a b=(Op.equalIn (9999+1) t a b>>= λr=>pure (.bool !r)))):
  (Go.binOp (if neg then .neq else .eql) t a b).run P w=.ok (.bool (if neg then !r else r)) w:=by
 cases neg
 ·rw[Pd (by decide),(hab .eql).1 rfl,Sem.run_bind,h];rfl
 ·rw[O9 rfl,(hab .neq).2 rfl,Sem.run_bind,h];rfl
theorem Kz{neg:Bool}{x y v:PV}{a b:Value}(hv:eqb neg x y=some v)(hx:VR ah M x a)(hy:VR ah M y b){xType:TypeId}(ht:P.underlying xType=some .bool)
  (X Y:Operand):∃c,((Go.eqGuard (if neg then .neq else .eql) xType X Y a b)>>= λ_=>Go.binOp (if neg then .neq else .eql) xType a b).run P w=.ok c w/\VR ah M v c:=by
 unfold eqb at hv;split at hv
 ·rename_i p q;have ha:=hx.bool_inv;have hb:=hy.bool_inv;subst ha;subst hb;cases hv;rw[Sem.run_bind,jm ⟨by intro u;simp,by simp⟩];exact⟨_,jz (mK ht 9999 _ _) (λo=>⟨λe=>by subst e;rfl,λe=>by subst e;rfl⟩),.fr (.bool _)⟩
 ·cases hv
def uo(P:Program)(t:TypeId)(k:Nat):Bool:=
 match P.underlying t with
 |some (.slice _)=>k==0
 |some (.pointer _)=>k==1
 |some (.func _ _ _)=>decide (2<=k)
 |_=>false
theorem kM{xType:TypeId}{a b:Value}{neg:Bool}{k:Nat}(hk:uo P xType k=true)
  (hab:(k=0/\(∃p l c,a=.slice p l c)/\(∃p l c,b=.slice p l c))∨(k=1/\(∃p,a=.pointer p)/\(∃p,b=.pointer p))∨
   (2<=k/\(a=.nilFunc∨∃f x y,a=.func f x y)/\(b=.nilFunc∨∃f x y,b=.func f x y)))(hn:cP a=true∨cP b=true)(X Y:Operand):
  ((Go.eqGuard (if neg then .neq else .eql) xType X Y a b)>>= λ_=>Go.binOp (if neg then .neq else .eql) xType a b).run P w=
   .ok (.bool (if neg then !(cP a&&cP b)else(cP a&&cP b))) w:=by
 unfold uo at hk;rw[Sem.run_bind,jm (by
  rcases hab with⟨_,⟨p,l,c,rfl⟩,_⟩|⟨_,⟨p,rfl⟩,_⟩|⟨_,rfl|⟨f,x,y,rfl⟩,_⟩<;>exact⟨by intro u;simp,by simp⟩)]
 split at hk
 ·rename_i e hu;have h0:k=0:=by simpa using hk
  subst h0;rcases hab with⟨_,⟨p,l,c,rfl⟩,⟨q,l',c',rfl⟩⟩|⟨h1,_⟩|⟨h1,_⟩
  ·exact jz (rQ hu 9999 ⟨_,_,_,rfl⟩ ⟨_,_,_,rfl⟩ hn) (λo=>⟨λe=>by subst e;rfl,λe=>by subst e;rfl⟩)
  ·cases h1
  ·omega
 ·rename_i e hu;have h0:k=1:=by simpa using hk
  subst h0;rcases hab with⟨h1,_⟩|⟨_,⟨p,rfl⟩,⟨q,rfl⟩⟩|⟨h1,_⟩
  ·cases h1
  ·cases p<;>cases q<;>exact jz (tJ hu 9999 ⟨_,rfl⟩ ⟨_,rfl⟩ hn) (λo=>⟨λe=>by subst e;rfl,λe=>by subst e;rfl⟩)
  ·omega
 ·rename_i p r v hu;have h0:2<=k:=by simpa using hk
  rcases hab with⟨h1,_⟩|⟨h1,_⟩|⟨_,h1,h2⟩
  ·omega
  ·omega
  ·have:=sN (P:=P) (w:=w) hu 9999 h1 h2 hn;refine jz this (λo=>?_);rcases h1 with rfl|⟨f,x,y,rfl⟩<;>rcases h2 with rfl|⟨f',x',y',rfl⟩<;>exact⟨λe=>by subst e;rfl,λe=>by subst e;rfl⟩
 ·cases hk
theorem Dg{x:PV}{b:Bool}{c:Value}(h:Hf x=some b)(hx:VR ah M x c):(∃p l k,c=.slice p l k)/\cP c=b:=by
 unfold Hf at h;split at h
 ·cases h;have:=hx.nils_inv;subst this;exact⟨⟨_,_,_,rfl⟩,rfl⟩
 ·cases h;have:=hx.lst_inv;cases this;exact⟨⟨_,_,_,rfl⟩,rfl⟩
 ·cases h;cases hx with
  |fr x=>cases x
  |tok _ _ _ _ _ _ _ a cap=>exact⟨⟨_,_,_,rfl⟩,rfl⟩
 ·cases h
theorem CH{x:PV}{b:Bool}{c:Value}(h:Br x=some b)(hx:VR ah M x c):(∃p,c=.pointer p)/\cP c=b:=by
 unfold Br at h;split at h
 ·cases h;have:=hx.nilp_inv;subst this;exact⟨⟨_,rfl⟩,rfl⟩
 ·cases h;obtain⟨a,rfl⟩:=hx.lptr_inv;exact⟨⟨_,rfl⟩,rfl⟩
 ·cases h;cases hx with
  |fr x=>cases x
  |ptr _ _ _ _ a=>exact⟨⟨_,rfl⟩,rfl⟩
 ·cases h
theorem Dh{x:PV}{b:Bool}{c:Value}(h:B4 x=some b)(hx:VR ah M x c):(c=.nilFunc∨∃f p q,c=.func f p q)/\cP c=b:=by
 unfold B4 at h;split at h
 ·cases h;have:=hx.nilfn_inv;subst this;exact⟨.inl rfl,rfl⟩
 ·cases h;obtain⟨vs,rfl,_⟩:=hx.fn_inv;exact⟨.inr ⟨_,_,_,rfl⟩,rfl⟩
 ·cases h
theorem Jc{k:Nat}{neg:Bool}{x y v:PV}{a b:Value}(hv:eqn k neg x y=some v)(hx:VR ah M x a)(hy:VR ah M y b){xType:TypeId}(ht:uo P xType k=true)
  (X Y:Operand):∃c,((Go.eqGuard (if neg then .neq else .eql) xType X Y a b)>>= λ_=>Go.binOp (if neg then .neq else .eql) xType a b).run P w=.ok c w/\VR ah M v c:=by
 unfold eqn at hv;split at hv
 ·split at hv
  ·simp only[PI]at hv;obtain⟨bb,h1,rfl⟩:=hv;obtain⟨hs,hn⟩:=Dg h1 hy;have ha:=hx.nils_inv;subst ha;exact⟨_,kM ht (.inl ⟨rfl,⟨_,_,_,rfl⟩,hs⟩) (.inl rfl) X Y,by rw[hn];exact .fr (.bool _)⟩
  ·simp only[PI]at hv;obtain⟨bb,h1,rfl⟩:=hv;obtain⟨hs,hn⟩:=Dg h1 hx;have ha:=hy.nils_inv;subst ha;exact⟨_,kM ht (.inl ⟨rfl,hs,⟨_,_,_,rfl⟩⟩) (.inr rfl) X Y,by rw[hn];simp[cP];exact .fr (.bool _)⟩
  ·cases hv
 ·split at hv
  ·simp only[PI]at hv;obtain⟨bb,h1,rfl⟩:=hv;obtain⟨hs,hn⟩:=CH h1 hy;have ha:=hx.nilp_inv;subst ha;exact⟨_,kM ht (.inr (.inl ⟨rfl,⟨_,rfl⟩,hs⟩)) (.inl rfl) X Y,by rw[hn];exact .fr (.bool _)⟩
  ·simp only[PI]at hv;obtain⟨bb,h1,rfl⟩:=hv;obtain⟨hs,hn⟩:=CH h1 hx;have ha:=hy.nilp_inv;subst ha;exact⟨_,kM ht (.inr (.inl ⟨rfl,hs,⟨_,rfl⟩⟩)) (.inr rfl) X Y,by rw[hn];simp[cP];exact .fr (.bool _)⟩
  ·cases hv
 ·rename_i h0 h1;have h2:2<=k:=by
   rcases k with _|_|k
   ·exact absurd rfl h0
   ·exact absurd rfl h1
   ·omega
  split at hv
  ·simp only[PI]at hv;obtain⟨bb,h1,rfl⟩:=hv;obtain⟨hs,hn⟩:=Dh h1 hy;have ha:=hx.nilfn_inv;subst ha;exact⟨_,kM ht (.inr (.inr ⟨h2,.inl rfl,hs⟩)) (.inl rfl) X Y,by rw[hn];exact .fr (.bool _)⟩
  ·simp only[PI]at hv;obtain⟨bb,h1,rfl⟩:=hv;obtain⟨hs,hn⟩:=Dh h1 hx;have ha:=hy.nilfn_inv;subst ha;exact⟨_,kM ht (.inr (.inr ⟨h2,hs,.inl rfl⟩)) (.inr rfl) X Y,by rw[hn];simp[cP];exact .fr (.bool _)⟩
  ·cases hv
theorem VR.tok_inv{r:aq}{ver sz off len room:Nat}{c0:Bool}{c:Value}(x:VR ah M (.tok r ver sz off len room c0) c):
  ∃a cap,c=.slice (some a) len cap/\ver<=M.cv r/\len<=room/\room<=cap/\(c0=true->cap=0)/\
   ∀loc,M.io r ver=some loc->loc.sz=sz/\(cap=0∨a=⟨loc.b,loc.base+off*sz,none⟩/\loc.base+off*sz+cap*sz<=loc.size):=by
 cases x with
 |fr x=>cases x
 |tok _ _ _ _ _ _ _ a cap hv h2 h3 h4 h5=>exact⟨a,cap,rfl,hv,h2,h3,h4,h5⟩
theorem VR.ptr_inv{r:aq}{ver i o:Nat}{c:Value}(x:VR ah M (.ptr r ver i o) c):
  ∃a,c=.pointer (some a)/\ver<=M.cv r/\∀loc,M.io r ver=some loc->a=⟨loc.b,loc.base+i*loc.sz+o,none⟩:=by
 cases x with
 |fr x=>cases x
 |ptr _ _ _ _ a hv h=>exact⟨a,rfl,hv,h⟩
end
section
variable{ah:Nat->FuncId}{P:Program}{M:Mp}{w:World}{h:Heap}
theorem Ga{k:IntKind}{x v:PV}{c:Value}{h':Heap}(hv:(t8 k x).run h=some (v,h'))(hx:VR ah M x c){src dst:TypeId}{d:TypeDesc}
  (hs:P.underlying src=some d)(ht:P.underlying dst=some (.int k)):h'=h/\∃u,(Go.convert src dst c).run P w=.ok u w/\VR ah M v u:=by
 unfold t8 at hv;split at hv
 ·obtain⟨rfl,rfl⟩:=HM.run_ret_some hv;have:=hx.int_inv;subst this;refine⟨rfl,_,?_,.fr (.int _ _)⟩;unfold Go.convert;simp only[Sem.run_bind,br hs,br ht,Result.andThen_ok,Conv.intToInt,Sem.run_pure]
 ·simp[HM.run]at hv
theorem MN{op:UnOp}{x v:PV}{c:Value}(hv:un op x=some v)(hx:VR ah M x c):∃u,(Go.Op.unary op c).run P w=.ok u w/\VR ah M v u:=by
 unfold un at hv;split at hv
 ·cases hv;have:=hx.int_inv;subst this;exact⟨_,by simp[Op.unary,Op.intArith],.fr (.int _ _)⟩
 ·rename_i k n;have:=hx.int_inv;subst this;simp[aY]at hv;subst hv;exact⟨_,by simp[Op.unary,Op.intBits],.fr (.int _ _)⟩
 ·cases hv;have:=hx.bool_inv;subst this;exact⟨_,by simp[Op.unary],.fr (.bool _)⟩
 ·cases hv
theorem DA{v:PV}{n:Nat}{c:Value}(h:ru v=some n)(hc:VR ah M v c):∃k z,c=.int k z/\0<=z/\n=z.toNat:=by
 unfold ru at h;split at h
 ·rename_i k z;split at h
  ·rename_i hz;cases h;exact⟨k,z,hc.int_inv,hz,rfl⟩
  ·cases h
 ·cases h
inductive D0 (ah:Nat->FuncId) (M:Mp):Option PV->Option Value->Prop
 |none:D0 ah M none none
 |some {v:PV} {c:Value} (h:VR ah M v c):D0 ah M (some v) (some c)
theorem cA{v:PV}{n y:Nat}{c:Value}(h:ru v=some n)(hc:VR ah M v c)(hy:n<=y)(code:BoundsCode):
  (Instr.sliceBound c y code).run P w=.ok n w:=by
 obtain⟨k,z,rfl,h0,rfl⟩:=DA h hc;unfold Instr.sliceBound;simp only[Sem.run_bind,asIntOf,Sem.run_pure,Result.andThen_ok];rw[O9 ⟨h0,by omega⟩];rfl
def MR(mx hi:Option PV)(m cap:Nat):Prop:=match mx with|some v=>ru v=some m/\m<=cap/\hi≠none|none=>m=cap
theorem eC{isS:Bool}{len cap l hh m:Nat}{lo hi mx:Option PV}{clo chi cmx:Option Value}(hlo:D0 ah M lo clo)(hhi:D0 ah M hi chi)(hmx:D0 ah M mx cmx)
  (el:aL 0 lo=some l)(eh:aL len hi=some hh)(em:MR mx hi m cap)
  (h1:l<=hh)(h2:hh<=m):(Instr.sliceBounds isS len cap clo chi cmx).run P w=.ok (l,hh,m) w:=by
 unfold Instr.sliceBounds;cases hmx with
 | none=>
  have em:m=cap:=em;subst em;cases hhi with
  |none=>
   simp[aL]at eh;subst eh;cases hlo with
   |none=>simp[aL]at el;subst el;simp
   |some hv=>simp only[aL]at el;simp[cA el hv h1]
  |some hv'=>
   simp only[aL]at eh;cases hlo with
   |none=>simp[aL]at el;subst el;simp[cA eh hv' h2]
   |some hv=>simp only[aL]at el;simp[cA el hv h1,cA eh hv' h2]
 | some hm=>
  obtain⟨e1,e2,e3⟩:_/\_/\_:=em;cases hhi with
  |none=>exact absurd rfl e3
  |some hv'=>
   simp only[aL]at eh;cases hlo with
   |none=>simp[aL]at el;subst el;simp[cA eh hv' h2,cA e1 hm e2]
   |some hv=>simp only[aL]at el;simp[cA el hv h1,cA eh hv' h2,cA e1 hm e2]
theorem Ds{rd:RD}{es:List PV}{sz esz:Nat}(h:lW es sz=true)(h3:∀(i:Nat)(e:PV),es[i]?=some e->e.cells.length=esz)(hne:es≠[]):esz=sz:=by
 cases es with
 |nil=>exact absurd rfl hne
 |cons e es=>have:=h3 0 e rfl;simp only[lW,PF]at h;omega
theorem FR.cut{rd:RD}{es:List PV}{c0 c0':Bool}{a:Option Addr}{n cap l hh m sz:Nat}(hf:FR ah rd (.lst es c0) (.slice a n cap))(hs:lW es sz=true)
  (h1:l<=hh)(h2:hh<=es.length)(h3:hh<=m)(h4:m<=cap)(hc:c0'=true->m-l=0):
  n=es.length/\FR ah rd (.lst ((es.drop l).take (hh-l)) c0') (.slice (if m=l then a else a.map (·.add (l*sz))) (hh-l) (m-l)):=by
 cases hf with
 | lst _ _ a _ esz us q1 q2 q3 q4 q5=>
  refine⟨rfl,?_⟩;have hlen:((es.drop l).take (hh-l)).length=hh-l:=by simp;omega
  have key:∀a',(l=0/\a'=a∨((es.drop l).take (hh-l))=[]∨a'=a.add (l*sz))->FR ah rd (.lst ((es.drop l).take (hh-l)) c0') (.slice (some a') (hh-l) (m-l)):=by
   intro a' ha';suffices hq:FR ah rd (.lst ((es.drop l).take (hh-l)) c0') (.slice (some a') ((es.drop l).take (hh-l)).length (m-l))by rw[hlen]at hq;exact hq
   have hget:∀(i:Nat)(e:PV),((es.drop l).take (hh-l))[i]?=some e->es[l+i]?=some e:=by
    intro i e hi;rw[PN]at hi;split at hi
    ·rw[PP]at hi;exact hi
    ·cases hi
   refine .lst _ c0' a' (m-l) esz (λi j=>us (l+i) j) (by rw[hlen];omega) hc (λi e hi=>q3 _ e (hget i e hi)) ?_ (λi e j c hi hj=>q5 _ e j c (hget i e hi) hj);intro i e j c hi hj;obtain⟨r1,r2,vs,r3,r4⟩:=q4 _ e j c (hget i e hi) hj;have hne:es≠[]:=by intro h0;rw[h0]at hi;simp at hi
   have hsz:=Ds (rd:=rd) hs q3 hne;refine⟨r1,?_⟩;rcases ha' with⟨h0,rfl⟩|h0|rfl
   ·subst h0;exact⟨r2,vs,r3,by rw[<-r4,PZ]⟩
   ·rw[h0]at hi;simp at hi
   ·rw[gk r2];refine⟨rfl,vs,r3,?_⟩;show vs[a.off+l*sz+(i*esz+j)]?=_;rw[<-r4,hsz,PL];congr 1;omega
  by_cases hm:m=l
  ·rw[O9 hm];refine key a (.inr (.inl ?_));have:hh-l=0:=by omega
   rw[this];rfl
  ·rw[Pd hm];exact key _ (.inr (.inr rfl))
theorem FR.lst_inv{rd:RD}{es:List PV}{c0:Bool}{c:Value}(h:FR ah rd (.lst es c0) c):∃a cap,c=.slice (some a) es.length cap/\es.length<=cap/\(c0=true->cap=0):=by
 cases h with|lst _ _ a cap esz us h1 h2=>exact⟨a,cap,rfl,h1,h2⟩
theorem zH{sz:Nat}{x v:PV}{lo hi mx:Option PV}{c:Value}{clo chi cmx:Option Value}(hv:gB sz x lo hi mx=some v)(hx:VR ah M x c)
  (hlo:D0 ah M lo clo)(hhi:D0 ah M hi chi)(hmx:D0 ah M mx cmx){t:TypeId}
  (ht:(∃e i,P.underlying t=some (.slice e)/\P.info? e=some i/\i.size=sz)∨P.underlying t=some .string)
  (hk:∀(s:List UInt8),x=.str s->P.underlying t=some .string)(hk':(∀(s:List UInt8),x≠ .str s)->P.underlying t≠some .string):
  ∃u,(Instr.sliceAt t c clo chi cmx).run P w=.ok u w/\VR ah M v u:=by
 have hsl:(∃e i,P.underlying t=some (.slice e)/\P.info? e=some i/\i.size=sz)->∀a n cap l hh m,c=.slice a n cap->(Instr.sliceBounds true n cap clo chi cmx).run P w=.ok (l,hh,m) w->
   (Instr.sliceAt t c clo chi cmx).run P w=.ok (.slice (if m=l then a else a.map (·.add (l*sz))) (hh-l) (m-l)) w:=by
  rintro ⟨e,i,hu,hi',hsz⟩ a n cap l hh m rfl hb
  unfold Instr.sliceAt Instr.slice;simp only[Sem.run_bind,br hu,Result.andThen_ok,hb,hI hi',hsz,Sem.run_pure]
 unfold gB at hv;by_cases hmh:(mx.isSome&&hi.isNone)=true
 ·rw[O9 hmh]at hv;cases hv
 rw[Pd hmh]at hv;have hmh':mx=none∨hi≠none:=by
  cases mx with
  |none=>exact .inl rfl
  |some m=>right;intro h0;rw[h0]at hmh;exact hmh rfl
 have mxn:∀{d m cap:Nat},aL d mx=some m->d<=cap->m<=d->∃m',MR mx hi m' cap/\(mx.isSome=true->m'=m)/\(mx.isSome=false->m'=cap/\m=d):=by
  intro d m cap h1 h2 h3;cases mx with
  |none=>simp only[aL,O5]at h1;exact⟨cap,rfl,by simp,λ_=>⟨rfl,h1.symm⟩⟩
  |some v=>exact⟨m,⟨h1,by omega,hmh'.resolve_left (by simp)⟩,λ_=>rfl,by simp⟩
 cases x with
 | nils=>
  have h0:=hx.nils_inv;have hty:=hk' (by intro s;simp);simp only[kH]at hv;cases e1:aL 0 lo with
  |none=>simp[e1]at hv
  |some l=>
  cases e2:aL 0 hi with
  |none=>simp[e1,e2]at hv
  |some hh=>
  cases e3:aL 0 mx with
  |none=>simp[e1,e2,e3]at hv
  |some m=>
  simp only[e1,e2,e3]at hv;by_cases hz:l=0/\hh=0/\m=0
  case neg=>rw[Pd hz]at hv;cases hv
  rw[O9 hz]at hv;obtain⟨rfl,rfl,rfl⟩:=hz;cases hv;rcases ht with ht|ht
  case inr=>exact absurd ht hty
  obtain⟨m',em,ea,eb⟩:=mxn e3 (Pf 0) (Pf 0);have hm0:m'=0:=by
   cases hms:mx.isSome with
   |true=>exact ea hms
   |false=>exact(eb hms).1
  subst hm0;exact⟨_,hsl ht none 0 0 0 0 0 h0 (eC hlo hhi hmx e1 e2 em (Pf _) (Pf _)),by simpa using .fr .nils⟩
 | str s=>
  have h0:=hx.str_inv;have hty:=hk s rfl;cases mx with
  |some m=>simp at hv
  |none=>
  simp only[QW,Ps,PS,rP]at hv;cases e1:aL 0 lo with
  |none=>simp[e1]at hv
  |some l=>
  cases e2:aL s.length hi with
  |none=>simp[e1,e2]at hv
  |some hh=>
  simp only[e1,e2]at hv;by_cases hc:l<=hh/\hh<=s.length
  case neg=>rw[Pd hc]at hv;cases hv
  rw[O9 hc]at hv;cases hv;have hb:=eC (P:=P) (w:=w) (isS:=false) (m:=s.length) (cap:=s.length) hlo hhi (D0.none) e1 e2 rfl hc.1 hc.2;have hsz:(⟨s.toArray⟩:ByteArray).size=s.length:=by simp[ByteArray.size]
  cases hmx;refine⟨.string ((⟨s.toArray⟩:ByteArray).extract l hh),?_,?_⟩
  ·subst h0;unfold Instr.sliceAt Instr.slice;simp only[Sem.run_bind,br hty,Result.andThen_ok,hsz,QW,Ps,PS,hb,Sem.run_pure]
  ·have:(⟨s.toArray⟩:ByteArray).extract l hh=⟨((s.drop l).take (hh-l)).toArray⟩:=by
    apply ByteArray.ext;simp[ByteArray.data_extract,List.extract_eq_take_drop]
   rw[this];exact .fr (.str _)
 | lst es c0=>
  have hf:=hx.lst_inv;have hty:=hk' (by intro s;simp);obtain⟨a,cap,rfl,hcap,hc0⟩:=hf.lst_inv;rcases ht with ht|ht
  case inr=>exact absurd ht hty
  simp only[dt]at hv;cases e1:aL 0 lo with
  |none=>simp[e1]at hv
  |some l=>
  cases e2:aL es.length hi with
  |none=>simp[e1,e2]at hv
  |some hh=>
  cases e3:aL es.length mx with
  |none=>simp[e1,e2,e3]at hv
  |some m=>
  simp only[e1,e2,e3]at hv;by_cases hc:l<=hh/\hh<=m/\m<=es.length/\lW es sz=true
  case neg=>rw[Pd hc]at hv;cases hv
  rw[O9 hc]at hv;cases hv;obtain⟨m',em,ea,eb⟩:=mxn e3 hcap hc.2.2.1;have hm':m<=m'/\m'<=cap:=by
   cases hms:mx.isSome with
   |true=>have:=ea hms;omega
   |false=>have:=eb hms;omega
  obtain⟨q1,q2⟩:=hf.cut (c0':=if mx.isSome then m==l else c0) (m:=m') hc.2.2.2 hc.1 (by omega) (by omega) hm'.2 (by
   cases hms:mx.isSome with
   |true=>intro h1;simp at h1;have:=ea hms;omega
   |false=>intro h1;simp at h1;have:=hc0 h1;omega)
  exact⟨_,hsl ht _ _ _ _ _ _ rfl (eC hlo hhi hmx e1 e2 em hc.1 (by omega)),.fr q2⟩
 | tok r ver z off len room c0=>
  by_cases hz:z=sz
  case neg=>simp only[Pd hz]at hv;cases hv
  simp only[O9 hz]at hv;subst hz;have hty:=hk' (by intro s;simp);obtain⟨a,cap,rfl,hver,h2,h3,h4,h5⟩:=hx.tok_inv;rcases ht with ht|ht
  case inr=>exact absurd ht hty
  have key:∀{l hh m:Nat}{c0':Bool}{rm:Nat},l<=hh->hh<=m->m<=cap->rm<=m-l->hh-l<=rm->(c0'=true->m-l=0)->
    VR ah M (.tok r ver z (off+l) (hh-l) rm c0') (.slice (if m=l then some a else(some a).map (·.add (l*z))) (hh-l) (m-l)):=by
   intro l hh m c0' rm k1 k2 k3 k4 k5 k6;by_cases hm:m=l
   ·rw[O9 hm];exact .tok _ _ _ _ _ _ _ _ _ hver k5 k4 k6 (λloc hl=>⟨(h5 loc hl).1,.inl (by omega)⟩)
   ·rw[Pd hm];refine .tok _ _ _ _ _ _ _ _ _ hver k5 k4 k6 (λloc hl=>⟨(h5 loc hl).1,.inr ?_⟩);obtain⟨hs,hcc⟩:=h5 loc hl;rcases hcc with hcc|⟨rfl,hb⟩
    ·omega
    ·show Addr.add _ _=_/\_;rw[nK];refine⟨by rw[PL,Rj],?_⟩;have e1:(off+l)*z+(m-l)*z=off*z+m*z:=by rw[<-PL,<-PL];congr 1;omega
     have e2:m*z<=cap*z:=PA _ k3;omega
  simp only[wi]at hv;cases e1:aL 0 lo with
  |none=>simp[e1]at hv
  |some l=>
  cases e2:aL len hi with
  |none=>simp[e1,e2]at hv
  |some hh=>
  cases e3:aL room mx with
  |none=>simp[e1,e2,e3]at hv
  |some m=>
  simp only[e1,e2,e3]at hv;by_cases hc:l<=hh/\hh<=m/\m<=room
  case neg=>rw[Pd hc]at hv;cases hv
  rw[O9 hc]at hv;cases hv;obtain⟨m',em,ea,eb⟩:=mxn e3 h3 hc.2.2;have hm':m<=m'/\m'<=cap:=by
   cases hms:mx.isSome with
   |true=>have:=ea hms;omega
   |false=>have:=eb hms;omega
  refine⟨_,hsl ht _ _ _ _ _ _ rfl (eC hlo hhi hmx e1 e2 em hc.1 (by omega)),key hc.1 (by omega) hm'.2 (by omega) (by omega) ?_⟩;cases hms:mx.isSome with
  |true=>intro h1;simp at h1;have:=ea hms;omega
  |false=>intro h1;simp at h1;have:=h4 h1;omega
 |_=>cases hv
end
section
variable{ah:Nat->FuncId}{P:Program}{M:Mp}{w:World}{h:Heap}
def mg(P:Program)(s:TypeId)(k off:Nat)(sz:Option Nat):Bool:=
 match P.underlying s with
 |some (.struct fs)=>match fs[k]? with
  |some f=>f.offset==off&&ku P f.type sz&&jK sz !=0
  |none=>false
 |_=>false
theorem tw{s:TypeId}{k off:Nat}{sz:Option Nat}(h:mg P s k off sz=true):
  ∃fs f,P.underlying s=some (.struct fs)/\fs[k]?=some f/\f.offset=off/\ku P f.type sz=true/\jK sz≠0:=by
 unfold mg at h;split at h
 ·rename_i fs hu;split at h
  ·rename_i f hf;simp only[O6,PF,bne_iff_ne]at h;exact⟨fs,f,hu,hf,h.1.1,h.1.2,h.2⟩
  ·cases h
 ·cases h
theorem FR.lptr_drop{rd:RD}{cs:List PV}{a:Addr}(hf:FR ah rd (.lptr cs) (.pointer (some a)))(off:Nat):FR ah rd (.lptr (cs.drop off)) (.pointer (some (a.add off))):=by
 cases hf with
 | lptr _ _ us h1 h2 h3=>
  refine .lptr _ _ (λj=>us (off+j)) ?_ ?_ ?_
  ·intro j c hj;rw[PP]at hj;obtain⟨q1,q2,vs,q3,q4⟩:=h1 _ _ hj;refine⟨q1,?_⟩;rw[gk h3];exact⟨rfl,vs,q3,by rw[<-q4];show vs[a.off+off+j]?=_;congr 1;omega⟩
  ·intro j c hj;rw[PP]at hj;exact h2 _ _ hj
  ·rw[gk h3]
theorem VR.at_off{x v:PV}{off:Nat}{c:Value}(hv:bl x off=some v)(hx:VR ah M x c):∃a,c=.pointer (some a)/\VR ah M v (.pointer (some (a.add off))):=by
 unfold bl at hv;split at hv
 ·cases hv;obtain⟨a,rfl,h1,h2⟩:=hx.ptr_inv;refine⟨a,rfl,.ptr _ _ _ _ _ h1 (λloc hl=>?_)⟩;rw[h2 loc hl,nK,Rj]
 ·cases hv;have hf:=hx.of_lptr;obtain⟨a,rfl⟩:=hx.lptr_inv;exact⟨a,rfl,.fr (hf.lptr_drop off)⟩
 ·cases hv
theorem yB{x v:PV}{off k:Nat}{c:Value}{s:TypeId}{sz:Option Nat}(hv:bl x off=some v)(hx:VR ah M x c)(ht:mg P s k off sz=true):
  ∃u,(Instr.fieldAt s c k).run P w=.ok u w/\VR ah M v u:=by
 obtain⟨a,rfl,hr⟩:=VR.at_off hv hx;obtain⟨fs,f,h1,h2,h3,h4,h5⟩:=tw ht;refine⟨_,?_,hr⟩;unfold Instr.fieldAt;simp only[Sem.run_bind,br h1,Result.andThen_ok,h2,Instr.sureAddr,Sem.run_pure,fieldPlace,i6 h4];rw[Pd h5,h3];rfl
theorem Eu{n sz:Nat}{x i v:PV}{c ci:Value}{t:TypeId}(hv:jJ n sz x i=some v)(hx:VR ah M x c)(hi:VR ah M i ci)
  (ht:∃e inf,P.underlying t=some (.array n e)/\P.info? e=some inf/\inf.size=sz):∃u,(Instr.indexAt t c ci).run P w=.ok u w/\VR ah M v u:=by
 unfold jJ at hv;split at hv
 ·rename_i k j;have:=hi.int_inv;subst this;split at hv
  ·rename_i hj;obtain⟨a,rfl,hr⟩:=VR.at_off hv hx;obtain⟨e,inf,h1,h2,h3⟩:=ht;refine⟨_,?_,hr⟩;unfold Instr.indexAt;simp only[asIntOf,Sem.run_bind,Sem.run_pure,Result.andThen_ok,br h1,Instr.sureAddr,O9 hj,hI h2,h3]
  ·cases hv
 ·cases hv
theorem yg{sz:Nat}{x i v:PV}{c ci:Value}{t:TypeId}(hv:au sz x i=some v)(hx:VR ah M x c)(hi:VR ah M i ci)
  (ht:∃e inf,P.underlying t=some (.slice e)/\P.info? e=some inf/\inf.size=sz)(hs0:0<sz):∃u,(Instr.indexAt t c ci).run P w=.ok u w/\VR ah M v u:=by
 obtain⟨e,inf,h1,h2,h3⟩:=ht;unfold au at hv;split at hv
 ·rename_i k j;have:=hi.int_inv;subst this;have run:∀(a:Addr)(len cap:Nat),c=.slice (some a) len cap->0<=j->j<len->(Instr.indexAt t c (.int k j)).run P w=.ok (.pointer (some (a.add (j.toNat*sz)))) w:=by
   rintro a len cap rfl q1 q2
   unfold Instr.indexAt;simp only[asIntOf,Sem.run_bind,Sem.run_pure,Result.andThen_ok,br h1,O9 (And.intro q1 q2),hI h2,h3]
  split at hv
  ·rename_i r ver z off len room c0;split at hv
   ·rename_i hc;obtain⟨hz,q1,q2⟩:=hc;cases hv;obtain⟨a,cap,rfl,hver,k2,k3,k4,k5⟩:=hx.tok_inv;refine⟨_,run a len cap rfl q1 q2,.ptr _ _ _ _ _ hver (λloc hl=>?_)⟩;obtain⟨e1,e2⟩:=k5 loc hl;rcases e2 with e2|⟨rfl,e2⟩
    ·omega
    ·rw[nK,e1,hz,PL];congr 1;omega
   ·cases hv
  ·rename_i es c0;split at hv
   ·rename_i hc;obtain⟨q1,q2⟩:=hc;split at hv
    ·rename_i el hel;split at hv
     ·rename_i hsz;cases hv;have hf:=hx.lst_inv;cases hf with
      | lst _ _ a cap esz us r1 r2 r3 r4 r5=>
       refine⟨_,run a _ _ rfl q1 q2,.fr (.lptr _ _ (us j.toNat) ?_ (λj' c hj=>r5 _ _ _ _ hel hj) ?_)⟩
       ·intro j' c hj;obtain⟨s1,s2,vs,s3,s4⟩:=r4 _ _ _ _ hel hj;refine⟨s1,?_⟩;rw[gk s2];refine⟨rfl,vs,s3,?_⟩;have:esz=sz:=by rw[<-r3 _ _ hel,hsz]
        rw[<-s4,this];show vs[a.off+j.toNat*sz+j']?=_;congr 1;omega
       ·have hne:∃c,el.cells[0]?=some c∨el.cells=[]:=by
         cases el.cells with
         |nil=>exact⟨.junk,.inr rfl⟩
         |cons y ys=>exact⟨y,.inl rfl⟩
        obtain⟨c,hc|hc⟩:=hne
        ·obtain⟨s1,s2,_⟩:=r4 _ _ _ _ hel hc;rw[gk s2]
        ·rw[hc]at hsz;simp at hsz;omega
     ·cases hv
    ·cases hv
   ·cases hv
  ·cases hv
 ·cases hv
theorem E3{sz:Option Nat}{x v:PV}{off k:Nat}{c:Value}{s:TypeId}{h':Heap}(hv:(nI sz x off).run h=some (v,h'))(hx:VR ah M x c)(ht:mg P s k off sz=true):
  h'=h/\∃u,(Instr.field s c k).run P w=.ok u w/\VR ah M v u:=by
 unfold nI at hv;split at hv
 ·rename_i cs;obtain⟨hl,rfl⟩:=HM.run_ofO_some hv;refine⟨rfl,?_⟩;obtain⟨vs,rfl,q1,q2⟩:=hx.agg_inv;obtain⟨fs,f,h1,h2,h3,h4,h5⟩:=tw ht;unfold Instr.field;simp only[Sem.run_bind,br h1,Result.andThen_ok,h2,asAgg,Sem.run_pure,part,mI h4];cases sz with
  | none=>
   have h0:=wl hl;have hlt:off<vs.size:=by
    rw[<-q1];rcases Pt off cs.length with z|z
    ·exact z
    ·rw[Ph z]at h0;cases h0
   have hu:vs[f.offset]?=some vs[off]:=by rw[h3,Pv hlt]
   exact⟨vs[off],by simp[hu],q2 _ _ _ h0 (Pv hlt)⟩
  | some n=>
   obtain⟨hb,rfl⟩:=v4 hl;refine⟨.agg (vs.extract off (off+n)),by simp[i6 h4,jK,h3],.agg _ _ (by simp;omega) ?_⟩;intro i y u hi hu;rw[PN]at hi;split at hi
   ·rename_i hin;rw[PP]at hi;rw[Array.getElem?_extract]at hu;split at hu
    ·exact q2 _ _ _ hi hu
    ·cases hu
   ·cases hi
 ·simp[HM.run]at hv
theorem BO{x v:PV}{i:Nat}{c:Value}{h':Heap}(hv:(pE x i).run h=some (v,h'))(hx:VR ah M x c):h'=h/\∃u,(Instr.extract c i).run P w=.ok u w/\VR ah M v u:=by
 unfold pE at hv;split at hv
 ·rename_i cs;obtain⟨hl,rfl⟩:=HM.run_ofO_some hv;refine⟨rfl,?_⟩;obtain⟨vs,rfl,q1,q2⟩:=hx.tup_inv;have hlt:i<vs.size:=by
   rw[<-q1];rcases Pt i cs.length with z|z
   ·exact z
   ·rw[Ph z]at hl;cases hl
  exact⟨vs[i],by simp[Instr.extract,Pv hlt],q2 _ _ _ hl (Pv hlt)⟩
 ·simp[HM.run]at hv
theorem Ja{x v:PV}{c:Value}{t ty:TypeId}(hv:xf x=some v)(hx:VR ah M x c){e:TypeId}(hu:P.underlying t=some (.slice e)):
  ∃u,(Builtin.len_ #[t] ty #[c]).run P w=.ok u w/\VR ah M v u:=by
 unfold xf at hv;split at hv
 ·cases hv;have:=hx.nils_inv;subst this;exact⟨_,by simp[Builtin.len_,br hu,goInt],.fr (.int _ _)⟩
 ·rename_i es c0;cases hv;obtain⟨a,cap,rfl,_⟩:=hx.lst_inv.lst_inv;exact⟨_,by simp[Builtin.len_,br hu,goInt],.fr (.int _ _)⟩
 ·cases hv;obtain⟨a,cap,rfl,_⟩:=hx.tok_inv;exact⟨_,by simp[Builtin.len_,br hu,goInt],.fr (.int _ _)⟩
 ·cases hv
theorem EW{b:Bool}:∀(ys:List PV)(us:List Value){x v:PV}{c:Value},mP b x ys=some v->VR ah M x c->ys.length=us.length->(∀(i:Nat)(e:PV)(u:Value),ys[i]?=some e->us[i]?=some u->VR ah M e u)->
  ∃u,(us.foldlM (if b then Builtin.max2 else Builtin.min2) c).run P w=.ok u w/\VR ah M v u
 |[],us,x,v,c,hv,hx,hl,_=>by
  cases us with
  |nil=>cases hv;exact⟨c,rfl,hx⟩
  |cons u us=>simp at hl
 | y::ys,us,x,v,c,hv,hx,hl,hr=>by
  cases us with
  |nil=>simp at hl
  | cons u us=>
   simp only[mP]at hv;split at hv
   case h_2=>cases hv
   rename_i z hz;unfold x7 at hz;split at hz
   case h_2=>cases hz
   rename_i k n k' m;cases hz;have h1:=hx.int_inv;subst h1;have h2:=(hr 0 _ _ rfl rfl).int_inv;subst h2;obtain⟨r,e1,e2⟩:=EW ys us (c:=.int k (if b then(if m>n then m else n)else(if m<n then m else n))) hv (.fr (.int _ _)) (by simpa using hl) (λi e u hi hu=>hr (i+1) e u (by simpa using hi) (by simpa using hu));refine⟨r,?_,e2⟩;rw[List.foldlM_cons,Sem.run_bind];have:((if b then Builtin.max2 else Builtin.min2) (.int k n) (.int k' m)).run P w=.ok (.int k (if b then(if m>n then m else n)else(if m<n then m else n))) w:=by
    cases b<;>rfl
   rw[this];exact e1
theorem Iq{x i v:PV}{c d:Value}{t:TypeId}(hv:Bj x i=some v)(hx:VR ah M x c)(hi:VR ah M i d)(hu:P.underlying t=some .string):
  ∃u,(Instr.index t c d).run P w=.ok u w/\VR ah M v u:=by
 unfold Bj at hv;split at hv
 case h_2=>cases hv
 rename_i s k n;by_cases h0:0<=n
 case neg=>rw[Pd h0]at hv;cases hv
 rw[O9 h0]at hv;split at hv
 case h_2=>cases hv
 rename_i b hb;cases hv;have h1:=hx.str_inv;subst h1;have h2:=hi.int_inv;subst h2;refine⟨.int .u8 b.toNat,?_,.fr (.int _ _)⟩;have hg:(⟨s.toArray⟩:ByteArray)[n.toNat]?=some b:=by
  have hlt:n.toNat<s.length:=by
   rcases Pt n.toNat s.length with z|z
   ·exact z
   ·rw[Ph z]at hb;cases hb
  rw[Pa hlt]at hb;have hsz:n.toNat<(⟨s.toArray⟩:ByteArray).size:=by simpa[ByteArray.size]using hlt
  rw[getElem?_pos (⟨s.toArray⟩:ByteArray) n.toNat hsz];rw[<-hb];rfl
 simp[Instr.index,br hu,h0,hg,asIntOf]
theorem GV{x v:PV}{c:Value}{t ty:TypeId}(hv:nV x=some v)(hx:VR ah M x c)(hu:P.underlying t=some .string):
  ∃u,(Builtin.len_ #[t] ty #[c]).run P w=.ok u w/\VR ah M v u:=by
 unfold nV at hv;split at hv
 ·rename_i s;cases hv;have:=hx.str_inv;subst this;refine⟨.int .i64 s.length,?_,.fr (.int _ _)⟩;have hsz:(⟨s.toArray⟩:ByteArray).size=s.length:=by simp[ByteArray.size]
  simp[Builtin.len_,br hu,goInt,hsz]
 ·cases hv
end
section
variable{ah:Nat->FuncId}{P:Program}{M:Mp}{w:World}{h:Heap}
theorem VR.fits_cells{v:PV}{sz:Option Nat}{c:Value}(hf:v.fits sz=true)(hx:VR ah M v c):
  c.cells.size=jK sz/\v.cells.length=jK sz/\∀(j:Nat)(x:PV),v.cells[j]?=some x->∃u,c.cells[j]?=some u/\VR ah M x u:=by
 cases sz with
 | none=>
  have one:v.cells=[v]/\c.cells= #[c]:=by
   cases hx with
   |fr hx=>cases hx<;>first|exact⟨rfl,rfl⟩|(simp[PV.fits]at hf;done)
   |junk=>simp[PV.fits]at hf
   |tok=>exact⟨rfl,rfl⟩
   |ptr=>exact⟨rfl,rfl⟩
   |agg=>simp[PV.fits]at hf
   |tup=>simp[PV.fits]at hf
   |fn=>exact⟨rfl,rfl⟩
  rw[one.1,one.2];refine⟨rfl,rfl,λj x hj=>?_⟩;cases j with
  |zero=>cases hj;exact⟨c,rfl,hx⟩
  |succ j=>cases hj
 | some n=>
  cases v with
  | agg cs=>
   obtain⟨vs,rfl,q1,q2⟩:=hx.agg_inv;simp only[PV.fits,PF]at hf;refine⟨by show vs.size=n;omega,hf,λj x hj=>?_⟩;have hlt:j<vs.size:=by
    rw[<-q1];rcases Pt j cs.length with z|z
    ·exact z
    ·have hj':cs[j]?=some x:=hj;rw[Ph z]at hj';cases hj'
   exact⟨vs[j],Pv hlt,q2 _ _ _ hj (Pv hlt)⟩
  |_=>simp[PV.fits]at hf
theorem uY(off:Nat):∀(l:List Value)(i:Nat)(A:Array Value),
  ((l.zipIdx i).foldl (λcs p=>cs.setIfInBounds (off+p.2) p.1) A).size=A.size/\
  (off+i+l.length<=A.size->∀k,((l.zipIdx i).foldl (λcs p=>cs.setIfInBounds (off+p.2) p.1) A)[k]?=if off+i<=k/\k<off+i+l.length then l[k-(off+i)]? else A[k]?)
 |[],i,A=>⟨rfl,λ_ k=>by rw[Pd (by simp)];rfl⟩
 | x::l,i,A=>by
  obtain⟨h1,h2⟩:=uY off l (i+1) (A.setIfInBounds (off+i) x);simp only[List.zipIdx_cons,List.foldl_cons,PJ];refine⟨by rw[h1];simp,λhb k=>?_⟩;rw[h2 (by rw[Array.size_setIfInBounds];omega)];by_cases hk:off+i<=k/\k<off+i+(l.length+1)
  ·rw[O9 hk];by_cases hk':off+(i+1)<=k/\k<off+(i+1)+l.length
   ·rw[O9 hk'];have:k-(off+i)=(k-(off+(i+1)))+1:=by omega
    rw[this];rfl
   ·rw[Pd hk'];have:k=off+i:=by omega
    subst this;rw[Nat.sub_self,Qh (by omega)];rfl
  ·rw[Pd hk,Pd (by omega)];exact Qe (by omega)
inductive qw (ah:Nat->FuncId) (M:Mp) (place:Nat->Option (Nat×Nat)):List (Nat×Option Nat×PV)->List (Nat×Value)->Prop
 |nil:qw ah M place [] []
 | cons (off:Nat) (sz:Option Nat) (v:PV) (i:Nat) (c:Value) (ps:List (Nat×Option Nat×PV)) (cs:List (Nat×Value)) (h:VR ah M v c) (hp:place i=some (off,jK sz))
   (hr:qw ah M place ps cs):qw ah M place ((off,sz,v)::ps) ((i,c)::cs)
theorem C8{place:Nat->Option (Nat×Nat)}:∀{ps:List (Nat×Option Nat×PV)}{cs:List (Nat×Value)},qw ah M place ps cs->∀{z r:List PV}{Z:Array Value},
  kW z ps=some r->z.length=Z.size->(∀(i:Nat)(e:PV)(u:Value),z[i]?=some e->Z[i]?=some u->VR ah M e u)->
  ∃R,Instr.fill place Z cs=some R/\r.length=R.size/\∀(i:Nat)(e:PV)(u:Value),r[i]?=some e->R[i]?=some u->VR ah M e u:=by
 intro ps cs hp;induction hp with
 |nil=>intro z r Z hf hl hz;simp[kW]at hf;subst hf;exact⟨Z,rfl,hl,hz⟩
 | cons off sz v i c ps cs hv hpl _ ih=>
  intro z r Z hf hl hz;simp only[kW]at hf;by_cases hc:v.fits sz=true/\off+v.cells.length<=z.length
  case neg=>rw[Pd hc]at hf;cases hf
  rw[O9 hc]at hf;obtain⟨q1,q2,q3⟩:=VR.fits_cells hc.1 hv;simp only[Instr.fill,hpl];have hno:¬((decide (c.cells.size≠jK sz)||decide (off+c.cells.size>Z.size))=true):=by
   simp only[Qt,PG,not_or,Decidable.not_not];have:=hc.2;refine⟨q1,?_⟩;omega
  rw[Pd hno];have hfold:=uY off c.cells.toList 0 Z;have hfe:c.cells.zipIdx.foldl (λcs(p:Value×Nat)=>cs.setIfInBounds (off+p.2) p.1) Z=(c.cells.toList.zipIdx 0).foldl (λcs p=>cs.setIfInBounds (off+p.2) p.1) Z:=by
   rw[<-Array.foldl_toList];simp
  have hget:=hfold.2 (by have:=hc.2;simp;omega);have hfe':(c.cells.zipIdx.foldl (λcs(x:Value×Nat)=>match x with|(c,j)=>cs.setIfInBounds (off+j) c) Z)=(c.cells.toList.zipIdx 0).foldl (λcs p=>cs.setIfInBounds (off+p.2) p.1) Z:=hfe;rw[hfe'];refine ih hf ?_ ?_
  ·rw[hfold.1];simp;have:=hc.2;omega
  ·intro k e u hk hu;rw[hget k]at hu;simp only[Qp,QT]at hu;have hb:=hc.2;by_cases h1:off<=k/\k<off+c.cells.size
   ·rw[O9 h1]at hu;rw[P6,Pp (by simp;omega)]at hk;simp only[Pw]at hk;rw[Pz (by omega)]at hk;have e1:k-min off z.length=k-off:=by omega
    rw[e1]at hk;obtain⟨u',hu',hr⟩:=q3 _ _ hk;have:u=u':=by
     rw[QJ]at hu;rw[hu']at hu;exact(Q0 hu).symm
    rw[this];exact hr
   ·rw[Pd h1]at hu;refine hz k e u ?_ hu;rw[<-hk];rcases Pt k off with h2|h2
    ·rw[P6,Pz (by simp;omega),PN,O9 h2]
    ·rw[P6,Pp (by simp;omega),Pp (by simp;omega),PP];congr 1;simp;omega
def jI:Nat->PV->Value->Bool
 |0,_,_=>false
 |n+1,v,c=>match v,c with
  |.int k a,.int k' b=>k==k'&&a==b
  |.bool a,.bool b=>a==b
  |.str s,.string b=>s==b.toList
  |.nils,.slice none 0 0=>true
  |.nilp,.pointer none=>true
  |.nilfn,.nilFunc=>true
  |.agg cs,.agg vs=>cs.length==vs.size&&(cs.zip vs.toList).all λp=>jI n p.1 p.2
  |.tup cs,.tuple vs=>cs.length==vs.size&&(cs.zip vs.toList).all λp=>jI n p.1 p.2
  |_,_=>false
theorem oK{rd:RD}:∀(n:Nat){v:PV}{c:Value},jI n v c=true->FR ah rd v c
 |0,v,c,h=>by simp[jI]at h
 | n+1,v,c,h=>by
  have many:∀(cs:List PV)(vs:Array Value),(cs.length==vs.size&&(cs.zip vs.toList).all λp=>jI n p.1 p.2)=true->
    cs.length=vs.size/\∀(i:Nat)(e:PV)(u:Value),cs[i]?=some e->vs[i]?=some u->FR ah rd e u:=by
   intro cs vs h;simp only[O6,PF,P4]at h;refine⟨h.1,λi e u h1 h2=>oK n (h.2 (e,u) ?_)⟩;rw[List.mem_iff_getElem?];refine⟨i,?_⟩;rw[List.getElem?_zip_eq_some];exact⟨h1,by rw[QJ];exact h2⟩
  unfold jI at h;split at h
  ·simp only[O6,PF]at h;obtain⟨rfl,rfl⟩:=h;exact .int _ _
  ·simp only[PF]at h;subst h;exact .bool _
  ·rename_i s b;simp only[PF]at h;subst h;rw[ByteArray.toList_eq];have:(Value.string b)=.string ⟨b.data.toList.toArray⟩:=by cases b;simp
   rw[this];exact .str _
  ·exact .nils
  ·exact .nilp
  ·exact .nilfn
  ·obtain⟨h1,h2⟩:=many _ _ h;exact .agg _ _ h1 h2
  ·obtain⟨h1,h2⟩:=many _ _ h;exact .tup _ _ h1 h2
  ·cases h
def Cc(P:Program)(t:TypeId):Option (Nat->Option (Nat×Nat)):=
 match P.underlying t with
 |some (.array _ e)=>match P.info? e with
  |some ie=>some λi=>some (i*ie.size,ie.size)
  |none=>none
 |some (.struct fields)=>match fields.toList.mapM (λf=>(P.info? f.type).map λi=>(f.offset,i.size))with
  |some pl=>some λi=>pl.toArray[i]?
  |none=>none
 |_=>none
def mw(P:Program)(t:TypeId)(z:PV):Bool:=
 match P.info? t with
 |some i=>match i.zero with
  |some v=>jI 20 z v
  |none=>false
 |none=>false
theorem lz{t:TypeId}{z:PV}(h:mw P t z=true):∃i v,P.info? t=some i/\i.zero=some v/\∀rd,FR ah rd z v:=by
 unfold mw at h;split at h
 ·rename_i i hi;split at h
  ·rename_i v hv;exact⟨i,v,hi,hv,λrd=>oK 20 h⟩
  ·cases h
 ·cases h
theorem FQ{t:TypeId}{z:List PV}{ps:List (Nat×Option Nat×PV)}{cs:List (Nat×Value)}{pl:Nat->Option (Nat×Nat)}{v:PV}{h':Heap}
  (hv:(uf z ps).run h=some (v,h'))(hz:mw P t (.agg z)=true)(hpl:Cc P t=some pl)(hp:qw ah M pl ps cs):
  h'=h/\∃u,(Instr.build t cs.toArray).run P w=.ok u w/\VR ah M v u:=by
 unfold uf at hv;cases hf:kW z ps with
 |none=>simp[hf,HM.run]at hv
 | some r=>
  simp only[hf]at hv;obtain⟨rfl,rfl⟩:=HM.run_ret_some hv;refine⟨rfl,?_⟩;obtain⟨i,zv,hi,hzv,hfr⟩:=lz (ah:=ah) hz;have hfr':=hfr M.rd;cases hfr' with
  | agg _ vs q1 q2=>
   obtain⟨R,hR,r1,r2⟩:=C8 hp hf q1 (λi e u a b=>.fr (q2 i e u a b));refine⟨.agg R,run_build w t _ R ?_,.agg _ _ r1 r2⟩;unfold Cc at hpl;unfold Program.built;rw[hi];split at hpl
   ·rename_i n e hu;split at hpl
    ·rename_i ie hie;simp only[O5]at hpl;subst hpl;simp only[hu,hzv,hie];exact hR
    ·cases hpl
   ·rename_i fields hu;split at hpl
    ·rename_i pl' hm;simp only[O5]at hpl;subst hpl;simp only[hu,hzv,hm];exact hR
    ·cases hpl
   ·cases hpl
end
def hJ(P:Program)(t:TypeId):Nat:=match P.info? t with|some i=>i.size|none=>0
def oy(P:Program)(ft:TypeId->List Bool->Bool)(ks:List Bool)(total:Nat):Nat->List Field->Bool
 |off,[]=>off==total
 |off,f::fs=>f.name !="_"&&f.offset==off&&ft f.type ((ks.drop off).take (hJ P f.type))&&oy P ft ks total (off+hJ P f.type) fs
def n6(P:Program):Nat->TypeId->List Bool->Bool
 |0,_,_=>false
 |n+1,t,ks=>match P.underlying t with
  |some (.int _)=>ku P t none&&ks==[false]
  |some .bool=>ku P t none&&ks==[true]
  |some (.struct fs)=>ku P t (some (hJ P t))&& !P.stoodInHeld t&&ks.length==hJ P t&&oy P (n6 P n) ks (hJ P t) 0 fs.toList
  |_=>false
def Cl:PV->Value
 |.int k n=>.int k n
 |.bool b=>.bool b
 |_=>undef
theorem ly:∀(k1 k2:List Bool)(a b a' b':List PV)(r:Bool),k1.length=a.length->a.length=a'.length->aK (k1++k2) (a++b) (a'++b')=some r->
  ∃r1 r2,aK k1 a a'=some r1/\aK k2 b b'=some r2/\r=(r1&&r2)
 |[],k2,[],b,[],b',r,_,_,h=>⟨true,r,rfl,h,by simp⟩
 |[],k2,[],b,y::a',b',r,_,hl,h=>by simp at hl
 |[],k2,x::a,b,_,b',r,hk,hl,h=>by simp at hk
 |k::k1,k2,[],b,_,b',r,hk,hl,h=>by simp at hk
 |k::k1,k2,x::a,b,[],b',r,hk,hl,h=>by simp at hl
 | k::k1,k2,x::a,b,y::a',b',r,hkl,hl,h=>by
  simp only[PJ,Nat.add_right_cancel_iff]at hl hkl;simp only[Qu]at h;unfold aK at h;split at h
  ·rename_i he _ _;cases he
  ·rename_i ks k p xs k' q ys h0 h1 h2;simp only[Q7]at h0 h1 h2;obtain⟨rfl,rfl⟩:=h0;obtain⟨rfl,rfl⟩:=h1;obtain⟨rfl,rfl⟩:=h2;split at h
   ·cases h
   ·rename_i hk;cases hr:aK (k1++k2) (a++b) (a'++b')with
    |none=>simp[hr]at h
    |some r'=>
     simp only[hr,O5]at h;obtain⟨r1,r2,e1,e2,e3⟩:=ly k1 k2 a b a' b' r' hkl hl hr;refine⟨p==q&&r1,r2,?_,e2,by rw[<-h,e3,Bool.and_assoc]⟩;unfold aK;simp only[hk,PS,e1]
  ·rename_i ks p xs q ys h0 h1 h2;simp only[Q7]at h0 h1 h2;obtain⟨rfl,rfl⟩:=h0;obtain⟨rfl,rfl⟩:=h1;obtain⟨rfl,rfl⟩:=h2;cases hr:aK (k1++k2) (a++b) (a'++b')with
   |none=>simp[hr]at h
   |some r'=>
    simp only[hr,O5]at h;obtain⟨r1,r2,e1,e2,e3⟩:=ly k1 k2 a b a' b' r' hkl hl hr;refine⟨p==q&&r1,r2,?_,e2,by rw[<-h,e3,Bool.and_assoc]⟩;unfold aK;simp only[e1]
  ·cases h
section
variable{ah:Nat->FuncId}{P:Program}{M:Mp}{w:World}{h:Heap}
def ui(xs:Array Value)(X:List PV):Prop:=X.length=xs.size/\∀(i:Nat)(x:PV),X[i]?=some x->xs[i]?=some (Cl x)
theorem xr{t:TypeId}(ht:ku P t none=true){xs:Array Value}{off:Nat}{u:Value}(h:xs[off]?=some u):(part t xs off).run P w=.ok u w:=by
 simp[part,mI ht,h]
theorem DT{t:TypeId}{n:Nat}(ht:ku P t (some n)=true)(xs:Array Value)(off:Nat):(part t xs off).run P w=.ok (.agg (xs.extract off (off+n))) w:=by
 simp[part,mI ht,i6 ht,jK]
def rO(P:Program)(t:TypeId)(X:List PV)(v:Value):Prop:=
 match P.underlying t with
 |some (.struct _)=>∃xs,v=.agg xs/\ui xs X/\X.length=hJ P t
 |_=>∃x,X=[x]/\v=Cl x
theorem sO(n:Nat)(ih:∀(t:TypeId)(ks:List Bool)(d:Nat)(X Y:List PV)(b:Bool)(vx vy:Value),n6 P n t ks=true->aK ks X Y=some b->rO P t X vx->rO P t Y vy->
   (Op.equalIn (d+n) t vx vy).run P w=.ok b w)(ks:List Bool)(d total:Nat)(hks:ks.length=total)(xs ys:Array Value)(X Y:List PV)(hX:ui xs X)(hY:ui ys Y)(hlX:X.length=total)(hlY:Y.length=total):
  ∀(fs:List Field)(off:Nat)(b:Bool),oy P (n6 P n) ks total off fs=true->aK (ks.drop off) (X.drop off) (Y.drop off)=some b->(Op.eqFields (d+n) xs ys fs).run P w=.ok b w
 |[],off,b,h,he=>by
  simp only[oy,PF]at h;subst h;rw[List.drop_of_length_le (by omega),List.drop_of_length_le (by omega),List.drop_of_length_le (by omega)]at he;simp only[aK,O5]at he;subst he;rfl
 | f::fs,off,b,h,he=>by
  simp only[oy,O6,PF,bne_iff_ne]at h;obtain⟨⟨⟨hn,ho⟩,hf⟩,hr⟩:=h;have hfit:∀(fs:List Field)(off:Nat),oy P (n6 P n) ks total off fs=true->off<=total:=by
   intro fs;induction fs with
   |nil=>intro off h;simp only[oy,PF]at h;omega
   |cons f fs ih'=>intro off h;simp only[oy,O6]at h;have:=ih' _ h.2;omega
  have hle:=hfit _ _ hr;have s1:X.drop off=(X.drop off).take (hJ P f.type)++X.drop (off+hJ P f.type):=by rw[<-Rd];exact(Q8 _ _).symm
  have s2:Y.drop off=(Y.drop off).take (hJ P f.type)++Y.drop (off+hJ P f.type):=by rw[<-Rd];exact(Q8 _ _).symm
  have s0:ks.drop off=(ks.drop off).take (hJ P f.type)++ks.drop (off+hJ P f.type):=by rw[<-Rd];exact(Q8 _ _).symm
  rw[s0,s1,s2]at he;obtain⟨r1,r2,e1,e2,rfl⟩:=ly _ _ _ _ _ _ _ (by simp;omega) (by simp;omega) he;have hrest:=sO n ih ks d total hks xs ys X Y hX hY hlX hlY fs _ r2 hr e2;have fv:∀(zs:Array Value)(Z:List PV),ui zs Z->Z.length=total->∃v,(part f.type zs f.offset).run P w=.ok v w/\rO P f.type ((Z.drop off).take (hJ P f.type)) v:=by
   intro zs Z hZ hlZ;cases n with
   |zero=>simp[n6]at hf
   | succ n=>
    unfold n6 at hf;unfold rO;split at hf
    ·rename_i k hu;simp only[O6]at hf
     replace hf:=hf.1
     obtain⟨_,i,_,hi,hsz,_⟩:=nN hf;have hs:hJ P f.type=1:=by simp[hJ,hi,hsz,jK]
     have hz:Z[off]?=some Z[off]:=Pa (by omega);refine⟨Cl Z[off],xr hf (by rw[ho];exact hZ.2 _ _ hz),?_⟩;simp only[hu];refine⟨Z[off],?_,rfl⟩;rw[hs,List.take_one];simp[hz]
    ·rename_i hu;simp only[O6]at hf
     replace hf:=hf.1
     obtain⟨_,i,_,hi,hsz,_⟩:=nN hf;have hs:hJ P f.type=1:=by simp[hJ,hi,hsz,jK]
     have hz:Z[off]?=some Z[off]:=Pa (by omega);refine⟨Cl Z[off],xr hf (by rw[ho];exact hZ.2 _ _ hz),?_⟩;simp only[hu];refine⟨Z[off],?_,rfl⟩;rw[hs,List.take_one];simp[hz]
    ·rename_i fs' hu;simp only[O6]at hf;refine⟨_,DT hf.1.1.1 _ _,?_⟩;simp only[hu];refine⟨_,rfl,⟨?_,?_⟩,?_⟩
     ·have:=hZ.1;simp;omega
     ·intro i x hi;rw[PN]at hi;split at hi
      ·rename_i hin;rw[PP]at hi;rw[Array.getElem?_extract,O9 (by have:=hZ.1;omega),ho];exact hZ.2 _ _ hi
      ·cases hi
     ·simp;omega
    ·cases hf
  obtain⟨va,ha,hfa⟩:=fv xs X hX hlX;obtain⟨vb,hb,hfb⟩:=fv ys Y hY hlY;have hq:=ih f.type _ d _ _ r1 va vb hf e1 hfa hfb;simp only[Op.eqFields,O9 hn,Sem.run_bind,ha,hb,hq,Result.andThen_ok];cases r1
  ·simp
  ·simpa using hrest
theorem vr:∀(n:Nat)(t:TypeId)(ks:List Bool)(d:Nat)(X Y:List PV)(b:Bool)(vx vy:Value),n6 P n t ks=true->aK ks X Y=some b->rO P t X vx->rO P t Y vy->
   (Op.equalIn (d+n) t vx vy).run P w=.ok b w
 |0,t,ks,d,X,Y,b,vx,vy,h,_,_,_=>by simp[n6]at h
 | n+1,t,ks,d,X,Y,b,vx,vy,h,he,hx,hy=>by
  unfold n6 at h;unfold rO at hx hy;split at h
  ·rename_i k hu;simp only[hu]at hx hy;obtain⟨x,rfl,rfl⟩:=hx;obtain⟨y,rfl,rfl⟩:=hy;simp only[O6,PF]at h;obtain⟨_,rfl⟩:=h;cases x<;>cases y<;>try(simp[aK]at he;done)
   rename_i k1 p k2 q;simp only[aK]at he;split at he
   ·cases he
   ·rename_i hk;simp only[ne_eq,Decidable.not_not]at hk;subst hk;simp only[O5,P2]at he;subst he;exact run_equalIn_int w (d+n) t k1 k p q hu
  ·rename_i hu;simp only[hu]at hx hy;obtain⟨x,rfl,rfl⟩:=hx;obtain⟨y,rfl,rfl⟩:=hy;simp only[O6,PF]at h;obtain⟨_,rfl⟩:=h;cases x<;>cases y<;>try(simp[aK]at he;done)
   simp only[aK,O5,P2]at he;subst he;exact mK hu (d+n) _ _
  ·rename_i fs hu;simp only[hu]at hx hy;obtain⟨xs,rfl,hX,hlX⟩:=hx;obtain⟨ys,rfl,hY,hlY⟩:=hy;simp only[O6,PC,PF]at h;have hfo:P.fieldsOf t=fs:=by simp[Program.fieldsOf,hu]
   show(Op.equalIn (d+n+1) t (.agg xs) (.agg ys)).run P w=_;rw[run_equalIn_struct (P:=P) w (d+n) t xs ys (by rw[hfo];exact hu) h.1.1.2,hfo];exact sO n (vr n) ks d _ h.1.2 xs ys X Y hX hY hlX hlY fs.toList 0 b h.2 (by simpa using he)
  ·cases h
theorem yI:∀{ks:List Bool}{X Y:List PV}{b:Bool},aK ks X Y=some b->(∀x∈X,(∃k n,x=.int k n)∨∃b,x=.bool b)/\(∀y∈Y,(∃k n,y=.int k n)∨∃b,y=.bool b)/\X.length=ks.length/\Y.length=ks.length:=by
 intro ks;induction ks with
 |nil=>
  intro X Y b h;cases X<;>cases Y<;>simp[aK]at h
  simp
 | cons k ks ih=>
  intro X Y b h;cases X with
  |nil=>simp[aK]at h
  |cons x X=>
  cases Y with
  |nil=>simp[aK]at h
  | cons y Y=>
   have:∃r,aK ks X Y=some r/\((∃k n,x=.int k n)∨∃b,x=.bool b)/\((∃k n,y=.int k n)∨∃b,y=.bool b):=by
    unfold aK at h;split at h
    ·rename_i h0 _ _;cases h0
    ·rename_i h0 h1 h2;simp only[Q7]at h0 h1 h2;obtain⟨rfl,rfl⟩:=h0;obtain⟨rfl,rfl⟩:=h1;obtain⟨rfl,rfl⟩:=h2;split at h
     ·cases h
     ·cases hr:aK ks X Y with
      |none=>simp[hr]at h
      |some r=>exact⟨r,rfl,.inl ⟨_,_,rfl⟩,.inl ⟨_,_,rfl⟩⟩
    ·rename_i h0 h1 h2;simp only[Q7]at h0 h1 h2;obtain⟨rfl,rfl⟩:=h0;obtain⟨rfl,rfl⟩:=h1;obtain⟨rfl,rfl⟩:=h2;cases hr:aK ks X Y with
     |none=>simp[hr]at h
     |some r=>exact⟨r,rfl,.inr ⟨_,rfl⟩,.inr ⟨_,rfl⟩⟩
    ·cases h
   obtain⟨r,hr,hx,hy⟩:=this;obtain⟨q1,q2,q3,q4⟩:=ih hr;refine⟨?_,?_,by simp[q3],by simp[q4]⟩
   ·intro z hz;cases hz with
    |head=>exact hx
    |tail _ hz=>exact q1 z hz
   ·intro z hz;cases hz with
    |head=>exact hy
    |tail _ hz=>exact q2 z hz
theorem AW{t:TypeId}{fs:Array Field}(hu:P.underlying t=some (.struct fs)){x:PV}{c:Value}{X:List PV}(hX:x.cells=X)(hl:X.length=hJ P t)
  (hv:∀y∈X,(∃k n,y=.int k n)∨∃b,y=.bool b)(hx:VR ah M x c)(hag:∃cs,x=.agg cs):rO P t X c:=by
 obtain⟨cs,rfl⟩:=hag;have:cs=X:=hX;subst this;obtain⟨vs,rfl,q1,q2⟩:=hx.agg_inv;unfold rO;simp only[hu];refine⟨vs,rfl,⟨q1,λi y hi=>?_⟩,hl⟩;have hlt:i<vs.size:=by
  rw[<-q1];rcases Pt i cs.length with z|z
  ·exact z
  ·rw[Ph z]at hi;cases hi
 have:=q2 i y vs[i] hi (Pv hlt);rw[Pv hlt];congr 1;rcases hv y (Pl hi)with⟨k,n,rfl⟩|⟨b,rfl⟩
 ·exact this.int_inv
 ·exact this.bool_inv
theorem J3{neg:Bool}{ks:List Bool}{x y v:PV}{a b:Value}{h':Heap}(hv:(zm neg ks x y).run h=some (v,h'))(hx:VR ah M x a)(hy:VR ah M y b){t:TypeId}
  {fs:Array Field}(hu:P.underlying t=some (.struct fs))(hf:n6 P 20 t ks=true)(hg:P.eqGuardType P.depth t=false)(X Y:Operand):
  h'=h/\∃c,((Go.eqGuard (if neg then .neq else .eql) t X Y a b)>>= λ_=>Go.binOp (if neg then .neq else .eql) t a b).run P w=.ok c w/\VR ah M v c:=by
 unfold zm at hv;split at hv
 case h_2=>simp[HM.run]at hv
 rename_i xs ys;cases he:aK ks xs ys with
 |none=>simp[he,HM.run]at hv
 | some r=>
  simp only[he]at hv;obtain⟨rfl,rfl⟩:=HM.run_ret_some hv;refine⟨rfl,?_⟩;obtain⟨q1,q2,q3,q4⟩:=yI he;have hl:ks.length=hJ P t:=by
   unfold n6 at hf;simp only[hu,O6,PF]at hf;exact hf.1.2
  have fx:=AW (P:=P) hu (x:=.agg xs) (X:=xs) rfl (by omega) q1 hx ⟨_,rfl⟩;have fy:=AW (P:=P) hu (x:=.agg ys) (X:=ys) rfl (by omega) q2 hy ⟨_,rfl⟩;have hq:=vr (P:=P) (w:=w) 20 t ks 9980 xs ys r a b hf he fx fy;obtain⟨va,rfl,_⟩:=hx.agg_inv;obtain⟨vb,rfl,_⟩:=hy.agg_inv;rw[Sem.run_bind,run_eqGuard_agg (P:=P) w _ t X Y va vb hg];exact⟨_,jz hq (λo=>⟨λe=>by subst e;rfl,λe=>by subst e;rfl⟩),.fr (.bool _)⟩
end
theorem cI:∀{cs:List PV}{j:Nat}{x:PV},aj cs=true->cs[j]?=some x->x.isCell=true
 |c::cs,0,x,h,hj=>by simp only[aj,O6]at h;cases hj;exact h.1
 |c::cs,j+1,x,h,hj=>by simp only[aj,O6]at h;exact cI h.2 hj
section
variable{ah:Nat->FuncId}{P:Program}{M:Mp}{w:World}{h:Heap}
def OkR(ah:Nat->FuncId)(P:Program)(M:Mp)(w:World)(s:Sem Value)(v:PV)(h':Heap):Prop:=
 ∃c w' M',s.run P w=.ok c w'/\Stp M w M' w'/\HR ah M' h' w'/\VR ah M' v c
theorem OkR.pure{s:Sem Value}{v:PV}{c:Value}(H:HR ah M h w)(hs:s.run P w=.ok c w)(hv:VR ah M v c):OkR ah P M w s v h:=
 ⟨c,w,M,hs,.refl _ _,H,hv⟩
theorem VR.isCell_one{v:PV}{c:Value}(h:VR ah M v c)(hc:v.isCell=true):c.oneCell'=true:=by
 cases h with
 |fr h=>cases h<;>first|rfl|(simp[PV.isCell]at hc;done)
 |junk=>simp[PV.isCell]at hc
 |tok=>rfl
 |ptr=>rfl
 |agg=>simp[PV.isCell]at hc
 |tup=>simp[PV.isCell]at hc
 |fn=>rfl
theorem Ee{t:TypeId}{sz:Option Nat}{x:PV}{s v:Nat}{c:Value}{h':Heap}(H:HR ah M h w)(hf:x.fits sz=true)(hk:aj x.cells=true)
  (hb:(eG s ⟨x.cells.length,[x],false⟩).run h=some (v,h'))(hx:VR ah M x c):
  OkR ah P M w (do pure (.pointer (some (<-newVar t c)))) (.ptr (.l s) v 0 0) h':=by
 obtain⟨e,he,rfl,rfl⟩:=jG hb;obtain⟨q1,q2,q3⟩:=VR.fits_cells hf hx;obtain⟨H',S'⟩:=H.alloc he (b:=⟨x.cells.length,[x],false⟩) (cs:=c.cells) (t:=t) rfl (by simp;omega) (by show c.cells.size<=9223372036854775807*x.cells.length;omega) (by
  intro i e hi;cases i with
  |succ i=>simp at hi
  |zero=>
   simp only[Pg,O5]at hi;subst hi;refine⟨rfl,λj y hj=>⟨cI hk hj,?_⟩⟩;obtain⟨u,h1,h2⟩:=q3 j y hj;exact⟨u,by simpa using h1,h2⟩)
 refine⟨_,_,_,by simp[newVar,newRow];rfl,S',H',?_⟩;refine .ptr _ _ _ _ _ ?_ (λloc hl=>?_)
 ·show e.ver+1<=(if(aq.l s)=.l s then _ else _);rw[O9 rfl];exact Pf _
 ·have hl':(if(aq.l s)=.l s then(if e.ver+1=e.ver+1 then some _ else none)else _)=some loc:=hl;rw[O9 rfl,O9 rfl]at hl';simp only[O5]at hl';subst hl';simp
theorem box_ok{t:TypeId}{sz:Option Nat}{x v:PV}{s:Nat}{c:Value}{h':Heap}(H:HR ah M h w)(hv:(xA sz x s).run h=some (v,h'))(hx:VR ah M x c):
  OkR ah P M w (Instr.box t c) v h':=by
 unfold xA at hv;by_cases hc:x.fits sz=true/\aj x.cells=true
 case neg=>rw[Pd hc]at hv;simp[HM.run]at hv
 rw[O9 hc]at hv;obtain⟨n,h1,hb,hv⟩:=HM.run_bind_some hv;obtain⟨rfl,rfl⟩:=HM.run_ret_some hv;exact Ee H hc.1 hc.2 hb hx
theorem F9{t:TypeId}{sz:Option Nat}{x v:PV}{s:Nat}{h':Heap}(H:HR ah M h w)(hv:(xA sz x s).run h=some (v,h'))(hz:mw P t x=true):
  OkR ah P M w (Instr.alloc t true (.tuple #[])) v h':=by
 obtain⟨i,zv,hi,hzv,hfr⟩:=lz (ah:=ah) hz;obtain⟨c,w',M',h1,h2⟩:=box_ok (P:=P) (t:=t) H hv (.fr (hfr M.rd));refine⟨c,w',M',?_,h2⟩;rw[<-h1];simp[Instr.alloc,Instr.box,zeroValue,typeInfo,hi,hzv]
theorem kF{t:TypeId}{s v:Nat}{b:Blk}{cs:Array Value}{h':Heap}(H:HR ah M h w)(hb:(eG s b).run h=some (v,h'))(hro:b.ro=false)
  (hsz:b.es.length*b.sz<=cs.size)(hbg:cs.size<=9223372036854775807*b.sz)(hc:CellsAt ah M cs 0 b.sz b.es):
  ∃M',Stp M w M' (w.alloc (.cells cs t))/\HR ah M' h' (w.alloc (.cells cs t))/\v<=M'.cv (.l s)/\M'.io (.l s) v=some ⟨w.heap.size,0,b.sz,cs.size⟩:=by
 obtain⟨e,he,rfl,rfl⟩:=jG hb;obtain⟨H',S'⟩:=H.alloc he (b:=b) (cs:=cs) (t:=t) hro hsz hbg hc;refine⟨_,S',H',?_,?_⟩
 ·show e.ver+1<=(if(aq.l s)=.l s then _ else _);rw[O9 rfl];exact Pf _
 ·show(if(aq.l s)=.l s then(if e.ver+1=e.ver+1 then some _ else none)else _)=_;rw[O9 rfl,O9 rfl]
theorem lC{M':Mp}{s v sz n room cap base size:Nat}(hv:v<=M'.cv (.l s))(hio:M'.io (.l s) v=some ⟨base,0,sz,size⟩)(h1:n<=room)(h2:room<=cap)(h3:cap*sz<=size):
  VR ah M' (.tok (.l s) v sz 0 n room false) (.slice (some ⟨base,0,none⟩) n cap):=by
 refine .tok _ _ _ _ _ _ _ _ _ hv h1 h2 (by intro h;cases h) (λloc hl=>?_);rw[hio]at hl;simp only[O5]at hl;subst hl;exact⟨rfl,.inr ⟨by simp,by simpa using h3⟩⟩
structure SrcAt (ah:Nat->FuncId) (M:Mp) (w:World) (ad:Addr) (sz:Nat) (es:List PV) (us:Nat->Nat->Value):Prop where
 len:∀(i:Nat)(e:PV),es[i]?=some e->e.cells.length=sz
 cell:∀(i:Nat)(e:PV)(j:Nat)(x:PV),es[i]?=some e->e.cells[j]?=some x->x.isCell=true/\w.cell? (ad.add (i*sz+j))=some (us i j)/\VR ah M x (us i j)
inductive oD (ah:Nat->FuncId) (M:Mp) (w:World):List PV->Value->Prop
 |none (n cap:Nat) (h:n=0):oD ah M w [] (.slice none n cap)
 |empty (a:Option Addr) (cap:Nat):oD ah M w [] (.slice a 0 cap)
 |some (ad:Addr) (cap sz:Nat) (es:List PV) (us:Nat->Nat->Value) (h:SrcAt ah M w ad sz es us) (hne:es≠[]):oD ah M w es (.slice (some ad) es.length cap)
 |str (s:List UInt8):oD ah M w (s.map λb=>.int .u8 b.toNat) (.string ⟨s.toArray⟩)
theorem gU{x:PV}{es:List PV}{c:Value}{h':Heap}(hv:(elems x).run h=some (es,h'))(H:HR ah M h w)(hx:VR ah M x c):h'=h/\oD ah M w es c:=by
 unfold elems at hv;split at hv
 ·obtain⟨rfl,rfl⟩:=HM.run_ret_some hv;have:=hx.nils_inv;subst this;exact⟨rfl,.none 0 0 rfl⟩
 ·rename_i es c0;obtain⟨rfl,rfl⟩:=HM.run_ret_some hv;refine⟨rfl,?_⟩;have hf:=hx.lst_inv;cases hf with
  | lst _ _ a cap esz us h1 h2 h3 h4 h5=>
   by_cases hne:es=[]
   ·subst hne;exact .empty _ _
   ·refine .some a cap esz es us ⟨h3,λi e j x hi hj=>?_⟩ hne;obtain⟨q1,q2,vs,q3,q4⟩:=h4 i e j x hi hj;obtain⟨t,fz,hh⟩:=H.rd _ _ q3;exact⟨q1,by rw[gk q2,iJ hh,q4],.fr (h5 i e j x hi hj)⟩
 ·rename_i s;obtain⟨rfl,rfl⟩:=HM.run_ret_some hv;have:=hx.str_inv;subst this;exact⟨rfl,.str s⟩
 ·rename_i r ver sz off len room c0;obtain⟨a,cap,rfl,hver,k2,k3,k4,k5⟩:=hx.tok_inv;split at hv
  ·rename_i hl;obtain⟨rfl,rfl⟩:=HM.run_ret_some hv;subst hl;exact⟨rfl,.empty _ _⟩
  ·rename_i hl0;obtain⟨b,h1,hb,hv⟩:=HM.run_bind_some hv;obtain⟨rfl,hg⟩:=bh hb;split at hv
   ·rename_i hc;obtain⟨rfl,rfl⟩:=HM.run_ret_some hv;refine⟨rfl,?_⟩;obtain⟨loc,ca,ty,lo,hi,hl,B⟩:=H.live hg;obtain⟨e1,e2⟩:=k5 loc hl;have hlen:((b.es.drop off).take len).length=len:=by simp;omega
    rcases e2 with e2|⟨rfl,e2⟩
    ·omega
    have key:oD ah M w ((b.es.drop off).take len) (.slice (some ⟨loc.b,loc.base+off*sz,none⟩) ((b.es.drop off).take len).length cap):=by
     have hget:∀(i:Nat)(e:PV),((b.es.drop off).take len)[i]?=some e->b.es[off+i]?=some e:=by
      intro i e hi;rw[PN]at hi;split at hi
      ·rw[PP]at hi;exact hi
      ·cases hi
     refine .some _ cap sz _ (λi j=>ca.getD (loc.base+(off+i)*sz+j) undef) ⟨?_,?_⟩ ?_
     ·intro i e hi;rw[(B.cells _ _ (hget i e hi)).1,hc.2]
     ·intro i e j x hi hj;obtain⟨q1,u,q2,q3⟩:=(B.cells _ _ (hget i e hi)).2 j x hj;rw[hc.2]at q2;rw[nK,iJ B.heap];have e3:loc.base+off*sz+(i*sz+j)=loc.base+(off+i)*sz+j:=by rw[PL];omega
      rw[e3,q2];exact⟨q1,by simp[q2],by simpa[q2]using q3⟩
     ·intro h0;rw[h0]at hlen;simp at hlen;omega
    rw[hlen]at key;exact key
   ·simp[HM.run]at hv
 ·simp[HM.run]at hv
def mQ(n sz:Nat)(us:Nat->Nat->Value):List Value:=(List.range (n*sz)).map λk=>us (k/sz) (k %sz)
theorem nk(n sz:Nat)(us:Nat->Nat->Value):(mQ n sz us).length=n*sz:=by simp[mQ]
theorem Ep{n sz i j:Nat}(us:Nat->Nat->Value)(hi:i<n)(hj:j<sz):(mQ n sz us)[i*sz+j]?=some (us i j):=by
 have hlt:i*sz+j<n*sz:=by
  have:(i+1)*sz<=n*sz:=PA _ hi;rw[PL]at this;omega
 unfold mQ;rw[Pk,Qi hlt];have h0:0<sz:=by omega
 simp only[Py,O5];rw[Nat.add_comm,Nat.add_mul_div_right _ _ h0,Nat.add_mul_mod_self_right,Nat.div_eq_of_lt hj,Nat.mod_eq_of_lt hj,PZ]
theorem SrcAt.row{ad:Addr}{sz:Nat}{es:List PV}{us:Nat->Nat->Value}(S:SrcAt ah M w ad sz es us)(k:Nat)(v:Value)(h:(mQ es.length sz us)[k]?=some v):
  w.cell? (ad.add k)=some v/\∃i j e x,es[i]?=some e/\e.cells[j]?=some x/\k=i*sz+j/\v=us i j:=by
 unfold mQ at h;rw[Pk]at h;have hlt:k<es.length*sz:=by
  rcases Pt k (es.length*sz)with z|z
  ·exact z
  ·rw[Ph (by simpa using z)]at h;cases h
 rw[Qi hlt]at h;simp only[Py,O5]at h;have h0:0<sz:=by
  rcases Nat.eq_zero_or_pos sz with z|z
  ·rw[z]at hlt;omega
  ·exact z
 have hi:k/sz<es.length:=Nat.div_lt_of_lt_mul (by rw[Nat.mul_comm];exact hlt);have hj:k %sz<sz:=Nat.mod_lt _ h0;have he:es[k/sz]?=some es[k/sz]:=Pa hi;have hl:=S.len _ _ he;have hx:(es[k/sz]).cells[k %sz]?=some (es[k/sz]).cells[k %sz]:=Pa (by omega);have hk:k/sz*sz+k %sz=k:=by rw[Nat.mul_comm];exact Nat.div_add_mod k sz
 obtain⟨_,q2,_⟩:=S.cell _ _ _ _ he hx;rw[hk,h]at q2;exact⟨q2,_,_,_,_,he,hx,hk.symm,h.symm⟩
end
def cF(c:Array Value)(k:Nat)(vs:List Value):Array Value:=(c.toList.take k++vs++c.toList.drop (k+vs.length)).toArray
theorem da{c:Array Value}{k:Nat}{vs:List Value}(h:k+vs.length<=c.size):(cF c k vs).size=c.size:=by
 simp[cF];omega
theorem bQ{c:Array Value}{k:Nat}{vs:List Value}(h:k+vs.length<=c.size)(i:Nat):
  (cF c k vs)[i]?=if k<=i/\i<k+vs.length then vs[i-k]? else c[i]?:=by
 simp only[cF,QV];by_cases h1:i<k
 ·rw[P6,Pz (by simp;omega),PN,O9 h1,Pd (by omega),QJ]
 ·by_cases h2:i<k+vs.length
  ·rw[O9 ⟨by omega,h2⟩,P6,Pp (by simp;omega),Pz (by simp;omega)];congr 1;simp;omega
  ·rw[Pd (by omega),P6,Pp (by simp;omega),Pp (by simp;omega),PP,<-QJ];congr 1;simp;omega
theorem GA(c:Array Value)(k:Nat):cF c k []=c:=by simp[cF,Q8]
theorem D6{c:Array Value}{k:Nat}{v:Value}{vs:List Value}(h:k+(vs.length+1)<=c.size):cF (c.setIfInBounds k v) (k+1) vs=cF c k (v::vs):=by
 apply Array.ext_getElem?;intro i;rw[bQ (by simp;omega),bQ (by simpa using h)];by_cases h1:k<=i/\i<k+(v::vs).length
 ·rw[O9 h1];by_cases h2:k+1<=i/\i<k+1+vs.length
  ·rw[O9 h2];have:i-k=(i-(k+1))+1:=by omega
   rw[this];rfl
  ·rw[Pd h2];have:i=k:=by simp at h1;omega
   subst this;rw[Qh (by omega),Nat.sub_self];rfl
 ·rw[Pd h1,Pd (by simp at h1;omega)];exact Qe (by simp at h1;omega)
def gJ(w:World)(b:Nat)(o:Obj):World:={w with heap:=w.heap.setIfInBounds b o}
theorem gP{w:World}{b:Nat}{o:Obj}(h:b<w.heap.size):(gJ w b o).heap[b]?=some o:=by
 show(w.heap.setIfInBounds b o)[b]?=_;rw[Qh h]
theorem cE{w:World}{b k:Nat}{o:Obj}(h:k≠b):(gJ w b o).heap[k]?=w.heap[k]?:=by
 show(w.heap.setIfInBounds b o)[k]?=_;rw[Qe (Ne.symm h)]
theorem Do{w:World}{b:Nat}{o o':Obj}:gJ (gJ w b o) b o'=gJ w b o':=by
 simp[gJ]
theorem DC{w:World}{b:Nat}{o:Obj}(h:w.heap[b]?=some o):gJ w b o=w:=by
 cases w with
 | mk heap tape drawn os output=>
  simp only[gJ,World.mk.injEq,Rc];apply Array.ext_getElem?;intro i;by_cases hi:b=i
  ·subst hi;have hlt:b<heap.size:=by
    rcases Pt b heap.size with z|z
    ·exact z
    ·simp[QH z]at h
   rw[Qh hlt];exact h.symm
  ·rw[Qe hi]
theorem yc{w:World}{b o:Nat}{c:Array Value}{t:TypeId}{fz:Nat×Nat}{v:Value}(h:w.heap[b]?=some (.cells c t fz)):
  w.setCell ⟨b,o,none⟩ v=gJ w b (.cells (c.setIfInBounds o v) t fz):=by
 unfold World.setCell gJ;congr 1;apply Array.ext_getElem?;intro i;rw[Array.getElem?_modify];by_cases hi:b=i
 ·subst hi;have hlt:b<w.heap.size:=by
   rcases Pt b w.heap.size with z|z
   ·exact z
   ·simp[QH z]at h
  rw[O9 rfl,h,Qh hlt];simp
 ·rw[Pd hi,Qe hi]
theorem ei{P:Program}(b base:Nat)(t:TypeId)(lo hi:Nat):∀(vs:List Value)(i:Nat)(c:Array Value)(w:World),w.heap[b]?=some (.cells c t (lo,hi))->
  base+i+vs.length<=c.size->(∀k,k<c.size->¬(lo<=k/\k<hi))->(∀v∈vs,v.oneCell'=true)->
  (storeCells ⟨b,base,none⟩ vs i).run P w=.ok () (gJ w b (.cells (cF c (base+i) vs) t (lo,hi)))
 |[],i,c,w,hh,_,_,_=>by simp[storeCells,GA,DC hh]
 | v::vs,i,c,w,hh,hl,hf,h1=>by
  simp only[PJ]at hl;have hlt:b<w.heap.size:=by
   rcases Pt b w.heap.size with z|z
   ·exact z
   ·simp[QH z]at hh
  have hcell:w.cell? ⟨b,base+i,none⟩=some c[base+i]:=by rw[iJ hh,Pv (by omega)]
  have hfro:w.frozen? ⟨b,base+i,none⟩=false:=by
   simp only[World.frozen?,hh];have:=hf (base+i) (by omega);simp only[Q9,PD];omega
  have hone:v.oneCell'=true:=h1 v (by simp);have ih:=ei (P:=P) b base t lo hi vs (i+1) (c.setIfInBounds (base+i) v) (gJ w b (.cells (c.setIfInBounds (base+i) v) t (lo,hi))) (gP hlt)
   (by simp;omega) (by simpa using hf) (λu hu=>h1 u (by simp[hu]))
  simp only[storeCells,Sem.run_bind,nK,run_store P w _ v .plain hone,hcell,hfro,Ps,PS,Result.andThen_ok];rw[yc hh,ih,Do];have e1:base+(i+1)=base+i+1:=by omega
  rw[e1,D6 (by omega)]
section
variable{ah:Nat->FuncId}{P:Program}{M:Mp}{w:World}{h:Heap}
theorem HR.write{r:aq}{ver:Nat}{b b':Blk}(H:HR ah M h w)(hg:h.get r=some ⟨ver,some b⟩)(hro:b.ro=false)(hro':b'.ro=false)
  {loc:C3}{c c':Array Value}{t lo hi:Nat}(hl:M.io r ver=some loc)(B:BlkAt ah M w loc b c t lo hi)(hsz:b'.sz=b.sz)(hc:c'.size=c.size)
  (hfit:loc.base+b'.es.length*b'.sz<=c.size)(hcells:CellsAt ah M c' loc.base b'.sz b'.es):
  HR ah M (h.put r ⟨ver,some b'⟩) (gJ w loc.b (.cells c' t (lo,hi)))/\Stp M w M (gJ w loc.b (.cells c' t (lo,hi))):=by
 have hlt:=B.lt;have hne:∀r' v' loc',r'≠r->M.io r' v'=some loc'->loc'.b≠loc.b:=λr' v' loc' hr h1 e=>hr (H.inj _ _ _ _ _ _ h1 hl e);have hrd:M.rd loc.b=none:=B.rw_ hro;refine⟨H.upd hg (by intro i hi;subst hi;have:=Heap.ver_a hg;exact this) (.refl _) (λ_ _=>rfl) (λ_ _=>rfl) (by have:=H.cv _ _ hg;exact this) (λv hv=>⟨(H.dom _ _ _ hg hv).1,by simp⟩)
  (λ_=>by simp[hl]) ?_ ?_ ?_ ?_,?_⟩
 ·intro b1 loc1 h1 h2;simp only[O5]at h1;subst h1;have h2':M.io r ver=some loc1:=h2;rw[hl]at h2';cases h2';exact⟨c',t,lo,hi,⟨gP hlt,by rw[B.sz,hsz],by rw[hc];exact B.size,λk hk=>B.free k (by omega),⟨B.lohi.1,λq=>by rw[hc];exact B.lohi.2.1 (by first|(rw[hsz]at q;exact q)|(rw[<-hsz]at q;exact q)|(rw[<-hsz];exact q)),by rw[hc,hsz];exact B.lohi.2.2⟩,by omega,λq=>absurd q (by rw[hro'];decide),λ_=>hrd,hcells⟩⟩
 ·intro v loc1 r' v' loc' hr h1 h2 e;exact hr (H.inj _ _ _ _ _ _ h2 h1 e.symm)
 ·intro r' v' loc' hr h1;exact⟨cE (hne _ _ _ hr h1),rfl⟩
 ·intro b1 vs h1;obtain⟨t1,fz,hh⟩:=H.rd b1 vs h1;exact⟨t1,fz,by rw[cE (by intro e;subst e;rw[hrd]at h1;cases h1)];exact hh⟩
 ·exact⟨⟨.refl _,rfl,rfl,rfl,by simp[gJ],λk hk hn=>cE (λe=>hn ⟨r,ver,loc,hl,e.symm⟩),λk hk=>.inl hk,λk hk=>.inl hk⟩,.refl _⟩
theorem rk{t:TypeId}{sz:Option Nat}(ht:ku P t sz=true){b base:Nat}{ty lo hi:Nat}{c:Array Value}{v:Value}(hs:v.cells.size=jK sz)
  (hh:w.heap[b]?=some (.cells c ty (lo,hi)))(hl:base+v.cells.size<=c.size)(hf:∀k,k<c.size->¬(lo<=k/\k<hi))(h1:∀u∈v.cells.toList,u.oneCell'=true):
  (storeVar t ⟨b,base,none⟩ v).run P w=.ok () (gJ w b (.cells (cF c base v.cells.toList) ty (lo,hi))):=by
 unfold storeVar;have:=ei (P:=P) b base ty lo hi v.cells.toList 0 c w hh (by simpa using hl) hf h1;simp only[Qp]at this;simp only[Sem.run_bind,i6 ht,Result.andThen_ok,hs,ne_eq,Qg,PS,this]
theorem oh{e:PV}{cs:List PV}(h:e.cells.length=cs.length):(e.withCells cs).cells=cs∨∃x,cs=[x]/\e.withCells cs=x:=by
 cases e with
 |agg xs=>exact .inl rfl
 |_=>
  right;have hl:cs.length=1:=by rw[<-h];rfl
  obtain⟨x,rfl⟩:=List.length_eq_one_iff.1 hl;exact⟨x,rfl,rfl⟩
theorem kK{x:PV}(h:x.isCell=true):x.cells=[x]:=by cases x<;>first|rfl|(simp[PV.isCell]at h;done)
theorem Gd{t:TypeId}{sz:Option Nat}(ht:ku P t sz=true){x y v:PV}{cx cy:Value}{h':Heap}(hv:(fK sz x y).run h=some (v,h'))(H:HR ah M h w)
  (hx:VR ah M x cx)(hy:VR ah M y cy):∃w' M',(Instr.storeAt t cx cy).run P w=.ok () w'/\Stp M w M' w'/\HR ah M' h' w':=by
 unfold fK at hv;split at hv
 case h_2=>simp[HM.run]at hv
 rename_i r ver i o;obtain⟨b,h1,hb,hv⟩:=HM.run_bind_some hv;obtain⟨rfl,hg⟩:=bh hb;split at hv
 case h_2=>simp[HM.run]at hv
 rename_i e he;by_cases hc:y.fits sz=true/\aj y.cells=true/\o+y.cells.length<=e.cells.length/\b.ro=false
 case neg=>rw[Pd hc]at hv;simp[HM.run]at hv
 rw[O9 hc]at hv;obtain⟨e0,he0,hv⟩:=bA hv;obtain⟨_,rfl⟩:=HM.run_ret_some hv;obtain⟨c1,c2,c3,c4⟩:=hc;obtain⟨loc,ca,ty,lo,hi,hl,B⟩:=H.live hg;obtain⟨a,rfl,_,ha⟩:=hx.ptr_inv;have ha:=ha loc hl;subst ha;obtain⟨q1,q2,q3⟩:=VR.fits_cells c1 hy;obtain⟨he1,he2⟩:=B.cells i e he;have hil:i<b.es.length:=by
  rcases Pt i b.es.length with z|z
  ·exact z
  ·rw[Ph z]at he;cases he
 have hsz:=B.sz;have hfit:=B.fits;have hmul:(i+1)*b.sz<=b.es.length*b.sz:=PA _ hil;rw[PL,Rl]at hmul;have hbound:loc.base+i*loc.sz+o+cy.cells.size<=ca.size:=by rw[hsz];omega
 have hrun:=rk (P:=P) (w:=w) ht (v:=cy) q1 B.heap hbound B.free (by
  intro u hu;obtain⟨j,hj,rfl⟩:=List.mem_iff_getElem.1 hu;simp only[QT]at hj;have hjy:y.cells[j]?=some y.cells[j]:=Pa (by omega);obtain⟨u',h3,h4⟩:=q3 j _ hjy;rw[Pv hj]at h3;simp only[O5]at h3;rw[Array.getElem_toList,h3];exact h4.isCell_one (cI c2 hjy))
 let cs':=e.cells.take o++y.cells++e.cells.drop (o+y.cells.length)
 have hcl:cs'.length=e.cells.length:=by simp[cs'];omega
 have hcell':∀(j:Nat)(x:PV),cs'[j]?=some x->x.isCell=true/\∃u,(cF ca (loc.base+i*loc.sz+o) cy.cells.toList)[loc.base+i*b.sz+j]?=some u/\VR ah M x u:=by
  intro j x hj;have hjl:j<e.cells.length:=by
   rw[<-hcl];rcases Pt j cs'.length with z|z
   ·exact z
   ·rw[Ph z]at hj;cases hj
  rw[bQ (by simpa using hbound)];by_cases h5:o<=j/\j<o+y.cells.length
  ·rw[O9 (by rw[hsz];simp;omega)];have:y.cells[j-o]?=some x:=by
    simp only[cs']at hj;rw[P6,Pp (by simp;omega),Pz (by simp;omega)]at hj;rw[<-hj];congr 1;simp;omega
   obtain⟨u,h6,h7⟩:=q3 _ _ this;refine⟨cI c2 this,u,?_,h7⟩;rw[QJ,<-h6];congr 1;rw[hsz];omega
  ·rw[Pd (by rw[hsz];simp;omega)];have:e.cells[j]?=some x:=by
    simp only[cs']at hj;rcases Pt j o with z|z
    ·rw[P6,Pz (by simp;omega),PN,O9 z]at hj;exact hj
    ·rw[P6,Pp (by simp;omega),Pp (by simp;omega),PP]at hj;rw[<-hj];congr 1;simp;omega
   exact he2 j x this
 obtain⟨H',S'⟩:=H.write hg c4 (b':=⟨b.sz,b.es.set i (e.withCells cs'),false⟩) rfl hl B rfl (c':=cF ca (loc.base+i*loc.sz+o) cy.cells.toList) (da (by simpa using hbound))
  (by simpa using hfit) (by
   intro k e' hk;by_cases hki:i=k
   ·subst hki;simp only[P5 hil,O5]at hk;subst hk;have hcs:(e.withCells cs').cells=cs':=by
     rcases oh (e:=e) (cs:=cs') (by omega)with h8|⟨x,h8,h9⟩
     ·exact h8
     ·rw[h9,h8];have:=(hcell' 0 x (by rw[h8];rfl)).1;exact kK this
    rw[hcs];exact⟨by rw[hcl];exact he1,hcell'⟩
   ·simp only[Qa hki]at hk;obtain⟨h5,h6⟩:=B.cells k e' hk;refine⟨h5,λj x hj=>⟨(h6 j x hj).1,?_⟩⟩;obtain⟨u,h7,h8⟩:=(h6 j x hj).2;refine⟨u,?_,h8⟩;have hjl:j<b.sz:=by
     rw[<-h5];rcases Pt j e'.cells.length with z|z
     ·exact z
     ·rw[Ph z]at hj;cases hj
    rw[bQ (by simpa using hbound),Pd,h7];rw[hsz];simp only[QT];rcases Nat.lt_or_gt_of_ne hki with z|z
    ·have:(i+1)*b.sz<=k*b.sz:=PA _ z;rw[PL,Rl]at this;omega
    ·have:(k+1)*b.sz<=i*b.sz:=PA _ z;rw[PL,Rl]at this;omega)
 refine⟨_,M,?_,S',H'⟩;unfold Instr.storeAt;simp only[Sem.run_bind,Instr.sureAddr,Sem.run_pure,Result.andThen_ok];exact hrun
end
section
variable{ah:Nat->FuncId}{P:Program}{M:Mp}{w:World}{h:Heap}
theorem FR.cells_size{rd:RD}{v:PV}{c:Value}(x:FR ah rd v c):v.cells.length=c.cells.size:=by
 cases x<;>first|rfl|assumption
theorem FR.cells_at{rd:RD}{v:PV}{c:Value}(x:FR ah rd v c):∀(j:Nat)(y:PV),v.cells[j]?=some y->∃u,c.cells[j]?=some u/\FR ah rd y u:=by
 intro j y hj;have one:(v.cells=[v]/\c.cells= #[c])∨∃cs vs,v=.agg cs/\c=.agg vs:=by
  cases x<;>first|exact .inl ⟨rfl,rfl⟩|exact .inr ⟨_,_,rfl,rfl⟩
 rcases one with⟨h1,h2⟩|⟨cs,vs,rfl,rfl⟩
 ·rw[h1]at hj;rw[h2];cases j with
  |zero=>cases hj;exact⟨c,rfl,x⟩
  |succ j=>cases hj
 ·cases x with
  | agg _ _ q1 q2=>
   have hj':cs[j]?=some y:=hj;have hlt:j<vs.size:=by
    rw[<-q1];rcases Pt j cs.length with z|z
    ·exact z
    ·rw[Ph z]at hj';cases hj'
   exact⟨vs[j],Pv hlt,q2 _ _ _ hj' (Pv hlt)⟩
theorem FR.isCell{rd:RD}{v:PV}{c:Value}(x:FR ah rd v c)(hc:c.oneCell'=true):v.isCell=true:=by
 cases x<;>first|rfl|(simp[Value.oneCell']at hc;done)
def wU(e:PV)(u:Nat->Value):Value:=match e with
 |.agg cs=>.agg ((List.range cs.length).map u).toArray
 |_=>u 0
theorem yH{e:PV}{u:Nat->Value}(hc:∀(j:Nat)(x:PV),e.cells[j]?=some x->VR ah M x (u j)):VR ah M e (wU e u):=by
 cases e with
 | agg cs=>
  refine .agg _ _ (by simp) (λi c v h1 h2=>?_);have hlt:i<cs.length:=by
   rcases Pt i cs.length with z|z
   ·exact z
   ·rw[Ph z]at h1;cases h1
  simp only[QV,Pk,Qi hlt,Py,O5]at h2;rw[<-h2];exact hc i c h1
 |_=>exact hc 0 _ rfl
theorem kX{e:PV}{u:Nat->Value}(j:Nat)(hj:j<e.cells.length)(h1:(∀cs,e≠ .agg cs)->(u 0).oneCell'=true):(wU e u).cells[j]?=some (u j):=by
 cases e with
 |agg cs=>simp only[PV.cells]at hj;simp[wU,Value.cells,hj]
 |_=>
  have h0:j=0:=by simp[PV.cells]at hj;exact hj
  subst h0;have:=h1 (by intro cs;simp);simp only[wU];cases hu:u 0<;>first|rfl|(rw[hu]at this;simp[Value.oneCell']at this;done)
theorem rX{e:PV}{u:Nat->Value}(h1:(∀cs,e≠ .agg cs)->(u 0).oneCell'=true):(wU e u).cells.size=e.cells.length:=by
 cases e with
 |agg cs=>simp[wU,Value.cells,PV.cells]
 |_=>
  have:=h1 (by intro cs;simp);simp only[wU];cases hu:u 0<;>first|rfl|(rw[hu]at this;simp[Value.oneCell']at this;done)
theorem HR.consume{s ver:Nat}{b:Blk}(H:HR ah M h w)(hg:h.get (.l s)=some ⟨ver,some b⟩){loc:C3}{c:Array Value}{t lo hi:Nat}(hl:M.io (.l s) ver=some loc)
  (B:BlkAt ah M w loc b c t lo hi):
  let M':=M.at (.l s) ver none (λx=>if x=loc.b then some c else M.rd x)
  HR ah M' (h.put (.l s) ⟨ver,none⟩) w/\Stp M w M' w/\M'.rd loc.b=some c:=by
 intro M';have hne:∀r' v' loc',r'≠ .l s->M.io r' v'=some loc'->loc'.b≠loc.b:=λr' v' loc' hr h1 e=>hr (H.inj _ _ _ _ _ _ h1 hl e);have hrd:RdLe M.rd M'.rd:=by
  intro x vs hx;show(if x=loc.b then some c else M.rd x)=some vs;by_cases hxb:x=loc.b
  ·subst hxb;rw[O9 rfl];cases hro:b.ro with
   |true=>rw[B.ro hro]at hx;exact hx
   |false=>rw[B.rw_ hro]at hx;cases hx
  ·rw[Pd hxb];exact hx
 have hcv:M.cv (.l s)=ver:=H.cv _ _ hg;have hio:∀r',r'≠ .l s->M'.io r'=M.io r':=λr' hr=>by funext v;show(if r'=.l s then _ else _)=_;rw[Pd hr]
 have hself:∀v,M'.io (.l s) v=none:=λv=>by show(if(aq.l s)=.l s then(if v=ver then none else none)else _)=_;rw[O9 rfl];split<;>rfl
 have le:M.le M':=⟨hrd,λr=>by
   show _<=(if r=.l s then ver else _);split
   ·rename_i hr;rw[hr,hcv];exact Pf _
   ·exact Pf _,λr v _=>by
   by_cases hr:r=.l s
   ·subst hr;exact .inr (hself v)
   ·left;rw[hio r hr]⟩
 have hrdb:M'.rd loc.b=some c:=by show(if loc.b=loc.b then _ else _)=_;rw[O9 rfl]
 refine⟨H.upd hg (by intro i hi;cases hi) le (λr' hr=>by show(if r'=.l s then _ else _)=_;rw[Pd hr]) hio (by show(if(aq.l s)=.l s then _ else _)=_;rw[O9 rfl])
  (λv hv=>absurd (hself v) hv) (λhb=>absurd rfl hb) (λb loc hb=>by cases hb) (λv loc r' v' loc' hr h1=>by rw[hself]at h1;cases h1) ?_ ?_,?_,hrdb⟩
 ·intro r' v' loc' hr h1;refine⟨rfl,?_⟩;show(if loc'.b=loc.b then some c else M.rd loc'.b)=_;rw[Pd (hne _ _ _ hr h1)]
 ·intro b1 vs h1;have h1':(if b1=loc.b then some c else M.rd b1)=some vs:=h1;by_cases hb:b1=loc.b
  ·subst hb;rw[O9 rfl]at h1';cases h1';exact⟨t,_,B.heap⟩
  ·rw[Pd hb]at h1';exact H.rd _ _ h1'
 ·refine⟨⟨hrd,rfl,rfl,rfl,Pf _,λ_ _ _=>rfl,λk hk=>?_,λk hk=>?_⟩,le⟩
  ·obtain⟨r,v,loc',hl',rfl⟩:=hk;by_cases hr:r=.l s
   ·subst hr;rw[hself]at hl';cases hl'
   ·rw[hio _ hr]at hl';exact .inl (dx hl')
  ·have hk':(if k=loc.b then some c else M.rd k)≠none:=hk;by_cases hb:k=loc.b
   ·subst hb;exact .inr (.inl (dx hl))
   ·rw[Pd hb]at hk';exact .inl hk'
theorem iP{n:Nat}(ih:∀{M:Mp}{h h':Heap}{v v':PV}{c:Value},(bp n v).run h=some (v',h')->HR ah M h w->VR ah M v c->∃M',Stp M w M' w/\HR ah M' h' w/\FR ah M'.rd v' c):
  ∀{es es':List PV}{M:Mp}{h h':Heap}{cs:Nat->Value},(HM.mapM (bp n) es).run h=some (es',h')->HR ah M h w->(∀i e,es[i]?=some e->VR ah M e (cs i))->
   ∃M',Stp M w M' w/\HR ah M' h' w/\es'.length=es.length/\∀(i:Nat)(e:PV),es'[i]?=some e->FR ah M'.rd e (cs i)
 |[],es',M,h,h',cs,hv,H,_=>by
  obtain⟨rfl,rfl⟩:=HM.run_ret_some hv;exact⟨M,.refl _ _,H,rfl,λi e hi=>by simp at hi⟩
 |e::es,es',M,h,h',cs,hv,H,hr=>by
  obtain⟨y,h1,hy,hv⟩:=HM.run_bind_some hv;obtain⟨ys,h2,hys,hv⟩:=HM.run_bind_some hv;obtain⟨rfl,rfl⟩:=HM.run_ret_some hv;obtain⟨M1,S1,H1,F1⟩:=ih hy H (hr 0 e rfl);obtain⟨M2,S2,H2,L2,F2⟩:=iP ih (cs:=λi=>cs (i+1)) hys H1 (λi e' hi=>(hr (i+1) e' hi).mono S1.le);refine⟨M2,S1.trans S2,H2,by simp[L2],λi e' hi=>?_⟩;cases i with
  |zero=>simp only[Pg,O5]at hi;subst hi;exact F1.mono ah S2.rd
  |succ i=>simp only[Qc]at hi;exact F2 i e' hi
theorem iY:∀(n:Nat){M:Mp}{h h':Heap}{v v':PV}{c:Value},(bp n v).run h=some (v',h')->HR ah M h w->VR ah M v c->
  ∃M',Stp M w M' w/\HR ah M' h' w/\FR ah M'.rd v' c
 |0,M,h,h',v,v',c,hv,H,hx=>by simp[bp,HM.run]at hv
 | n+1,M,h,h',v,v',c,hv,H,hx=>by
  have many:∀(cs:List PV)(vs:Array Value){cs':List PV}{h1:Heap},(HM.mapM (bp n) cs).run h=some (cs',h1)->cs.length=vs.size->
    (∀(i:Nat)(e:PV)(u:Value),cs[i]?=some e->vs[i]?=some u->VR ah M e u)->
    ∃M',Stp M w M' w/\HR ah M' h1 w/\cs'.length=vs.size/\∀(i:Nat)(e:PV)(u:Value),cs'[i]?=some e->vs[i]?=some u->FR ah M'.rd e u:=by
   intro cs vs cs' h1 hm hl hr;obtain⟨M1,S1,H1,L1,F1⟩:=iP (iY n) (cs:=λi=>vs.getD i undef) hm H (λi e hi=>by
    have hlt:i<vs.size:=by
     rw[<-hl];rcases Pt i cs.length with z|z
     ·exact z
     ·rw[Ph z]at hi;cases hi
    have:=hr i e vs[i] hi (Pv hlt);simpa[hlt]using this)
   refine⟨M1,S1,H1,by omega,λi e u hi hu=>?_⟩;have:=F1 i e hi;simpa[hu]using this
  unfold bp at hv;cases v with
  | tok r ver sz off len room c0=>
   cases r with
   |a i=>simp[HM.run]at hv
   |dead=>simp[HM.run]at hv
   | l s=>
    simp only at hv;obtain⟨a,cap,rfl,hver,k2,k3,k4,k5⟩:=hx.tok_inv;by_cases hl0:len=0
    ·rw[O9 hl0]at hv;obtain⟨rfl,rfl⟩:=HM.run_ret_some hv;subst hl0;exact⟨M,.refl _ _,H,.lst [] c0 a cap 0 (λ_ _=>undef) (by simp) k4 (by simp) (by simp) (by simp)⟩
    rw[Pd hl0]at hv;obtain⟨es,h1,hes,hv⟩:=HM.run_bind_some hv;obtain⟨es',h2,hes',hv⟩:=HM.run_bind_some hv;obtain⟨b2,h3,hb2,hv⟩:=HM.run_bind_some hv;obtain⟨rfl,hg2⟩:=bh hb2;obtain⟨e0,he0,hv⟩:=bA hv;obtain⟨rfl,rfl⟩:=HM.run_ret_some hv;simp only[elems,Pd hl0]at hes;obtain⟨b,h4,hb,hes⟩:=HM.run_bind_some hes;obtain⟨rfl,hg⟩:=bh hb;split at hes
    case isFalse=>simp[HM.run]at hes
    rename_i hc;obtain⟨rfl,rfl⟩:=HM.run_ret_some hes;obtain⟨loc,ca,ty,lo,hi,hl,B⟩:=H.live hg;obtain⟨e1,e2⟩:=k5 loc hl;have hlen:((b.es.drop off).take len).length=len:=by simp;omega
    rcases e2 with e2|⟨rfl,e2⟩
    ·omega
    have hget:∀(i:Nat)(e:PV),((b.es.drop off).take len)[i]?=some e->b.es[off+i]?=some e:=by
     intro i e hi;rw[PN]at hi;split at hi
     ·rw[PP]at hi;exact hi
     ·cases hi
    have hat:∀(i:Nat)(e:PV)(j:Nat)(x:PV),((b.es.drop off).take len)[i]?=some e->e.cells[j]?=some x->
      x.isCell=true/\ca[loc.base+(off+i)*sz+j]?=some (ca.getD (loc.base+(off+i)*sz+j) undef)/\VR ah M x (ca.getD (loc.base+(off+i)*sz+j) undef):=by
     intro i e j x hi hj;obtain⟨q1,u,q2,q3⟩:=(B.cells _ _ (hget i e hi)).2 j x hj;rw[hc.2]at q2;exact⟨q1,by simp[q2],by simpa[q2]using q3⟩
    obtain⟨M1,S1,H1,L1,F1⟩:=iP (iY n) (cs:=λi=>wU (((b.es.drop off).take len).getD i .junk) (λj=>ca.getD (loc.base+(off+i)*sz+j) undef)) hes' H (λi e hi=>by
     have hd:((b.es.drop off).take len).getD i .junk=e:=by simp[List.getD,hi]
     rw[hd];exact yH (λj x hj=>(hat i e j x hi hj).2.2))
    obtain⟨loc2,ca2,Lm,lo2,hi2,hl2,B2⟩:=H1.live hg2;have hloc:loc2=loc:=by
     rcases S1.le.io (.l s) ver hver with e3|e3
     ·rw[e3,hl]at hl2;exact(Q0 hl2).symm
     ·rw[e3]at hl2;cases hl2
    subst hloc;have hca:ca2=ca:=by
     have:=B2.heap;rw[B.heap]at this;simp only[O5,Obj.cells.injEq]at this;exact this.1.symm
    subst hca;obtain⟨H2,S2,R2⟩:=H1.consume hg2 hl2 B2;refine⟨_,S1.trans S2,H2,?_⟩;have key:FR ah (M1.at (.l s) ver none (λx=>if x=loc2.b then some ca2 else M1.rd x)).rd (.lst es' c0) (.slice (some ⟨loc2.b,loc2.base+off*sz,none⟩) es'.length cap):=by
     refine .lst es' c0 _ cap sz (λi j=>ca2.getD (loc2.base+(off+i)*sz+j) undef) (by rw[L1,hlen];omega) k4 ?_ ?_ ?_
     all_goals
      intro i e'
      try intro j x
      intro hi;have hilt:i<((b.es.drop off).take len).length:=by
       rw[<-L1];rcases Pt i es'.length with z|z
       ·exact z
       ·rw[Ph z]at hi;cases hi
      have he:((b.es.drop off).take len)[i]?=some ((b.es.drop off).take len)[i]:=Pa hilt;have hF:=F1 i e' hi;have hd:((b.es.drop off).take len).getD i .junk=((b.es.drop off).take len)[i]:=by simp[List.getD,he]
      rw[hd]at hF;have hone:(∀cs,((b.es.drop off).take len)[i]≠ .agg cs)->(ca2.getD (loc2.base+(off+i)*sz+0) undef).oneCell'=true:=by
       intro hna;have hcl:((b.es.drop off).take len)[i].cells=[((b.es.drop off).take len)[i]]:=by
        cases hh:((b.es.drop off).take len)[i]<;>first|rfl|exact absurd hh (hna _)
       have h00:=hat i _ 0 ((b.es.drop off).take len)[i] he (by rw[hcl];rfl);exact h00.2.2.isCell_one h00.1
      have hsize:=rX (e:=((b.es.drop off).take len)[i]) (u:=λj=>ca2.getD (loc2.base+(off+i)*sz+j) undef) hone;have hlcells:((b.es.drop off).take len)[i].cells.length=sz:=by rw[(B.cells _ _ (hget i _ he)).1,hc.2]
     ·rw[hF.cells_size,hsize,hlcells]
     ·intro hj;obtain⟨u,h5,h6⟩:=hF.cells_at j x hj;have hjlt:j<((b.es.drop off).take len)[i].cells.length:=by
       rw[<-hsize,<-hF.cells_size];rcases Pt j e'.cells.length with z|z
       ·exact z
       ·rw[Ph z]at hj;cases hj
      rw[kX j hjlt hone]at h5;simp only[O5]at h5;obtain⟨g1,g2,g3⟩:=hat i _ j _ he (Pa hjlt);refine⟨h6.isCell (by rw[<-h5];exact g3.isCell_one g1),rfl,ca2,R2,?_⟩;rw[<-g2];show ca2[loc2.base+off*sz+(i*sz+j)]?=_;congr 1;rw[PL];omega
     ·intro hj;obtain⟨u,h5,h6⟩:=hF.cells_at j x hj;have hjlt:j<((b.es.drop off).take len)[i].cells.length:=by
       rw[<-hsize,<-hF.cells_size];rcases Pt j e'.cells.length with z|z
       ·exact z
       ·rw[Ph z]at hj;cases hj
      rw[kX j hjlt hone]at h5;simp only[O5]at h5;rw[h5];exact h6.mono ah S2.rd
    rw[L1,hlen]at key;exact key
  | ptr r ver i o=>
   cases r with
   |a i=>simp[HM.run]at hv
   |dead=>simp[HM.run]at hv
   | l s=>
    simp only at hv;obtain⟨a,rfl,hver,k5⟩:=hx.ptr_inv;obtain⟨b,h1,hb,hv⟩:=HM.run_bind_some hv;obtain⟨rfl,hg⟩:=bh hb;split at hv
    case h_2=>simp[HM.run]at hv
    rename_i e he;obtain⟨cs',h2,hcs',hv⟩:=HM.run_bind_some hv;obtain⟨b2,h3,hb2,hv⟩:=HM.run_bind_some hv;obtain⟨rfl,hg2⟩:=bh hb2;obtain⟨e0,he0,hv⟩:=bA hv;obtain⟨rfl,rfl⟩:=HM.run_ret_some hv;obtain⟨loc,ca,ty,lo,hi,hl,B⟩:=H.live hg;have ha:=k5 loc hl;subst ha;obtain⟨q0,q1⟩:=B.cells i e he;obtain⟨M1,S1,H1,L1,F1⟩:=iP (iY n) (cs:=λj=>ca.getD (loc.base+i*b.sz+j) undef) hcs' H (λj x hj=>by
     obtain⟨_,u,q2,q3⟩:=q1 j x hj;simpa[q2]using q3)
    obtain⟨loc2,ca2,Lm,lo2,hi2,hl2,B2⟩:=H1.live hg2;have hloc:loc2=loc:=by
     rcases S1.le.io (.l s) ver hver with e3|e3
     ·rw[e3,hl]at hl2;exact(Q0 hl2).symm
     ·rw[e3]at hl2;cases hl2
    subst hloc;have hca:ca2=ca:=by
     have:=B2.heap;rw[B.heap]at this;simp only[O5,Obj.cells.injEq]at this;exact this.1.symm
    subst hca;obtain⟨H2,S2,R2⟩:=H1.consume hg2 hl2 B2;refine⟨_,S1.trans S2,H2,.lptr _ _ (λj=>ca2.getD (loc2.base+i*b.sz+(o+j)) undef) ?_ ?_ rfl⟩
    ·intro j c hj;rw[PP]at hj;have hjlt:o+j<e.cells.length:=by
      rw[<-L1];rcases Pt (o+j) cs'.length with z|z
      ·exact z
      ·rw[Ph z]at hj;cases hj
     obtain⟨g1,u,g2,g3⟩:=q1 (o+j) _ (Pa hjlt);have hF:=F1 _ _ hj;have hu:ca2.getD (loc2.base+i*b.sz+(o+j)) undef=u:=by simp[g2]
     rw[hu]at hF;refine⟨hF.isCell (g3.isCell_one g1),rfl,ca2,R2,?_⟩;show ca2[loc2.base+i*loc2.sz+o+j]?=_;rw[B.sz,Rj,g2];simp[g2]
    ·intro j c hj;rw[PP]at hj;exact(F1 _ _ hj).mono ah S2.rd
  |agg cs=>
   simp only at hv;obtain⟨cs',h1,hm,hv⟩:=HM.run_bind_some hv;obtain⟨rfl,rfl⟩:=HM.run_ret_some hv;obtain⟨vs,rfl,q1,q2⟩:=hx.agg_inv;obtain⟨M1,S1,H1,L1,F1⟩:=many cs vs hm q1 q2;exact⟨M1,S1,H1,.agg _ _ L1 F1⟩
  |tup cs=>
   simp only at hv;obtain⟨cs',h1,hm,hv⟩:=HM.run_bind_some hv;obtain⟨rfl,rfl⟩:=HM.run_ret_some hv;obtain⟨vs,rfl,q1,q2⟩:=hx.tup_inv;obtain⟨M1,S1,H1,L1,F1⟩:=many cs vs hm q1 q2;exact⟨M1,S1,H1,.tup _ _ L1 F1⟩
  | fn f cs=>
   simp only at hv;by_cases he:cs.isEmpty=true
   ·rw[O9 he]at hv;obtain⟨rfl,rfl⟩:=HM.run_ret_some hv;have:cs=[]:=by simpa using he
    subst this;obtain⟨vs,rfl,q1,_⟩:=hx.fn_inv;have:vs= #[]:=by simpa using q1.symm
    subst this;exact⟨M,.refl _ _,H,.fn f⟩
   ·rw[Pd he]at hv;simp[HM.run]at hv
  |junk=>simp[HM.run]at hv
  |int k m=>obtain⟨rfl,rfl⟩:=HM.run_ret_some hv;cases hx with|fr hx=>exact⟨M,.refl _ _,H,hx⟩
  |bool k=>obtain⟨rfl,rfl⟩:=HM.run_ret_some hv;cases hx with|fr hx=>exact⟨M,.refl _ _,H,hx⟩
  |str k=>obtain⟨rfl,rfl⟩:=HM.run_ret_some hv;cases hx with|fr hx=>exact⟨M,.refl _ _,H,hx⟩
  |nils=>obtain⟨rfl,rfl⟩:=HM.run_ret_some hv;cases hx with|fr hx=>exact⟨M,.refl _ _,H,hx⟩
  |lst es c0=>obtain⟨rfl,rfl⟩:=HM.run_ret_some hv;cases hx with|fr hx=>exact⟨M,.refl _ _,H,hx⟩
  |nilp=>obtain⟨rfl,rfl⟩:=HM.run_ret_some hv;cases hx with|fr hx=>exact⟨M,.refl _ _,H,hx⟩
  |lptr cs=>obtain⟨rfl,rfl⟩:=HM.run_ret_some hv;cases hx with|fr hx=>exact⟨M,.refl _ _,H,hx⟩
  |nilfn=>obtain⟨rfl,rfl⟩:=HM.run_ret_some hv;cases hx with|fr hx=>exact⟨M,.refl _ _,H,hx⟩
end
end Gv
