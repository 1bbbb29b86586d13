/- A part of the proof that the law is true of all its inputs, by an interpreter that is proved sound. -/
import Derived.Test.YtfaeljmkbadgdaaGreatEc
namespace Gv
open Go (IntKind BinOp UnOp)
mutual
def aP:PV->PV
  |.nils=>.lst [] false
  |.lst es _=>.lst (aF es) false
  |.lptr cs=>.lptr (aF cs)
  |.agg cs=>.agg (aF cs)
  |.tup cs=>.tup (aF cs)
  |.fn f cs=>.fn f (aF cs)
  |v=>v
def aF:List PV->List PV
  |[]=>[]
  |x::xs=>aP x::aF xs
end
inductive X where
  |v (n:Nat)
  |int (k:IntKind) (n:Int)
  |boo (b:Bool)
  |str (s:List UInt8)
  |nilp
  |nilfn
  |nl
  |cn (a l:X)
  |agg (l:X)
  |lst (l:X)
  |lp (l:X)
  |tup (l:X)
  |fn (f:Nat) (l:X)
  |bin (op:BinOp) (a b:X)
  |un (op:UnOp) (a:X)
  |toInt (k:IntKind) (a:X)
  |eqs (neg:Bool) (ks:List Bool) (a b:X)
  |eqb (neg:Bool) (a b:X)
  |eqn (k:Nat) (neg:Bool) (a b:X)
  |len (a:X)
  |lenS (a:X)
  |fld (sz:Option Nat) (a:X) (o:Nat)
  |ld (sz:Option Nat) (a:X) (o:Nat)
  |ia (sz:Nat) (a i:X)
  |fa (a:X) (o:Nat)
  |iaa (n sz:Nat) (a i:X)
  |slice (sz:Nat) (a lo hi mx:X)
  |app (sz:Nat) (a b:X)
  |mks (sz:Nat) (z n:X)
  |ite (c a b:X)
  |gd (c:X) (p:Bool) (e:X)
  |b2s (a:X)
  |s2b (a:X)
  |mm (b:Bool) (l:X)
  |ext (a:X) (i:Nat)
  |upd (sz:Option Nat) (a i:X) (o:Nat) (e:X)
  |chk (sz:Option Nat) (e:X)
  |pos (a:X)
  |nck (a:X)
  deriving DecidableEq,Inhabited
abbrev Env:=Nat->PV
def bZ:PV->Option (List PV)
  |.tup l=>some l
  |_=>none
def bO:PV->Option PV
  |.lst es _=>some (.int .i64 es.length)
  |_=>none
def kk:PV->Option (Option PV)
  |.tup []=>some none
  |.int k n=>some (some (.int k n))
  |_=>none
def cj(sz:Nat)(x lo hi mx:PV):Option PV:=
  match kk lo,kk hi,kk mx with
  | some lo,some hi,some mx=>match x with
    |.lst es _=>if sz=0∨(mx.isSome&&hi.isNone)=true then none else(cF sz es false lo hi mx).map aP
    |.str s=>if sz=0 then(if mx.isSome then none else ub s lo hi)else none
    |_=>none
  |_,_,_=>none
def iO(sz:Nat)(x y:PV):Option PV:=
  match x,y with
  |.lst xs _,.lst ys _=>if cq sz ys/\xs.length+ys.length<bV then some (.lst (xs++ys) false)else none
  |.lst xs _,.str s=>if sz=1/\xs.length+s.length<bV then some (.lst (xs++s.map λb=>PV.int .u8 b.toNat) false)else none
  |_,_=>none
def LP(sz:Nat)(z n:PV):Option PV:=
  match n with
  |.int _ n=>if 0<=n/\n<bV/\z.cells.length=sz/\ak z.cells then some (.lst (List.replicate n.toNat z) false)else none
  |_=>none
def GZ:PV->Option PV
  |.lst es _=>(fR es).map PV.str
  |_=>none
def KJ:PV->Option PV
  |.str l=>if l.length<bV then some (.lst (l.map λb=>PV.int .u8 b.toNat) false)else none
  |_=>none
def Eu(b:Bool):List PV->Option PV
  |[]=>none
  |y::ys=>nZ b y ys
def oB( sz:Option Nat)(x i:PV)(o:Nat)(e:PV):Option PV:=
  match x,i with
  | .lst es _,.int _ n=>if 0<=n/\n<es.length then match es[n.toNat]? with
      |some y=>if e.fits sz/\ak e.cells/\o+e.cells.length<=y.cells.length
          then some (.lst (es.set n.toNat (y.withCells (y.cells.take o++e.cells++y.cells.drop (o+e.cells.length)))) false)else none
      |none=>none
    else none
  |_,_=>none
def dU(cs:List PV)(o:Nat)(sz:Option Nat):Option PV:=match bC cs o sz with|some x=>if x.fits sz then some x else none|none=>none
def kG(sz:Option Nat)(o:Nat):PV->Option PV
  |.lptr cs=>dU cs o sz
  |_=>none
def uw(sz:Option Nat)(o:Nat):PV->Option PV
  |.agg cs=>dU cs o sz
  |_=>none
def GH(i:Nat):PV->Option PV
  |.tup vs=>vs[i]?
  |_=>none
def I7:PV->Option PV
  |.lptr cs=>some (.lptr cs)
  |.fn f cs=>some (.fn f cs)
  |_=>none
def IP:PV->Option PV
  |.lst (e::es) c=>some (.lst (e::es) c)
  |_=>none
def Bz(sz:Option Nat)(x:PV):Option PV:=if x.fits sz/\ak x.cells then some x else none
def oO(k:IntKind):PV->Option PV
  |.int _ n=>some (.int k (k.wrap n))
  |_=>none
def rD(neg:Bool)(ks:List Bool)(x y:PV):Option PV:=
  match x,y with
  |.agg xs,.agg ys=>match aQ ks xs ys with|some b=>some (.bool (if neg then !b else b))|none=>none
  |_,_=>none
def NM(f:Nat)(l:PV):Option PV:=(bZ l).map (PV.fn f)
def af{α β:Type}(x:Option α)(f:α->Option β):Option β:=match x with|some a=>f a|none=>none
@[simp] theorem ac {α β:Type} (a:α) (f:α->Option β):af (some a) f=f a:=rfl
@[simp] theorem lZ {α β:Type} (f:α->Option β):af (none:Option α) f=none:=rfl
def X.ev(env:Env):X->Option PV
  |.v n=>some (env n)
  |.int k n=>some (.int k n)
  |.boo b=>some (.bool b)
  |.str s=>some (.str s)
  |.nilp=>some .nilp
  |.nilfn=>some .nilfn
  |.nl=>some (.tup [])
  |.cn a l=>af (a.ev env) λx=>af (l.ev env) λy=>match y with|.tup xs=>some (.tup (x::xs))|_=>none
  |.agg l=>af (l.ev env) λy=>af (bZ y) λxs=>if ak xs then some (.agg xs)else none
  |.lst l=>af (l.ev env) λy=>af (bZ y) λxs=>some (.lst xs false)
  |.lp l=>af (l.ev env) λy=>af (bZ y) λxs=>if ak xs then some (.lptr xs)else none
  |.tup l=>af (l.ev env) λy=>af (bZ y) λxs=>some (.tup xs)
  |.fn f l=>af (l.ev env) λy=>NM f y
  |.bin op a b=>af (a.ev env) λx=>af (b.ev env) λy=>Gv.bin op x y
  |.un op a=>af (a.ev env) λx=>Gv.un op x
  |.toInt k a=>af (a.ev env) λx=>oO k x
  |.eqs neg ks a b=>af (a.ev env) λx=>af (b.ev env) λy=>rD neg ks x y
  |.eqb neg a b=>af (a.ev env) λx=>af (b.ev env) λy=>Gv.eqb neg x y
  |.eqn k neg a b=>af (a.ev env) λx=>af (b.ev env) λy=>if k=0 then none else Gv.eqn k neg x y
  |.len a=>af (a.ev env) bO
  |.lenS a=>af (a.ev env) o6
  |.fld sz a o=>af (a.ev env) (uw sz o)
  |.ld sz a o=>af (a.ev env) (kG sz o)
  |.ia sz a i=>af (a.ev env) λx=>af (i.ev env) λy=>az sz x y
  |.fa a o=>af (a.ev env) λx=>aU x o
  |.iaa n sz a i=>af (a.ev env) λx=>af (i.ev env) λy=>kx n sz x y
  |.slice sz a lo hi mx=>af (a.ev env) λx=>af (lo.ev env) λl=>af (hi.ev env) λh=>af (mx.ev env) λm=>cj sz x l h m
  |.app sz a b=>af (a.ev env) λx=>af (b.ev env) λy=>iO sz x y
  |.mks sz z n=>af (z.ev env) λx=>af (n.ev env) λy=>LP sz x y
  |.ite c a b=>af (c.ev env) λy=>match y with|.bool true=>a.ev env|.bool false=>b.ev env|_=>none
  |.gd c p e=>af (c.ev env) λy=>match y with|.bool q=>if q=p then e.ev env else some (.tup [])|.tup []=>some (.tup [])|_=>none
  |.b2s a=>af (a.ev env) GZ
  |.s2b a=>af (a.ev env) KJ
  |.mm b l=>af (l.ev env) λy=>af (bZ y) (Eu b)
  |.ext a i=>af (a.ev env) (GH i)
  |.upd sz a i o e=>af (a.ev env) λx=>af (i.ev env) λy=>af (e.ev env) λz=>oB sz x y o z
  |.chk sz e=>af (e.ev env) (Bz sz)
  |.pos a=>af (a.ev env) IP
  |.nck a=>af (a.ev env) I7
def X.ment(p:Nat->Bool):X->Bool
  |.v n=>p n
  |.cn a b|.bin _ a b|.eqs _ _ a b|.eqb _ a b|.eqn _ _ a b|.ia _ a b|.iaa _ _ a b|.app _ a b|.mks _ a b|.gd a _ b=>a.ment p||b.ment p
  |.agg a|.lst a|.lp a|.tup a|.fn _ a|.un _ a|.toInt _ a|.len a|.lenS a|.fld _ a _|.ld _ a _|.fa a _|.b2s a|.s2b a|.mm _ a|.ext a _|.chk _ a|.pos a|.nck a=>a.ment p
  |.slice _ a b c d=>a.ment p||b.ment p||c.ment p||d.ment p
  |.ite a b c|.upd _ a b _ c=>a.ment p||b.ment p||c.ment p
  |_=>false
theorem X.ev_ment{p:Nat->Bool}{e1 e2:Env}(h:∀n,p n=false->e1 n=e2 n):∀{x:X},x.ment p=false->x.ev e1=x.ev e2:=by
  intro x;induction x<;>intro hm<;>simp only[X.ment,Bool.or_eq_false_iff]at hm<;>simp only[X.ev]
  case v n=>rw[h n hm]
  all_goals simp_all
def dH(e:X):X->Bool
  |.cn a b=>decide (e=.cn a b)||dH e a||dH e b
  |.bin o a b=>decide (e=.bin o a b)||dH e a||dH e b
  |.eqs n k a b=>decide (e=.eqs n k a b)||dH e a||dH e b
  |.eqb n a b=>decide (e=.eqb n a b)||dH e a||dH e b
  |.eqn k n a b=>decide (e=.eqn k n a b)||dH e a||dH e b
  |.ia k a b=>decide (e=.ia k a b)||dH e a||dH e b
  |.iaa k l a b=>decide (e=.iaa k l a b)||dH e a||dH e b
  |.app k a b=>decide (e=.app k a b)||dH e a||dH e b
  |.mks k a b=>decide (e=.mks k a b)||dH e a||dH e b
  |.gd a p b=>decide (e=.gd a p b)||dH e a
  |.agg a=>decide (e=.agg a)||dH e a
  |.lst a=>decide (e=.lst a)||dH e a
  |.lp a=>decide (e=.lp a)||dH e a
  |.tup a=>decide (e=.tup a)||dH e a
  |.fn f a=>decide (e=.fn f a)||dH e a
  |.un o a=>decide (e=.un o a)||dH e a
  |.toInt k a=>decide (e=.toInt k a)||dH e a
  |.len a=>decide (e=.len a)||dH e a
  |.lenS a=>decide (e=.lenS a)||dH e a
  |.fld s a o=>decide (e=.fld s a o)||dH e a
  |.ld s a o=>decide (e=.ld s a o)||dH e a
  |.fa a o=>decide (e=.fa a o)||dH e a
  |.b2s a=>decide (e=.b2s a)||dH e a
  |.s2b a=>decide (e=.s2b a)||dH e a
  |.mm b a=>decide (e=.mm b a)||dH e a
  |.ext a i=>decide (e=.ext a i)||dH e a
  |.chk s a=>decide (e=.chk s a)||dH e a
  |.pos a=>decide (e=.pos a)||dH e a
  |.nck a=>decide (e=.nck a)||dH e a
  |.slice s a b c d=>decide (e=.slice s a b c d)||dH e a||dH e b||dH e c||dH e d
  |.ite a b c=>decide (e=.ite a b c)||dH e a
  |.upd s a b o c=>decide (e=.upd s a b o c)||dH e a||dH e b||dH e c
  |x=>decide (e=x)
theorem ch{α β:Type}{x:Option α}{f:α->Option β}(h:(af x f).isSome=true):x.isSome=true/\∃a,x=some a/\(f a).isSome=true:=by
  cases x with
  |none=>simp at h
  |some a=>exact⟨rfl,a,rfl,h⟩
theorem Ft{env:Env}{e:X}:∀{x:X},dH e x=true->(x.ev env).isSome=true->(e.ev env).isSome=true:=by
  intro x;induction x<;>intro hs hv<;>simp only[dH,UO,TK]at hs
  case ite a b c iha ihb ihc=>
    rcases hs with rfl|hs
    ·exact hv
    ·simp only[X.ev]at hv;exact iha hs (ch hv).1
  case gd a p b iha ihb=>
    rcases hs with rfl|hs
    ·exact hv
    ·simp only[X.ev]at hv;exact iha hs (ch hv).1
  case slice s a b c d iha ihb ihc ihd=>
    rcases hs with(((rfl|hs)|hs)|hs)|hs
    ·exact hv
    all_goals
      simp only[X.ev]at hv;obtain⟨h1,x,_,h2⟩:=ch hv;obtain⟨h3,y,_,h4⟩:=ch h2;obtain⟨h5,z,_,h6⟩:=ch h4;obtain⟨h7,u,_,_⟩:=ch h6
    ·exact iha hs h1
    ·exact ihb hs h3
    ·exact ihc hs h5
    ·exact ihd hs h7
  case upd s a b o c iha ihb ihc=>
    rcases hs with((rfl|hs)|hs)|hs
    ·exact hv
    all_goals
      simp only[X.ev]at hv;obtain⟨h1,x,_,h2⟩:=ch hv;obtain⟨h3,y,_,h4⟩:=ch h2;obtain⟨h5,z,_,h6⟩:=ch h4
    ·exact iha hs h1
    ·exact ihb hs h3
    ·exact ihc hs h5
  all_goals first
    |(subst hs;exact hv)
    |( rename_i iha ihb
       rcases hs with(rfl|hs)|hs
       ·exact hv
       ·simp only[X.ev]at hv;exact iha hs (ch hv).1
       · simp only[X.ev]at hv
         obtain⟨h1,x,_,h2⟩:=ch hv;exact ihb hs (ch h2).1)
    |( rename_i iha
       rcases hs with rfl|hs
       ·exact hv
       ·simp only[X.ev]at hv;exact iha hs (ch hv).1)
inductive VS where
  |asg (needs:List X) (binds:List (Nat×X))
  |call (needs:List X) (g:Option (X×Bool)) (d:Nat) (f:Nat) (args:List X) (outs:List Nat)
  |callv (needs:List X) (g:Option (X×Bool)) (d:Nat) (f:X) (args:List X)
inductive VC where
  |skip
  |st (l:List VS)
  |seq (a b:VC)
  |cond (c:X) (a b:VC)
  |block (id:Nat) (c:VC)
  |loop (c:VC)
  |exit (id:Nat)
  |ret (r:X) (outs:List X)
inductive K where
  |F
  |O (sz:Nat) (wf:Bool)
  |Q
  |B (ro:Bool) (cs:List K)
  |A (cs:List K)
  |T (cs:List K)
structure Sig where
  ps:List K
  r:K
  scal:Bool
structure aB where
  sig:Sig
  binds:List (Nat×X)
  body:VC
abbrev b6:=Nat->List PV->Option (PV×List PV)
def Env.set(env:Env)(n:Nat)(v:PV):Env:=λi=>if i=n then v else env i
@[simp] theorem Env.set_at (env:Env) (n i:Nat) (v:PV):env.set n v i=if i=n then v else env i:=rfl
def Env.sets(env:Env):List Nat->List PV->Env
  |n::ns,v::vs=>(env.set n v).sets ns vs
  |_,_=>env
def fV(env:Env):List X->Option (List PV)
  |[]=>some []
  |x::xs=>af (x.ev env) λv=>af (fV env xs) λvs=>some (v::vs)
def bU(env:Env):List (Nat×X)->Env->Option Env
  |[],out=>some out
  |(n,x)::bs,out=>af (x.ev env) λv=>bU env bs (out.set n v)
def au(env:Env):List X->Bool
  |[]=>true
  |x::xs=>(x.ev env).isSome&&au env xs
def jw(env:Env):Option (X×Bool)->Option Bool
  |none=>some true
  | some (g,p)=>match g.ev env with
    |some (.bool q)=>some (q==p)
    |some (.tup [])=>some false
    |_=>none
def VS.run(C:b6)(V:Nat->List PV->List PV->Bool)(env:Env):VS->Option Env
  |.asg needs binds=>if au env needs then bU env binds env else none
  | .call needs g d f args outs=>if au env needs then
      match jw env g with
      |some true=>af (fV env args) λvs=>af (C f vs) λr=>if r.2.length=outs.length then some ((env.set d r.1).sets outs r.2)else none
      |some false=>some (env.set d (.tup []))
      |none=>none
    else none
  | .callv needs g d f args=>if au env needs then
      match jw env g with
      | some true=>af (f.ev env) λfv=>match fv with
        |.fn k caps=>af (fV env args) λvs=>if V k vs caps then af (C k (vs++caps)) λr=>some (env.set d r.1)else none
        |_=>none
      |some false=>some (env.set d (.tup []))
      |none=>none
    else none
def cS(C:b6)(V:Nat->List PV->List PV->Bool)(env:Env):List VS->Option Env
  |[]=>some env
  |s::ss=>af (s.run C V env) λenv=>cS C V env ss
inductive vg where
  |norm (env:Env)
  |exit (id:Nat) (env:Env)
  |ret (r:PV) (outs:List PV)
def eR(f:Env->Option vg):Nat->Env->Option vg
  |0,_=>none
  | n+1,env=>match f env with
    |some (.norm env')=>eR f n env'
    |r=>r
def DZ:Nat:=1099511627776
def aL(C:b6)(V:Nat->List PV->List PV->Bool):VC->Env->Option vg
  |.skip,env=>some (.norm env)
  |.st l,env=>match cS C V env l with|some env=>some (.norm env)|none=>none
  | .seq a b,env=>match aL C V a env with
    |some (.norm env)=>aL C V b env
    |r=>r
  | .cond c a b,env=>match c.ev env with
    |some (.bool true)=>aL C V a env
    |some (.bool false)=>aL C V b env
    |_=>none
  | .block id c,env=>match aL C V c env with
    |some (.exit i env)=>if i=id then some (.norm env)else some (.exit i env)
    |r=>r
  |.loop c,env=>eR (aL C V c) DZ env
  |.exit id,env=>some (.exit id env)
  |.ret r outs,env=>af (r.ev env) λx=>af (fV env outs) λos=>some (.ret x os)
def gX:PV->Bool
  |.int .. |.bool _|.str _|.nilp|.nilfn=>true
  |.tup vs=>vs.all λ |.int .. |.bool _|.str _|.nilp|.nilfn=>true|_=>false
  |_=>false
def Env.ofArgs(vs:List PV):Env:=λi=>(vs[i]?).getD .junk
def oU:List K->Bool
  |[]=>true
  |.F::ks=>oU ks
  |_=>false
def vOk:List K->Nat->List PV->Bool
  |[],0,[]=>true
  |.F::ks,n+1,cs=>vOk ks n cs
  |.B true bs::ks,0,.lptr l::cs=>oU bs&&l.length==bs.length&&vOk ks 0 cs
  |.B true _::_,0,_::_=>false
  |.F::_,0,.lptr _::_=>false
  |.F::ks,0,_::cs=>vOk ks 0 cs
  |_,_,_=>false
def aY(VT:Nat->Option aB)(f:Nat)(vs caps:List PV):Bool:=match VT f with|some F=>vOk F.sig.ps vs.length caps&&(match F.sig.r with|.F=>F.sig.scal|_=>false)|none=>false
def SZ:K->Bool
  |.O _ _=>true
  |_=>false
def tW:PV->Bool
  |.lst es _=>es.all λ |.int .. |.bool _|.str _|.nilp|.nilfn=>true|_=>false
  |_=>false
def aj(VT:Nat->Option aB):Nat->b6
  |0,_,_=>none
  | m+1,f,vs=>match VT f with
    |none=>none
    | some F=>af (bU (Env.ofArgs vs) F.binds (Env.ofArgs vs)) λenv=>match aL (aj VT m) (aY VT) F.body env with
      |some (.ret r os)=>if F.sig.ps.length=vs.length/\(F.sig.scal=false∨gX r=true∨(SZ F.sig.r&&tW r)=true)then some (r,os)else none
      |_=>none
mutual
def pl:PV->Bool
 |.lst es _=>cg es
 |.lptr cs=>ak cs&&cg cs
 |.agg cs=>ak cs&&cg cs
 |.fn _ cs=>cs.isEmpty
 |.tup _|.tok .. |.ptr .. |.junk=>false
 |_=>true
def cg:List PV->Bool
 |[]=>true
 |x::xs=>pl x&&cg xs
end
theorem fp:∀l:List PV,aF l=l.map aP
 |[]=>rfl
 |x::xs=>by simp only[aF,TW,fp xs]
theorem eY:∀{l:List PV},cg l=true↔∀x∈l,pl x=true
 |[]=>by simp[cg]
 |x::xs=>by simp[cg,eY (l:=xs)]
theorem aS(l:List PV):(aF l).length=l.length:=by rw[fp,Uk]
theorem iZ(v:PV):(aP v).cells=aF v.cells:=by cases v<;>simp[aP,PV.cells,aF]
theorem fF(v:PV):(aP v).cells.length=v.cells.length:=by rw[iZ,aS]
theorem oW(v:PV):(aP v).isCell=v.isCell:=by cases v<;>rfl
theorem dQ:∀l:List PV,ak (aF l)=ak l
 |[]=>rfl
 |x::xs=>by simp only[aF,ak,oW,dQ xs]
theorem p4(v:PV)(sz:Option Nat):(aP v).fits sz=v.fits sz:=by
 cases sz<;>cases v<;>simp[aP,PV.fits,aS]
theorem qA{l:List PV}{i:Nat}:(aF l)[i]?=(l[i]?).map aP:=by rw[fp,TR]
theorem tP{l:List PV}(h:cg l=true){i:Nat}{x:PV}(hi:l[i]?=some x):pl x=true:=eY.1 h x (TC hi)
theorem dw{l:List PV}(h:cg l=true)(n:Nat):cg (l.drop n)=true:=eY.2 λx hx=>eY.1 h x (UH hx)
theorem dJ{l:List PV}(h:cg l=true)(n:Nat):cg (l.take n)=true:=eY.2 λx hx=>eY.1 h x (UI hx)
theorem lg{l m:List PV}:cg (l++m)=(cg l&&cg m):=by
 induction l with
 |nil=>simp[cg]
 |cons x xs ih=>simp[cg,ih,Bool.and_assoc]
theorem jE(l:List PV)(n:Nat):aF (l.drop n)=(aF l).drop n:=by simp only[fp,List.map_drop]
theorem iU(l:List PV)(n:Nat):aF (l.take n)=(aF l).take n:=by simp only[fp,List.map_take]
theorem nX(l m:List PV):aF (l++m)=aF l++aF m:=by simp only[fp,U1]
theorem ku:∀{l:List PV},ak l=true↔∀x∈l,x.isCell=true
 |[]=>by simp[ak]
 |x::xs=>by simp[ak,ku (l:=xs)]
theorem fb{l:List PV}(h:ak l=true)(n:Nat):ak (l.drop n)=true:=ku.2 λx hx=>ku.1 h x (UH hx)
theorem gP{l:List PV}(h:ak l=true)(n:Nat):ak (l.take n)=true:=ku.2 λx hx=>ku.1 h x (UI hx)
theorem qm{l m:List PV}:ak (l++m)=(ak l&&ak m):=by
 induction l with
 |nil=>simp[ak]
 |cons x xs ih=>simp[ak,ih,Bool.and_assoc]
theorem nS{v:PV}(h:pl v=true):cg v.cells=true:=by
 cases v<;>simp_all [pl,PV.cells,cg]
mutual
theorem Lk:∀(v:PV),aP (aP v)=aP v
 |.lst es _=>by simp only[aP,fE]
 |.lptr cs=>by simp only[aP,fE]
 |.agg cs=>by simp only[aP,fE]
 |.tup cs=>by simp only[aP,fE]
 |.fn _ cs=>by simp only[aP,fE]
 |.tok .. =>rfl
 |.ptr .. =>rfl
 |.junk=>rfl
 |.int .. =>rfl
 |.bool _=>rfl
 |.str _=>rfl
 |.nils=>rfl
 |.nilp=>rfl
 |.nilfn=>rfl
theorem fE:∀(l:List PV),aF (aF l)=aF l
 |[]=>rfl
 |x::xs=>by simp only[aF,Lk,fE]
end
mutual
theorem mH:∀{v:PV},pl v=true->∀f:ax->Nat->Option (ax×Nat),ren f v=v/\cV v=[]
 |.lst es _,h,f=>⟨rfl,rfl⟩
 |.lptr cs,h,f=>⟨rfl,rfl⟩
 |.agg cs,h,f=>by
  simp only[pl,TA]at h;have:=fS h.2 f;exact⟨by simp only[ren,this.1],by simp only[cV,this.2]⟩
 |.tup cs,h,f=>by simp[pl]at h
 |.fn _ cs,h,f=>by
  simp only[pl,UU]at h;subst h;exact⟨rfl,rfl⟩
 |.tok ..,h,_=>by simp[pl]at h
 |.ptr ..,h,_=>by simp[pl]at h
 |.junk,h,_=>by simp[pl]at h
 |.int ..,_,_=>⟨rfl,rfl⟩
 |.bool _,_,_=>⟨rfl,rfl⟩
 |.str _,_,_=>⟨rfl,rfl⟩
 |.nils,_,_=>⟨rfl,rfl⟩
 |.nilp,_,_=>⟨rfl,rfl⟩
 |.nilfn,_,_=>⟨rfl,rfl⟩
theorem fS:∀{l:List PV},cg l=true->∀f:ax->Nat->Option (ax×Nat),bH f l=l/\aM l=[]
 |[],_,f=>⟨rfl,rfl⟩
 |x::xs,h,f=>by
  simp only[cg,TA]at h;have h1:=mH h.1 f;have h2:=fS h.2 f;exact⟨by simp only[bH,h1.1,h2.1],by simp only[aM,h1.2,h2.2,TL]⟩
end
theorem Ho:∀{v:PV},pl v=true->gN v=true:=by
 have key:∀{l:List PV},(∀x∈l,gN x=true)->dO l=true:=by
  intro l h;induction l with
  |nil=>rfl
  |cons x xs ih=>simp only[dO,h x (TQ ..),ih (λy hy=>h y (TG _ hy)),Ub]
 intro v;apply PV.rec (motive_1:=λv=>pl v=true->gN v=true) (motive_2:=λl=>cg l=true->dO l=true)<;>intros<;>simp_all [pl,cg,gN,dO]
theorem Eb{l:List PV}(h:cg l=true):dO l=true:=by
 induction l with
 |nil=>rfl
 |cons x xs ih=>
  simp only[cg,TA]at h;simp only[dO,Ho h.1,ih h.2,Ub]
theorem AJ{v:PV}(h:pl v=true)(hc:v.isCell=true)(n:Nat):cC (n+1) v=.ret (v,[]):=by
 cases v<;>first|rfl|(simp[pl]at h;done)|(simp[PV.isCell]at hc;done)
theorem wK:∀{cs:List PV},ak cs=true->cg cs=true->∀n,sE (cC (n+1)) cs=.ret (cs,[])
 |[],_,_,n=>rfl
 |c::cs,h,hp,n=>by
  simp only[ak,cg,TA]at h hp;rw[sE,AJ hp.1 h.1];show(sE (cC (n+1)) cs).bind _=_;rw[wK h.2 hp.2];rfl
theorem o9{v:PV}(h:pl v=true)(n:Nat):cC (n+2) v=.ret (v,[]):=by
 cases v with
 |agg cs=>
  simp only[pl,TA]at h;show(sE (cC (n+1)) cs).bind _=_;rw[wK h.1 h.2];rfl
 |_=>first|rfl|(simp[pl]at h;done)
theorem FY:∀{l:List PV},cg l=true->∀n,sE (cC (n+2)) l=.ret (l,[])
 |[],_,n=>rfl
 |c::cs,h,n=>by
  simp only[cg,TA]at h;rw[sE,o9 h.1];show(sE (cC (n+2)) cs).bind _=_;rw[FY h.2];rfl
theorem AD{v:PV}(h:pl v=true)(hc:v.isCell=true)(n:Nat):bv (n+1) v=.ret v:=by
 cases v with
 |fn f cs=>simp only[pl,UU]at h;subst h;rfl
 |_=>first|rfl|(simp[pl]at h;done)|(simp[PV.isCell]at hc;done)
theorem xh:∀{cs:List PV},ak cs=true->cg cs=true->∀n,HM.mapM (bv (n+1)) cs=.ret cs
 |[],_,_,n=>rfl
 |c::cs,h,hp,n=>by
  simp only[ak,cg,TA]at h hp;rw[HM.mapM,AD hp.1 h.1];show(HM.mapM (bv (n+1)) cs).bind _=_;rw[xh h.2 hp.2];rfl
theorem kw{v:PV}(h:pl v=true)(n:Nat):bv (n+2) v=.ret v:=by
 cases v with
 |agg cs=>
  simp only[pl,TA]at h;show(HM.mapM (bv (n+1)) cs).bind _=_;rw[xh h.1 h.2];rfl
 |fn f cs=>simp only[pl,UU]at h;subst h;rfl
 |_=>first|rfl|(simp[pl]at h;done)
theorem tF:∀{l:List PV},cg l=true->∀n,HM.mapM (bv (n+2)) l=.ret l
 |[],_,n=>rfl
 |c::cs,h,n=>by
  simp only[cg,TA]at h;rw[HM.mapM,kw h.1];show(HM.mapM (bv (n+2)) cs).bind _=_;rw[tF h.2];rfl
def Hc(m:Option PV)(x:PV):Prop:=∃v,m=some v/\pl v=true/\aP v=x
theorem fj{v:PV}{k:IntKind}{n:Int}(h:aP v=.int k n):v=.int k n:=by cases v<;>simp_all [aP]
theorem hU{v:PV}{b:Bool}(h:aP v=.bool b):v=.bool b:=by cases v<;>simp_all [aP]
theorem qK{v:PV}{s:List UInt8}(h:aP v=.str s):v=.str s:=by cases v<;>simp_all [aP]
theorem B4{v:PV}(h:aP v=.nilp):v=.nilp:=by cases v<;>simp_all [aP]
theorem zT{v:PV}(h:aP v=.nilfn):v=.nilfn:=by cases v<;>simp_all [aP]
theorem BB{v:PV}{cs:List PV}(h:aP v=.agg cs):∃l,v=.agg l/\cs=aF l:=by cases v<;>simp_all [aP]
theorem FP{v:PV}{cs:List PV}(h:aP v=.tup cs):∃l,v=.tup l/\cs=aF l:=by cases v<;>simp_all [aP]
theorem xc{v:PV}{cs:List PV}(h:aP v=.lptr cs):∃l,v=.lptr l/\cs=aF l:=by cases v<;>simp_all [aP]
theorem DX{v:PV}{f:Nat}{cs:List PV}(h:aP v=.fn f cs):∃l,v=.fn f l/\cs=aF l:=by cases v<;>simp_all [aP]
theorem te{v:PV}{es:List PV}{c:Bool}(h:aP v=.lst es c):c=false/\((v=.nils/\es=[])∨∃l c0,v=.lst l c0/\es=aF l):=by cases v<;>simp_all [aP]
theorem Al{op:BinOp}{k k':IntKind}{a b:Int}{x:PV}(h:aI op k a k' b=some x):pl x=true/\aP x=x:=by
 unfold aI at h;split at h
 ·split at h
  ·cases h
  ·cases h;exact⟨rfl,rfl⟩
 ·split at h
  ·cases h
  ·cases h;exact⟨rfl,rfl⟩
 ·split at h
  ·cases h
  ·split at h<;>first|(split at h<;>first|(cases h;exact⟨rfl,rfl⟩)|(cases h;done))|(cases h;exact⟨rfl,rfl⟩)|(cases h;done)
theorem Mw{op:BinOp}{v w x:PV}(h:bin op (aP v) (aP w)=some x):Hc (bin op v w) x:=by
 cases hv:aP v<;>rw[hv]at h<;>try(simp[bin]at h;done)
 ·cases hw:aP w<;>rw[hw]at h<;>try(simp[bin]at h;done)
  rw[fj hv,fj hw];have:=Al (by simpa[bin]using h);exact⟨x,h,this.1,this.2⟩
 ·cases hw:aP w<;>rw[hw]at h<;>try(simp[bin]at h;done)
  rw[qK hv,qK hw];refine⟨x,h,?_⟩;simp only[bin]at h;split at h<;>first|(cases h;exact⟨rfl,rfl⟩)|(split at h<;>first|(cases h;exact⟨rfl,rfl⟩)|(cases h;done))|(cases h;done)
theorem OB{op:UnOp}{v x:PV}(h:un op (aP v)=some x):Hc (un op v) x:=by
 unfold un at h;split at h
 ·rename_i k n he;rw[fj he];cases h;exact⟨_,rfl,rfl,rfl⟩
 ·rename_i k n he;rw[fj he];have:=Al h;exact⟨x,h,this.1,this.2⟩
 ·rename_i b he;rw[hU he];cases h;exact⟨_,rfl,rfl,rfl⟩
 ·cases h
theorem H7{k:IntKind}{v x:PV}(h:oO k (aP v)=some x):wy k v=.ret x/\pl x=true/\aP x=x:=by
 cases hv:aP v<;>rw[hv]at h<;>try(simp[oO]at h;done)
 rw[fj hv];simp only[oO,Ty]at h;subst h;exact⟨rfl,rfl,rfl⟩
theorem sB:∀{ks:List Bool}{xs ys:List PV}{b:Bool},aQ ks (aF xs) (aF ys)=some b->aQ ks xs ys=some b
 |[],[],[],b,h=>h
 |[],x::xs,ys,b,h=>by simp[aF,aQ]at h
 |[],[],y::ys,b,h=>by simp[aF,aQ]at h
 |k::ks,[],ys,b,h=>by cases k<;>simp[aF,aQ]at h
 |k::ks,x::xs,[],b,h=>by cases k<;>simp[aF,aQ]at h
 | false::ks,x::xs,y::ys,b,h=>by
  simp only[aF]at h;cases hx:aP x<;>rw[hx]at h<;>try(simp[aQ]at h;done)
  cases hy:aP y<;>rw[hy]at h<;>try(simp[aQ]at h;done)
  rw[fj hx,fj hy];simp only[aQ]at h⊢;split at h
  ·cases h
  ·rename_i hk;rw[TF hk];cases he:aQ ks (aF xs) (aF ys)with
   |none=>rw[he]at h;cases h
   |some r=>rw[he]at h;rw[sB he];exact h
 |true::ks,x::xs,y::ys,b,h=>by
  simp only[aF]at h;cases hx:aP x<;>rw[hx]at h<;>try(simp[aQ]at h;done)
  cases hy:aP y<;>rw[hy]at h<;>try(simp[aQ]at h;done)
  rw[hU hx,hU hy];simp only[aQ]at h⊢;cases he:aQ ks (aF xs) (aF ys)with
  |none=>rw[he]at h;cases h
  |some r=>rw[he]at h;rw[sB he];exact h
theorem ND{neg:Bool}{ks:List Bool}{v w x:PV}(h:rD neg ks (aP v) (aP w)=some x):Cu neg ks v w=.ret x/\pl x=true/\aP x=x:=by
 cases hv:aP v<;>rw[hv]at h<;>try(simp[rD]at h;done)
 cases hw:aP w<;>rw[hw]at h<;>try(simp[rD]at h;done)
 obtain⟨l,rfl,rfl⟩:=BB hv;obtain⟨m,rfl,rfl⟩:=BB hw;simp only[rD]at h;split at h
 ·rename_i b hb;cases h;refine⟨?_,rfl,rfl⟩;simp only[Cu,sB hb]
 ·cases h
theorem Nq{neg:Bool}{v w x:PV}(h:eqb neg (aP v) (aP w)=some x):Hc (eqb neg v w) x:=by
 cases hv:aP v<;>rw[hv]at h<;>try(simp[eqb]at h;done)
 cases hw:aP w<;>rw[hw]at h<;>try(simp[eqb]at h;done)
 rw[hU hv,hU hw];refine⟨x,h,?_⟩;simp only[eqb,Ty]at h;subst h;exact⟨rfl,rfl⟩
theorem Fs{v:PV}(hp:pl v=true):D5 (aP v)=D5 v:=by cases v<;>simp_all [aP,D5]
theorem Fe{v:PV}(hp:pl v=true):DP (aP v)=DP v:=by cases v<;>simp_all [aP,DP]
theorem NQ{k:Nat}{neg:Bool}{v w x:PV}(hp:pl v=true)(hq:pl w=true)(hk:k≠0)(h:eqn k neg (aP v) (aP w)=some x):Hc (eqn k neg v w) x:=by
 have hb:pl x=true/\aP x=x:=by
  unfold eqn at h;split at h
  all_goals(split at h<;>first|(simp only[Uc]at h;obtain⟨b,_,rfl⟩:=h;exact⟨rfl,rfl⟩)|(cases h;done))
 refine⟨x,?_,hb⟩
 match k,hk with
 | 1,_=>
  simp only[eqn]at h⊢;split at h
  ·rename_i y he;rw[B4 he];simp only;rw[<-Fs hq];exact h
  ·rename_i y h0 he hn;rw[B4 he];have:v≠ .nilp:=by rintro rfl;exact hn rfl
   rw[Fs hp]at h;cases v<;>simp_all
  ·cases h
 | k+2,_=>
  simp only[eqn]at h⊢;split at h
  ·rename_i y he;rw[zT he];simp only;rw[<-Fe hq];exact h
  ·rename_i y h0 he hn;rw[zT he];have:v≠ .nilfn:=by rintro rfl;exact hn rfl
   rw[Fe hp]at h;cases v<;>simp_all
  ·cases h
theorem NC{v x:PV}(h:bO (aP v)=some x):Hc (tn v) x:=by
 cases hv:aP v<;>rw[hv]at h<;>try(simp[bO]at h;done)
 simp only[bO,Ty]at h;subst h;obtain⟨_,⟨rfl,rfl⟩|⟨l,c0,rfl,rfl⟩⟩:=te hv
 ·exact⟨_,rfl,rfl,rfl⟩
 ·refine⟨_,rfl,rfl,?_⟩;rw[aS];rfl
theorem Kw{v x:PV}(h:o6 (aP v)=some x):Hc (o6 v) x:=by
 cases hv:aP v<;>rw[hv]at h<;>try(simp[o6]at h;done)
 rw[qK hv];refine⟨x,h,?_⟩;simp only[o6,Ty]at h;subst h;exact⟨rfl,rfl⟩
theorem ye{cs:List PV}(hp:cg cs=true)(ho:ak cs=true){o:Nat}{sz:Option Nat}{x:PV}(h:bC (aF cs) o sz=some x):Hc (bC cs o sz) x:=by
 cases sz with
 |none=>
  simp only[bC,qA,Uc]at h⊢;obtain⟨v,hv,rfl⟩:=h;exact⟨v,hv,tP hp hv,rfl⟩
 | some n=>
  simp only[bC,aS]at h;split at h
  ·rename_i hn;cases h;refine⟨.agg ((cs.drop o).take n),by simp only[bC,TB hn],?_,?_⟩
   ·simp only[pl,gP (fb ho o) n,dJ (dw hp o) n,Ub]
   ·simp only[aP,iU,jE]
  ·cases h
theorem mF{cs:List PV}{o:Nat}{sz:Option Nat}{x:PV}(h:dU cs o sz=some x):bC cs o sz=some x/\x.fits sz=true:=by
 unfold dU at h;split at h
 ·rename_i y hy;split at h
  ·rename_i hf;cases h;exact⟨hy,hf⟩
  ·cases h
 ·cases h
theorem M8{v x:PV}(hp:pl v=true){o:Nat}{sz:Option Nat}(h:uw sz o (aP v)=some x):∃w,pe sz v o=.ret w/\pl w=true/\aP w=x:=by
 cases hv:aP v<;>rw[hv]at h<;>try(simp[uw]at h;done)
 obtain⟨l,rfl,rfl⟩:=BB hv;simp only[pl,TA]at hp;obtain⟨w,h1,h2,h3⟩:=ye hp.2 hp.1 (mF (by simpa[uw]using h)).1;exact⟨w,by simp only[pe,h1];rfl,h2,h3⟩
theorem ON{v x:PV}(hp:pl v=true){o:Nat}{sz:Option Nat}(h:kG sz o (aP v)=some x):∃l w,v=.lptr l/\bC l o sz=some w/\pl w=true/\aP w=x:=by
 cases hv:aP v<;>rw[hv]at h<;>try(simp[kG]at h;done)
 obtain⟨l,rfl,rfl⟩:=xc hv;simp only[pl,TA]at hp;obtain⟨w,h1,h2,h3⟩:=ye hp.2 hp.1 (mF (by simpa[kG]using h)).1;exact⟨l,w,rfl,h1,h2,h3⟩
theorem t9{v:PV}(hp:pl v=true):ak v.cells=true:=by
 cases v<;>simp_all [pl,PV.cells,ak,PV.isCell]
theorem OX{sz:Nat}{v i x:PV}(hp:pl v=true)(h:az sz (aP v) (aP i)=some x):Hc (az sz v i) x:=by
 cases hi:aP i<;>rw[hi]at h<;>try(simp[az]at h;done)
 rename_i k n;rw[fj hi];cases hv:aP v<;>rw[hv]at h<;>try(simp[az]at h;done)
 ·obtain⟨_,⟨rfl,rfl⟩|⟨l,c0,rfl,rfl⟩⟩:=te hv
  ·simp only[az,Um]at h;split at h
   ·omega
   ·cases h
  ·simp only[az,aS]at h⊢;split at h
   ·rename_i hb;rw[TB hb];rw[qA]at h;cases he:l[n.toNat]? with
    |none=>rw[he]at h;cases h
    | some e=>
     rw[he]at h;simp only[TT]at h;rw[fF]at h;split at h
     ·rename_i hz;cases h;simp only[TB hz];have hpe:=tP (by simpa[pl]using hp) he;refine⟨_,rfl,?_,by simp only[aP,iZ]⟩;simp only[pl,nS hpe,t9 hpe,Ub]
     ·cases h
   ·cases h
 ·rename_i r ver sz' off len room c0;cases v<;>simp_all [aP,pl]
theorem Mj{v x:PV}(hp:pl v=true){o:Nat}(h:aU (aP v) o=some x):Hc (aU v o) x:=by
 cases hv:aP v<;>rw[hv]at h<;>try(simp[aU]at h;done)
 ·cases v<;>simp_all [aP,pl]
 ·obtain⟨l,rfl,rfl⟩:=xc hv;simp only[pl,TA]at hp;simp only[aU,Ty]at h;subst h;exact⟨_,rfl,by simp only[pl,fb hp.1,dw hp.2,Ub],by simp only[aP,jE]⟩
theorem MR{n sz:Nat}{v i x:PV}(hp:pl v=true)(h:kx n sz (aP v) (aP i)=some x):Hc (kx n sz v i) x:=by
 cases hi:aP i<;>rw[hi]at h<;>try(simp[kx]at h;done)
 rw[fj hi];simp only[kx]at h⊢;split at h
 ·rename_i hb;rw[TB hb];exact Mj hp h
 ·cases h
theorem JB(es:List PV)(sz:Nat):mo (aF es) sz=mo es sz:=by
 cases es with
 |nil=>rfl
 |cons e es=>simp only[aF,mo,fF]
theorem LF{v:PV}{o:Option PV}(h:kk v=some o):(v=.tup []/\o=none)∨∃k n,v=.int k n/\o=some v:=by
 unfold kk at h;split at h<;>simp_all
theorem Cf{sz:Nat}{v lo hi mx x:PV}{l h m:Option PV}(hp:pl v=true)(hl:kk lo=some l)(hh:kk hi=some h)(hm:kk mx=some m)(hv:cj sz (aP v) lo hi mx=some x):Hc (dd sz v l h m) x:=by
 unfold cj at hv;rw[hl,hh,hm]at hv;simp only at hv;split at hv
 ·rename_i es c he;split at hv
  ·cases hv
  ·rename_i hc;simp only[not_or,Bool.not_eq_true]at hc;obtain⟨_,⟨rfl,rfl⟩|⟨es',c0,rfl,rfl⟩⟩:=te he
   ·simp only[cF,Uc]at hv;obtain⟨y,hy,rfl⟩:=hv;have hb:aO ([]:List PV).length h=aO 0 h/\aO ([]:List PV).length m=aO 0 m:=⟨rfl,rfl⟩;rw[hb.1,hb.2]at hy;simp only[dd,PV.isStr,gM,lV,hc.2];have hz:(sz==0)=false:=by simpa using hc.1
    cases h1:aO 0 l<;>rw[h1]at hy<;>try(cases hy;done)
    cases h2:aO 0 h<;>rw[h2]at hy<;>try(cases hy;done)
    cases h3:aO 0 m<;>rw[h3]at hy<;>try(cases hy;done)
    simp only at hy;split at hy
    ·rename_i hb;cases hy;simp only[Um]at hb;have:‹Nat›=0/\‹Nat›=0:=⟨by omega,by omega⟩;refine⟨.nils,?_,rfl,?_⟩
     ·rw[hz];simp;omega
     ·simp[aP,aF]
    ·cases hy
   ·simp only[cF,aS,JB,Uc]at hv;obtain⟨y,hy,rfl⟩:=hv;have hz:(sz==0)=false:=by simpa using hc.1
    simp only[dd,PV.isStr,gM,hc.2,hz,TY];simp only[cF];cases h1:aO 0 l<;>rw[h1]at hy<;>try(cases hy;done)
    cases h2:aO es'.length h<;>rw[h2]at hy<;>try(cases hy;done)
    cases h3:aO es'.length m<;>rw[h3]at hy<;>try(cases hy;done)
    simp only at hy⊢;split at hy
    ·rename_i hb;cases hy;rw[TB hb];refine⟨_,rfl,?_,?_⟩
     ·simp only[pl]at hp⊢;exact dJ (dw hp _) _
     ·simp only[aP,iU,jE,fE]
    ·cases hy
 ·rename_i s he;rw[qK he];split at hv
  ·rename_i hz;subst hz;split at hv
   ·cases hv
   ·rename_i hmx;simp only[Bool.not_eq_true]at hmx;refine⟨x,?_,?_⟩
    ·simp only[dd,PV.isStr,Tz,TY,gM,hmx,Un,T4,TU];exact hv
    ·unfold ub at hv;split at hv
     ·split at hv
      ·cases hv;exact⟨rfl,rfl⟩
      ·cases hv
     ·cases hv
  ·cases hv
 ·cases hv
theorem sH:∀{es:List PV}{l:List UInt8},fR (aF es)=some l->fR es=some l
 |[],l,h=>h
 | e::es,l,h=>by
  simp only[aF]at h;cases he:aP e with
  |int k n=>
   rw[he]at h;rw[fj he];cases k<;>try(simp[fR]at h;done)
   simp only[fR]at h⊢;cases hb:fR (aF es)with
   |none=>rw[hb]at h;cases h
   |some r=>rw[hb]at h;rw[sH hb];exact h
  |_=>rw[he]at h;simp[fR]at h
theorem NN{v x:PV}(h:GZ (aP v)=some x):zN v=.ret x/\pl x=true/\aP x=x:=by
 cases hv:aP v<;>rw[hv]at h<;>try(simp[GZ]at h;done)
 simp only[GZ,Uc]at h;obtain⟨l,hl,rfl⟩:=h;obtain⟨_,⟨rfl,rfl⟩|⟨es,c0,rfl,rfl⟩⟩:=te hv
 ·simp only[fR,Ty]at hl;subst hl;exact⟨rfl,rfl,rfl⟩
 ·refine⟨?_,rfl,rfl⟩;simp only[zN,PV.isStr,T4,TU,elems,HM.bind,sH hl]
theorem Jf{b:Bool}{v w x:PV}(h:A9 b v (aP w)=some x):A9 b v w=some x:=by
 cases hw:aP w<;>rw[hw]at h<;>try(cases v<;>simp[A9]at h;done)
 rw[fj hw];exact h
theorem F7{b:Bool}:∀{vs:List PV}{v x:PV},nZ b v (aF vs)=some x->nZ b v vs=some x
 |[],v,x,h=>h
 |w::vs,v,x,h=>by
  simp only[aF,nZ]at h⊢;cases h1:A9 b v (aP w)with
  |none=>rw[h1]at h;cases h
  |some z=>rw[h1]at h;rw[Jf h1];exact F7 h
theorem zp{b:Bool}:∀{vs:List PV}{v x:PV},nZ b v vs=some x->v=x∨∃k n,x=.int k n
 |[],v,x,h=>by simp only[nZ,Ty]at h;exact .inl h
 | w::vs,v,x,h=>by
  simp only[nZ]at h;cases h1:A9 b v w with
  |none=>rw[h1]at h;cases h
  | some z=>
   rw[h1]at h;unfold A9 at h1;split at h1
   ·cases h1;rcases zp h with h2|h2
    ·exact .inr ⟨_,_,h2.symm⟩
    ·exact .inr h2
   ·cases h1
theorem QS{b:Bool}{vs:List PV}{x:PV}(hp:cg vs=true)(h:Eu b (aF vs)=some x):GS b vs=.ret x/\pl x=true/\aP x=x∨(∃v,vs=[v]/\x=aP v/\GS b vs=.ret v):=by
 cases vs with
 |nil=>simp[aF,Eu]at h
 | cons v vs=>
  cases vs with
  |nil=>
   right;simp only[aF,Eu,nZ,Ty]at h;exact⟨v,rfl,h.symm,rfl⟩
  | cons w ws=>
   left;simp only[aF,Eu,nZ]at h;cases h1:A9 b (aP v) (aP w)with
   |none=>rw[h1]at h;cases h
   | some z=>
    rw[h1]at h;have hz:∃k n,z=.int k n:=by
     unfold A9 at h1;split at h1
     ·cases h1;exact⟨_,_,rfl⟩
     ·cases h1
    have hv:A9 b v w=some z:=by
     have:=Jf h1;cases hq:aP v<;>rw[hq]at this<;>try(simp[A9]at this;done)
     rw[fj hq];exact this
    have hm:nZ b z ws=some x:=F7 h;obtain⟨k,n,rfl⟩:=hz;have hx:pl x=true/\aP x=x:=by
     rcases zp hm with h2|⟨k,n,h2⟩
     ·subst h2;exact⟨rfl,rfl⟩
     ·subst h2;exact⟨rfl,rfl⟩
    refine⟨?_,hx⟩;simp only[GS,nZ,hv,hm];rfl
theorem Oa{v x:PV}(hp:pl v=true)(h:I7 (aP v)=some x):fA v=.ret v/\aP v=x:=by
 cases hv:aP v<;>rw[hv]at h<;>try(simp[I7]at h;done)
 ·obtain⟨l,rfl,rfl⟩:=xc hv;simp only[I7,Ty]at h;exact⟨rfl,h⟩
 ·obtain⟨l,rfl,rfl⟩:=DX hv;simp only[I7,Ty]at h;exact⟨rfl,h⟩
theorem MN{v x:PV}{sz:Option Nat}(h:Bz sz (aP v)=some x):v.fits sz=true/\ak v.cells=true/\x=aP v:=by
 unfold Bz at h;split at h
 ·rename_i hc;rw[p4,iZ,dQ]at hc;cases h;exact⟨hc.1,hc.2,rfl⟩
 ·cases h
theorem NE{v x:PV}(h:KJ (aP v)=some x):∃l,v=.str l/\l.length<bV/\x=.lst (l.map λb=>PV.int .u8 b.toNat) false:=by
 cases hv:aP v<;>rw[hv]at h<;>try(simp[KJ]at h;done)
 rename_i l;simp only[KJ]at h;split at h
 ·rename_i hl;cases h;exact⟨l,qK hv,hl,rfl⟩
 ·cases h
theorem ab{α β:Type}{x:Option α}{f:α->Option β}{b:β}:af x f=some b↔∃a,x=some a/\f a=some b:=by
 cases x<;>simp
inductive AV where
 |D
 |F (e:X)
 |N (e:X)
 |O (fs:List Nat) (w:Nat) (wr:Bool) (sz:Nat) (e:X)
 |Q (fs:List Nat) (e:X)
 |P (b o:Nat)
 |EP (fs:List Nat) (w:Nat) (wr:Bool) (sz:Nat) (e i:X) (o:Nat)
 |A (cs:List AV)
 |L (fs:List Nat) (sz:Nat) (cs:List AV)
 |C (f:Nat) (cs:List AV)
 |T (cs:List AV)
 |G (g:X) (p:Bool) (a:AV)
 deriving Inhabited
structure Cx where
 nm:ax->Nat
 nu:Nat->PV
 be:Nat->ax×Nat
def rH(v:PV):Prop:=v=.nils∨v=.lst [] true
def TokAt(Pr:ax->Prop)(h:Heap)(sz:Nat)(r:ax)(ver off len room:Nat)(c0:Bool)(b:Blk)(v x:PV):Prop:=
 v=.tok r ver sz off len room c0/\Pr r/\h.get r=some ⟨ver,some b⟩/\b.sz=sz/\off+len<=b.es.length/\len<=room/\cg b.es=true/\(∀e∈b.es,e.cells.length=sz)/\
  x=.lst (aF ((b.es.drop off).take len)) false
def TokOk(Pr:ax->Prop)(h:Heap)(sz:Nat)(v x:PV):Prop:=
 (rH v/\x=.lst [] false)∨∃r ver off len room c0 b,TokAt Pr h sz r ver off len room c0 b v x
def WrOk(h:Heap)(v:PV):Prop:=
 rH v∨∃r ver sz off len room b,v=.tok r ver sz off len room false/\h.get r=some ⟨ver,some b⟩/\b.ro=false/\off+room<=b.es.length
def yd:PV->Bool
 |.lptr _=>true
 |_=>false
def QL(Pr:ax->Prop)(h:Heap):List PV->List PV->Prop
 |[],[]=>True
 |v::vs,x::xs=>((pl v=true/\yd v=false/\x=aP v)∨∃r ver n e ro,v=.ptr r ver 0 0/\Pr r/\h.get r=some ⟨ver,some ⟨n,[e],ro⟩⟩/\ak e.cells=true/\cg e.cells=true/\x=.lptr (aF e.cells))/\QL Pr h vs xs
 |_,_=>False
def ef:List PV->List ax
 |[]=>[]
 |.ptr r _ _ _::vs=>r::ef vs
 |_::vs=>ef vs
def DJ(c:Cx)(h:Heap)(env:Env)(fs:List Nat)(w:Nat)(wr:Bool)(sz:Nat)(e i:X)(o:Nat)(v:PV):Prop:=
 ∃r ver off len room c0 b x k n,TokAt (λr=>c.nm r∈fs) h sz r ver off len room c0 b (c.nu w) x/\e.ev env=some x/\(wr=true->WrOk h (c.nu w))/\
  i.ev env=some (.int k n)/\0<=n/\n<len/\v=.ptr r ver (off+n.toNat) o
mutual
def Rel(c:Cx)(h:Heap)(env:Env):AV->PV->Prop
 |.D,_=>True
 |.F e,v=>pl v=true/\e.ev env=some (aP v)
 |.N e,v=>rH v/\e.ev env=some (.lst [] false)
 |.O fs w wr sz e,v=>v=c.nu w/\∃x,TokOk (λr=>c.nm r∈fs) h sz v x/\e.ev env=some x/\(wr=true->WrOk h v)
 |.Q fs e,v=>∃f vs xs,v=.fn f vs/\QL (λr=>c.nm r∈fs) h vs xs/\e.ev env=some (.fn f xs)/\vs.length<=9/\(ef vs).Nodup
 |.P b o,v=>v=.ptr (c.be b).1 (c.be b).2 0 o
 |.EP fs w wr sz e i o,v=>DJ c h env fs w wr sz e i o v
 |.A cs,v=>∃vs,v=.agg vs/\ak vs=true/\RelL c h env cs vs
 |.L fs sz cs,v=>∃r ver vs,v=.tok r ver sz 0 vs.length vs.length false/\c.nm r∈fs/\h.get r=some ⟨ver,some ⟨sz,vs,false⟩⟩/\cq sz vs=true/\RelL c h env cs vs
 |.C f cs,v=>∃vs,v=.fn f vs/\RelL c h env cs vs
 |.T cs,v=>∃vs,v=.tup vs/\RelL c h env cs vs
 |.G g p a,v=>(g.ev env=some (.bool p)/\Rel c h env a v)∨((g.ev env=some (.bool !p)∨g.ev env=some (.tup []))/\v=.tup [])
def RelL(c:Cx)(h:Heap)(env:Env):List AV->List PV->Prop
 |[],[]=>True
 |a::as,v::vs=>Rel c h env a v/\RelL c h env as vs
 |_,_=>False
end
structure BX where
 id:Nat
 ro:Bool
 fs:List Nat
 cs:List AV
structure Abs where
 t:List (Nat×AV)
 b:List BX
structure Inv where
 nt:Nat
 ns:Nat
 m:Nat
 st:Nat->Nat
 al:Nat->Nat
 kp:List Nat
 h0:Heap
 fl:Nat->Bool
def SameRo(x y:Option fX):Prop:=x=y∨∃ver sz es,(∃r,x=some ⟨ver,some ⟨sz,es,r⟩⟩)/\∃r,y=some ⟨ver,some ⟨sz,es,r⟩⟩
def BoxOk(c:Cx)(h:Heap)(env:Env)(x:BX):Prop:=
 ∃n e ro,c.nm (c.be x.id).1∈x.fs/\h.get (c.be x.id).1=some ⟨(c.be x.id).2,some ⟨n,[e],ro⟩⟩/\(x.ro=false->ro=false)/\ak e.cells=true/\RelL c h env x.cs e.cells
structure Nm (I:Inv) (c:Cx):Prop where
 l:∀s,∃j,c.nm (.l s)=2*j/\I.st j=I.st s
 a:∀i,c.nm (.a i)=2*I.al i+1
structure Sim (I:Inv) (c:Cx) (a:Abs) (env:Env) (σ:St):Prop where
 fr:σ.fr.length=I.nt
 tm:∀p∈a.t,Rel c σ.h env p.2 (eO σ.fr p.1)
 bx:∀x∈a.b,BoxOk c σ.h env x
 nm:Nm I c
 hl:σ.h.L.length=I.ns
 ha:σ.h.A.length=I.m
 kp:∀r,c.nm r∈I.kp->SameRo (σ.h.get r) (I.h0.get r)
 fl:∀i ver b,I.fl (I.al i)=true->σ.h.get (.a i)=some ⟨ver,some b⟩->cg b.es=true
mutual
def AV.ok(nf idf vf:Nat->Bool):AV->Bool
 |.D=>true
 |.F e|.N e=> !e.ment vf
 |.O fs w _ _ e=>fs.all (λn=> !nf n)&& !idf w&& !e.ment vf
 |.Q fs e=>fs.all (λn=> !nf n)&& !e.ment vf
 |.P b _=> !idf b
 |.EP fs w _ _ e i _=>fs.all (λn=> !nf n)&& !idf w&& !e.ment vf&& !i.ment vf
 |.A cs|.C _ cs|.T cs=>AV.okL nf idf vf cs
 |.L fs _ cs=>fs.all (λn=> !nf n)&&AV.okL nf idf vf cs
 |.G g _ a=> !g.ment vf&&a.ok nf idf vf
def AV.okL(nf idf vf:Nat->Bool):List AV->Bool
 |[]=>true
 |a::as=>a.ok nf idf vf&&AV.okL nf idf vf as
end
structure FG (nf idf vf:Nat->Bool) (c c':Cx) (h h':Heap) (env env':Env):Prop where
 n:∀r,nf (c.nm r)=false->h'.get r=h.get r/\c'.nm r=c.nm r
 i:∀w,idf w=false->c'.nu w=c.nu w/\c'.be w=c.be w
 v:∀n,vf n=false->env' n=env n
section
variable{nf idf vf:Nat->Bool}{c c':Cx}{h h':Heap}{env env':Env}
theorem gZ{fs:List Nat}{n:Nat}(hf:fs.all (λn=> !nf n)=true)(hn:n∈fs):nf n=false:=by
 have:=List.all_eq_true.1 hf n hn;simpa using this
theorem TokAt.frame(M:FG nf idf vf c c' h h' env env'){fs:List Nat}(hf:fs.all (λn=> !nf n)=true){sz:Nat}{r:ax}{ver off len room:Nat}{c0:Bool}{b:Blk}{v x:PV}
  (T:TokAt (λr=>c.nm r∈fs) h sz r ver off len room c0 b v x):TokAt (λr=>c'.nm r∈fs) h' sz r ver off len room c0 b v x:=by
 obtain⟨h1,h2,h3,h4⟩:=T;have:=M.n r (gZ hf h2);exact⟨h1,by simp only[this.2];exact h2,by rw[this.1];exact h3,h4⟩
theorem TokOk.frame(M:FG nf idf vf c c' h h' env env'){fs:List Nat}(hf:fs.all (λn=> !nf n)=true){sz:Nat}{v x:PV}(T:TokOk (λr=>c.nm r∈fs) h sz v x):TokOk (λr=>c'.nm r∈fs) h' sz v x:=by
 rcases T with T|⟨r,ver,off,len,room,c0,b,T⟩
 ·exact .inl T
 ·exact .inr ⟨r,ver,off,len,room,c0,b,T.frame M hf⟩
theorem WrOk.frame(M:FG nf idf vf c c' h h' env env'){fs:List Nat}(hf:fs.all (λn=> !nf n)=true){sz:Nat}{v x:PV}(T:TokOk (λr=>c.nm r∈fs) h sz v x)(W:WrOk h v):WrOk h' v:=by
 rcases W with W|⟨r,ver,sz',off,len,room,b,rfl,h1,h2⟩
 ·exact .inl W
 ·rcases T with⟨T,_⟩|⟨r',ver',off',len',room',c0',b',hv,T2,T⟩
  ·exact .inl T
  ·cases hv;exact .inr ⟨r,ver,_,off,len,room,b,rfl,by rw[(M.n r (gZ hf T2)).1];exact h1,h2⟩
theorem QL.frame(M:FG nf idf vf c c' h h' env env'){fs:List Nat}(hf:fs.all (λn=> !nf n)=true):∀{vs xs:List PV},QL (λr=>c.nm r∈fs) h vs xs->QL (λr=>c'.nm r∈fs) h' vs xs
 |[],[],_=>trivial
 | v::vs,x::xs,H=>by
  obtain⟨H1,H2⟩:=H;refine⟨?_,QL.frame M hf H2⟩;rcases H1 with H1|⟨r,ver,n,e,ro,h1,h2,h3,h4⟩
  ·exact .inl H1
  ·have:=M.n r (gZ hf h2);exact .inr ⟨r,ver,n,e,ro,h1,by simp only[this.2];exact h2,by rw[this.1];exact h3,h4⟩
 |[],_::_,H=>by cases H
 |_::_,[],H=>by cases H
theorem l9(M:FG nf idf vf c c' h h' env env'){e:X}(hm:(!e.ment vf)=true):e.ev env'=e.ev env:=X.ev_ment M.v (by simpa using hm)
mutual
theorem Rel.frame(M:FG nf idf vf c c' h h' env env'):∀{a:AV}{v:PV},a.ok nf idf vf=true->Rel c h env a v->Rel c' h' env' a v
 |.D,v,_,_=>trivial
 |.F e,v,ho,R=>by
  simp only[AV.ok]at ho;simp only[Rel]at R⊢;rw[l9 M ho];exact R
 |.N e,v,ho,R=>by
  simp only[AV.ok]at ho;simp only[Rel]at R⊢;rw[l9 M ho];exact R
 |.O fs w wr sz e,v,ho,R=>by
  simp only[AV.ok,TA,TZ]at ho;simp only[Rel]at R⊢;obtain⟨h1,x,h2,h3,h4⟩:=R;exact⟨by rw[(M.i w ho.1.2).1];exact h1,x,h2.frame M ho.1.1,by rw[l9 M (by simpa using ho.2)];exact h3,λhw=>(h4 hw).frame M ho.1.1 h2⟩
 |.Q fs e,v,ho,R=>by
  simp only[AV.ok,TA,TZ]at ho;simp only[Rel]at R⊢;obtain⟨f,vs,xs,h1,h2,h3,h4⟩:=R;exact⟨f,vs,xs,h1,h2.frame M ho.1,by rw[l9 M (by simpa using ho.2)];exact h3,h4⟩
 |.P b o,v,ho,R=>by
  simp only[AV.ok,TZ]at ho;simp only[Rel]at R⊢;rw[(M.i b ho).2];exact R
 |.EP fs w wr sz e i o,v,ho,R=>by
  simp only[AV.ok,TA,TZ]at ho;simp only[Rel,DJ]at R⊢;obtain⟨r,ver,off,len,room,c0,b,x,k,n,h1,h2,h3,h4,h5⟩:=R;refine⟨r,ver,off,len,room,c0,b,x,k,n,?_,by rw[l9 M (by simpa using ho.1.2)];exact h2,λhw=>?_,by rw[l9 M (by simpa using ho.2)];exact h4,h5⟩
  ·rw[(M.i w ho.1.1.2).1];exact h1.frame M ho.1.1.1
  ·rw[(M.i w ho.1.1.2).1];exact(h3 hw).frame M ho.1.1.1 (.inr ⟨_,_,_,_,_,_,_,h1⟩)
 |.A cs,v,ho,R=>by
  simp only[AV.ok]at ho;simp only[Rel]at R⊢;obtain⟨vs,h1,h2,h3⟩:=R;exact⟨vs,h1,h2,RelL.frame M ho h3⟩
 |.L fs sz cs,v,ho,R=>by
  simp only[AV.ok,TA]at ho;simp only[Rel]at R⊢;obtain⟨r,ver,vs,h1,h2,h3,h4,h5⟩:=R;have:=M.n r (gZ ho.1 h2);exact⟨r,ver,vs,h1,by rw[this.2];exact h2,by rw[this.1];exact h3,h4,RelL.frame M ho.2 h5⟩
 |.C f cs,v,ho,R=>by
  simp only[AV.ok]at ho;simp only[Rel]at R⊢;obtain⟨vs,h1,h3⟩:=R;exact⟨vs,h1,RelL.frame M ho h3⟩
 |.T cs,v,ho,R=>by
  simp only[AV.ok]at ho;simp only[Rel]at R⊢;obtain⟨vs,h1,h3⟩:=R;exact⟨vs,h1,RelL.frame M ho h3⟩
 |.G g p a,v,ho,R=>by
  simp only[AV.ok,TA]at ho;simp only[Rel]at R⊢;rw[l9 M ho.1];rcases R with R|R
  ·exact .inl ⟨R.1,Rel.frame M ho.2 R.2⟩
  ·exact .inr R
theorem RelL.frame(M:FG nf idf vf c c' h h' env env'):∀{as:List AV}{vs:List PV},AV.okL nf idf vf as=true->RelL c h env as vs->RelL c' h' env' as vs
 |[],[],_,_=>trivial
 |a::as,v::vs,ho,R=>by
  simp only[AV.okL,TA]at ho;exact⟨Rel.frame M ho.1 R.1,RelL.frame M ho.2 R.2⟩
 |[],_::_,_,R=>by cases R
 |_::_,[],_,R=>by cases R
end
def AV.keep(nf idf vf:Nat->Bool)(a:AV):AV:=if a.ok nf idf vf then a else .D
def Abs.keep(nf idf vf:Nat->Bool)(a:Abs):Abs:=
 ⟨a.t.filter λp=>p.2.ok nf idf vf,(a.b.filter λx=> !idf x.id&&x.fs.all λn=> !nf n).map λx=>⟨x.id,x.ro,x.fs,x.cs.map (AV.keep nf idf vf)⟩⟩
theorem RelL.keep(M:FG nf idf vf c c' h h' env env'):∀{as:List AV}{vs:List PV},RelL c h env as vs->RelL c' h' env' (as.map (AV.keep nf idf vf)) vs
 |[],[],_=>trivial
 |a::as,v::vs,R=>by
  refine⟨?_,RelL.keep M R.2⟩;simp only[AV.keep];split
  ·rename_i ho;exact Rel.frame M ho R.1
  ·trivial
 |[],_::_,R=>by cases R
 |_::_,[],R=>by cases R
theorem BoxOk.keep(M:FG nf idf vf c c' h h' env env'){x:BX}(hx:(!idf x.id&&x.fs.all λn=> !nf n)=true)(B:BoxOk c h env x):BoxOk c' h' env' ⟨x.id,x.ro,x.fs,x.cs.map (AV.keep nf idf vf)⟩:=by
 simp only[TA,TZ]at hx;obtain⟨n,e,ro,h1,h2,h3,h4,h5⟩:=B;have hb:=(M.i x.id hx.1).2;have hr:=M.n (c.be x.id).1 (gZ hx.2 h1);refine⟨n,e,ro,?_,?_,h3,h4,h5.keep M⟩
 ·simp only[hb,hr.2];exact h1
 ·simp only[hb,hr.1];exact h2
theorem Sim.keep{I:Inv}{a:Abs}{fr:List PV}(M:FG nf idf vf c c' h h' env env')(S:Sim I c a env ⟨fr,h⟩)(hn:Nm I c')(hL:h'.L.length=I.ns)(hA:h'.A.length=I.m)
  (hk:∀r,c'.nm r∈I.kp->SameRo (h'.get r) (I.h0.get r))(hf:∀i ver b,I.fl (I.al i)=true->h'.get (.a i)=some ⟨ver,some b⟩->cg b.es=true):Sim I c' (a.keep nf idf vf) env' ⟨fr,h'⟩ where
 fr:=S.fr
 tm p hp:=by
  obtain⟨h1,h2⟩:=List.mem_filter.1 hp;exact Rel.frame M h2 (S.tm p h1)
 bx x hx:=by
  obtain⟨y,hy,rfl⟩:=List.mem_map.1 hx;obtain⟨h1,h2⟩:=List.mem_filter.1 hy;exact(S.bx y h1).keep M h2
 nm:=hn
 hl:=hL
 ha:=hA
 kp:=hk
 fl:=hf
end
def Abs.get(a:Abs)(t:Nat):Option AV:=match a.t.find? (λp=>p.1==t)with|some p=>(match p.2 with|.D=>none|v=>some v)|none=>none
def Abs.set(a:Abs)(t:Nat)(v:AV):Abs:=⟨(t,v)::a.t.filter (λp=>p.1 !=t),a.b⟩
def Abs.box(a:Abs)(b:Nat):Option BX:=a.b.find? λx=>x.id==b
theorem Abs.get_rel{I:Inv}{c:Cx}{a:Abs}{env:Env}{σ:St}(S:Sim I c a env σ){t:Nat}{v:AV}(h:a.get t=some v):Rel c σ.h env v (eO σ.fr t):=by
 unfold Abs.get at h;split at h
 ·rename_i p hp;have h1:=List.find?_some hp;have h2:=S.tm p (List.mem_of_find?_eq_some hp);simp only[Ue]at h1;subst h1;split at h
  ·cases h
  ·rename_i v' hd he;cases h;exact h2
 ·cases h
theorem Abs.box_ok{I:Inv}{c:Cx}{a:Abs}{env:Env}{σ:St}(S:Sim I c a env σ){b:Nat}{x:BX}(h:a.box b=some x):x.id=b/\BoxOk c σ.h env x:=by
 have h1:=List.find?_some h;exact⟨by simpa using h1,S.bx x (List.mem_of_find?_eq_some h)⟩
theorem Sim.set{I:Inv}{c:Cx}{a:Abs}{env:Env}{fr:List PV}{h:Heap}(S:Sim I c a env ⟨fr,h⟩){t:Nat}(ht:t<I.nt){av:AV}{v:PV}(R:Rel c h env av v):Sim I c (a.set t av) env ⟨upd fr t v,h⟩ where
 fr:=by rw[bd];exact S.fr
 tm p hp:=by
  rcases List.mem_cons.1 hp with rfl|hp
  ·simp only;rw[cG];have:t<fr.length:=by have:=S.fr;simp only at this;omega
   simp[this,R]
  ·obtain⟨h1,h2⟩:=List.mem_filter.1 hp;have hne:p.1≠t:=by simpa using h2
   rw[cG];simp only[show¬(p.1=t)from hne,Vg,TU];have:=S.tm p h1
   first|exact this|(split<;>first|exact this|(exfalso;omega))
 bx:=S.bx
 nm:=S.nm
 hl:=S.hl
 ha:=S.ha
 kp:=S.kp
 fl:=S.fl
theorem HM.runT_bind{α β:Type}(m:HM α)(f:α->HM β)(h:Heap):
  (m.bind f).runT h=match m.runT h with
   |some (a,h1,R,W)=>(match(f a).runT h1 with|some (b,h2,R2,W2)=>some (b,h2,R++R2,W++W2)|none=>none)
   |none=>none:=by
 induction m generalizing h with
 |ret a=>
  simp only[HM.bind,HM.runT];cases(f a).runT h with
  |none=>rfl
  |some p=>rfl
 |fail=>rfl
 | get r k ih=>
  simp only[HM.bind,HM.runT];cases hg:h.get r with
  |none=>rfl
  | some e=>
   simp only[ih];cases(k e).runT h with
   |none=>rfl
   |some p=>
    obtain⟨a,h1,R,W⟩:=p;simp only;cases(f a).runT h1 with
    |none=>rfl
    |some q=>rfl
 | set r e k ih=>
  simp only[HM.bind,HM.runT];cases hg:h.get r with
  |none=>rfl
  | some e0=>
   simp only[ih];cases k.runT (h.put r e)with
   |none=>rfl
   |some p=>
    obtain⟨a,h1,R,W⟩:=p;simp only;cases(f a).runT h1 with
    |none=>rfl
    |some q=>rfl
theorem HM.runT_bind_of{α β:Type}{m:HM α}{f:α->HM β}{h h1 h2:Heap}{a:α}{b:β}{R W R2 W2:List ax}(x:m.runT h=some (a,h1,R,W))(y:(f a).runT h1=some (b,h2,R2,W2)):
  (m.bind f).runT h=some (b,h2,R++R2,W++W2):=by
 rw[HM.runT_bind,x];simp only;rw[y]
theorem bc{r:ax}{ver:Nat}{b:Blk}{h:Heap}(hg:h.get r=some ⟨ver,some b⟩):(bM r ver).runT h=some (b,h,[r],[]):=by
 simp[bM,HM.runT,hg,HM.ofO]
mutual
def v5:PV->Option X
 |.int k n=>some (.int k n)
 |.bool b=>some (.boo b)
 |.str s=>some (.str s)
 |.nilp=>some .nilp
 |.nilfn=>some .nilfn
 |.nils=>some (.lst .nl)
 |.lst es _=>(Dg es).map X.lst
 |.agg cs=>if ak cs then(Dg cs).map X.agg else none
 |.fn f []=>some (.fn f .nl)
 |_=>none
def Dg:List PV->Option X
 |[]=>some .nl
 |v::vs=>af (v5 v) λx=>af (Dg vs) λl=>some (.cn x l)
end
mutual
theorem Bv(env:Env):∀{v:PV}{e:X},v5 v=some e->pl v=true/\e.ev env=some (aP v)
 |.int k n,e,h=>by cases h;exact⟨rfl,rfl⟩
 |.bool _,e,h=>by cases h;exact⟨rfl,rfl⟩
 |.str _,e,h=>by cases h;exact⟨rfl,rfl⟩
 |.nilp,e,h=>by cases h;exact⟨rfl,rfl⟩
 |.nilfn,e,h=>by cases h;exact⟨rfl,rfl⟩
 |.nils,e,h=>by cases h;exact⟨rfl,rfl⟩
 |.lst es c,e,h=>by
  simp only[v5,Uc]at h;obtain⟨l,hl,rfl⟩:=h;have:=xZ env hl;exact⟨by simp only[pl,this.1],by simp only[X.ev,this.2,ac,bZ,aP]⟩
 | .agg cs,e,h=>by
  simp only[v5]at h;split at h
  ·rename_i hc;simp only[Uc]at h;obtain⟨l,hl,rfl⟩:=h;have:=xZ env hl;refine⟨by simp only[pl,this.1,hc,Ub],by simp only[X.ev,this.2,ac,bZ,aP,dQ,hc,TY]⟩
  ·cases h
 |.fn f [],e,h=>by cases h;exact⟨rfl,rfl⟩
 |.fn f (_::_),e,h=>by simp[v5]at h
 |.lptr _,e,h=>by simp[v5]at h
 |.tup _,e,h=>by simp[v5]at h
 |.tok ..,e,h=>by simp[v5]at h
 |.ptr ..,e,h=>by simp[v5]at h
 |.junk,e,h=>by simp[v5]at h
theorem xZ(env:Env):∀{l:List PV}{e:X},Dg l=some e->cg l=true/\e.ev env=some (.tup (aF l))
 |[],e,h=>by cases h;exact⟨rfl,rfl⟩
 |v::vs,e,h=>by
  simp only[Dg,ab]at h;obtain⟨x,hx,l,hl,he⟩:=h;cases he;have h1:=Bv env hx;have h2:=xZ env hl;exact⟨by simp only[cg,h1.1,h2.1,Ub],by simp only[X.ev,h1.2,h2.2,ac,aF]⟩
end
def Bq:PV->Option AV
 |.nils=>some (.N (.lst .nl))
 |v=>(v5 v).map AV.F
def x8:List PV->Option (List AV)
 |[]=>some []
 |v::vs=>af (Bq v) λa=>af (x8 vs) λas=>some (a::as)
theorem z9(c:Cx)(h:Heap)(env:Env){v:PV}{a:AV}(H:Bq v=some a):Rel c h env a v:=by
 unfold Bq at H;split at H
 ·cases H;exact⟨.inl rfl,rfl⟩
 ·rename_i hn;simp only[Uc]at H;obtain⟨e,he,rfl⟩:=H;exact Bv env he
theorem uq(c:Cx)(h:Heap)(env:Env):∀{l:List PV}{as:List AV},x8 l=some as->RelL c h env as l
 |[],as,H=>by cases H;trivial
 |v::vs,as,H=>by
  simp only[x8,ab]at H;obtain⟨a,ha,l,hl,he⟩:=H;cases he;exact⟨z9 c h env ha,uq c h env hl⟩
def Abs.po(a:Abs):PO->Option AV
 |.t n=>a.get n
 |.c v=>match v with
  |.agg cs=>if ak cs then(x8 cs).map AV.A else none
  |v=>Bq v
theorem Abs.po_ok{I:Inv}{c:Cx}{a:Abs}{env:Env}{σ:St}(S:Sim I c a env σ):∀{x:PO}{av:AV},a.po x=some av->Rel c σ.h env av (x.ev σ.fr)
 |.t n,av,H=>Abs.get_rel S H
 | .c v,av,H=>by
  simp only[Abs.po]at H;split at H
  ·split at H
   ·rename_i hc;simp only[Uc]at H;obtain⟨l,hl,rfl⟩:=H;exact⟨_,rfl,hc,uq _ _ _ hl⟩
   ·cases H
  ·exact z9 _ _ _ H
mutual
def fx:AV->Option X
 |.F e=>some e
 |.N e=>some e
 |.A cs=>(QT cs).map X.agg
 |_=>none
def QT:List AV->Option X
 |[]=>some .nl
 |a::as=>af (fx a) λx=>af (QT as) λl=>some (.cn x l)
end
theorem jr{v:PV}(h:rH v):pl v=true/\aP v=.lst [] false:=by rcases h with rfl|rfl<;>exact⟨rfl,rfl⟩
section
variable{c:Cx}{h:Heap}{env:Env}
mutual
theorem mS:∀{a:AV}{v:PV}{e:X},Rel c h env a v->fx a=some e->pl v=true/\e.ev env=some (aP v)
 |.F e,v,e',R,H=>by cases H;exact R
 |.N e,v,e',R,H=>by
  cases H;have:=jr R.1;exact⟨this.1,by rw[this.2];exact R.2⟩
 |.A cs,v,e',R,H=>by
  simp only[fx,Uc]at H;obtain⟨l,hl,rfl⟩:=H;obtain⟨vs,rfl,hc,hR⟩:=R;have:=DV hR hl;exact⟨by simp only[pl,hc,this.1,Ub],by simp only[X.ev,this.2,ac,bZ,dQ,hc,TY,aP]⟩
 |.D,v,e',R,H=>by simp[fx]at H
 |.O ..,v,e',R,H=>by simp[fx]at H
 |.Q ..,v,e',R,H=>by simp[fx]at H
 |.P ..,v,e',R,H=>by simp[fx]at H
 |.EP ..,v,e',R,H=>by simp[fx]at H
 |.C ..,v,e',R,H=>by simp[fx]at H
 |.L ..,v,e',R,H=>by simp[fx]at H
 |.T ..,v,e',R,H=>by simp[fx]at H
 |.G ..,v,e',R,H=>by simp[fx]at H
theorem DV:∀{as:List AV}{vs:List PV}{e:X},RelL c h env as vs->QT as=some e->cg vs=true/\e.ev env=some (.tup (aF vs))
 |[],[],e,R,H=>by cases H;exact⟨rfl,rfl⟩
 |a::as,v::vs,e,R,H=>by
  simp only[QT,ab]at H;obtain⟨x,hx,l,hl,he⟩:=H;cases he;have h1:=mS R.1 hx;have h2:=DV R.2 hl;exact⟨by simp only[cg,h1.1,h2.1,Ub],by simp only[X.ev,h1.2,h2.2,ac,aF]⟩
 |[],_::_,_,R,_=>by cases R
 |_::_,[],_,R,_=>by cases R
end
def RC(g:X)(p:Bool)(a:AV):Option X:=match a with
 |.G g' p' a=>if g'=g/\p'=p then fx a else none
 |a=>fx a
theorem IH{g:X}{p:Bool}{a:AV}{v:PV}{e:X}(hg:g.ev env=some (.bool p))(R:Rel c h env a v)(H:RC g p a=some e):pl v=true/\e.ev env=some (aP v):=by
 unfold RC at H;split at H
 ·split at H
  ·rename_i he;obtain⟨rfl,rfl⟩:=he;rcases R with R|R
   ·exact mS R.2 H
   ·rw[hg]at R;rcases R.1 with h1|h1
    ·simp at h1
    ·simp at h1
  ·cases H
 ·exact mS R H
def Abs.fo(a:Abs)(x:PO):Option X:=af (a.po x) fx
theorem Abs.fo_ok{I:Inv}{a:Abs}{σ:St}(S:Sim I c a env σ){x:PO}{e:X}(H:a.fo x=some e):pl (x.ev σ.fr)=true/\e.ev env=some (aP (x.ev σ.fr)):=by
 simp only[Abs.fo,ab]at H;obtain⟨av,h1,h2⟩:=H;exact mS (Abs.po_ok S h1) h2
def Abs.fos(a:Abs):List PO->Option X
 |[]=>some .nl
 |x::xs=>af (a.fo x) λe=>af (a.fos xs) λl=>some (.cn e l)
theorem Abs.fos_ok{I:Inv}{a:Abs}{σ:St}(S:Sim I c a env σ):∀{xs:List PO}{e:X},a.fos xs=some e->cg (lT (PO.ev σ.fr) xs)=true/\e.ev env=some (.tup (aF (lT (PO.ev σ.fr) xs)))
 |[],e,H=>by cases H;exact⟨rfl,rfl⟩
 |x::xs,e,H=>by
  simp only[Abs.fos,ab]at H;obtain⟨y,hy,l,hl,he⟩:=H;cases he;have h1:=Abs.fo_ok S hy;have h2:=Abs.fos_ok S hl;exact⟨by simp only[lT,cg,h1.1,h2.1,Ub],by simp only[X.ev,h1.2,h2.2,ac,lT,aF]⟩
def Abs.pos(a:Abs):List PO->Option (List AV)
 |[]=>some []
 |x::xs=>af (a.po x) λe=>af (a.pos xs) λl=>some (e::l)
theorem Abs.pos_ok{I:Inv}{a:Abs}{σ:St}(S:Sim I c a env σ):∀{xs:List PO}{as:List AV},a.pos xs=some as->RelL c σ.h env as (lT (PO.ev σ.fr) xs)
 |[],as,H=>by cases H;trivial
 |x::xs,as,H=>by
  simp only[Abs.pos,ab]at H;obtain⟨y,hy,l,hl,he⟩:=H;cases he;exact⟨Abs.po_ok S hy,Abs.pos_ok S hl⟩
end
def p9:Option Nat->X->Bool
 |none,.int .. |none,.boo _|none,.str _|none,.lst _|none,.bin .. |none,.toInt .. |none,.eqs .. |none,.eqb .. |none,.len _|none,.lenS _|none,.app .. |none,.ia .. |none,.fa .. |none,.b2s _=>true
 |sz,.fld sz' _ _=>sz==sz'
 |sz,.ld sz' _ _=>sz==sz'
 |sz,.ite _ a b=>p9 sz a&&p9 sz b
 |sz,.chk sz' _=>sz==sz'
 |_,_=>false
theorem Hm{op:BinOp}{k k':IntKind}{a b:Int}{x:PV}(h:aI op k a k' b=some x):x.fits none=true:=by
 unfold aI at h;split at h
 ·split at h
  ·cases h
  ·cases h;rfl
 ·split at h
  ·cases h
  ·cases h;rfl
 ·split at h
  ·cases h
  ·split at h<;>first|(split at h<;>first|(cases h;rfl)|(cases h;done))|(cases h;rfl)|(cases h;done)
theorem HG{op:BinOp}{v w x:PV}(h:bin op v w=some x):x.fits none=true:=by
 unfold bin at h;split at h
 ·exact Hm h
 ·split at h<;>first|(cases h;rfl)|(split at h<;>first|(cases h;rfl)|(cases h;done))|(cases h;done)
 ·cases h
theorem wS{sz:Nat}{v i x:PV}(h:az sz v i=some x):x.fits none=true:=by
 unfold az at h;split at h
 ·split at h
  ·split at h
   ·cases h;rfl
   ·cases h
  ·split at h
   ·split at h
    ·split at h
     ·cases h;rfl
     ·cases h
    ·cases h
   ·cases h
  ·cases h
 ·cases h
theorem Gu{neg:Bool}{ks:List Bool}{v w x:PV}(h:rD neg ks v w=some x):x.fits none=true:=by
 unfold rD at h;split at h
 ·split at h
  ·cases h;rfl
  ·cases h
 ·cases h
theorem HK{env:Env}:∀{e:X}{sz:Option Nat}{x:PV},p9 sz e=true->e.ev env=some x->x.fits sz=true:=by
 intro e;induction e<;>intro sz x hf hx
 case ite c a b ihc iha ihb=>
  have hf':p9 sz a=true/\p9 sz b=true:=by cases sz<;>simpa[p9]using hf
  simp only[X.ev,ab]at hx;obtain⟨y,_,hx⟩:=hx;split at hx
  ·exact iha hf'.1 hx
  ·exact ihb hf'.2 hx
  ·cases hx
 case fld sz' a o iha=>
  have hf':sz=sz':=by cases sz<;>simpa[p9]using hf
  subst hf';simp only[X.ev,ab]at hx;obtain⟨y,_,hx⟩:=hx;unfold uw at hx;split at hx
  ·exact(mF hx).2
  ·cases hx
 case ld sz' a o iha=>
  have hf':sz=sz':=by cases sz<;>simpa[p9]using hf
  subst hf';simp only[X.ev,ab]at hx;obtain⟨y,_,hx⟩:=hx;unfold kG at hx;split at hx
  ·exact(mF hx).2
  ·cases hx
 case chk sz' a iha=>
  have hf':sz=sz':=by cases sz<;>simpa[p9]using hf
  subst hf';simp only[X.ev,ab]at hx;obtain⟨y,_,hx⟩:=hx;unfold Bz at hx;split at hx
  ·rename_i hc;cases hx;exact hc.1
  ·cases hx
 all_goals cases sz<;>simp only[p9,T4]at hf
 all_goals simp only[X.ev,ab,Ty]at hx
 all_goals first
  |(subst hx;rfl)
  |(obtain⟨y,_,z,_,hx⟩:=hx;first|exact HG hx|skip)
  |(obtain⟨y,_,hx⟩:=hx)
 case lst=>subst hx;rfl
 case toInt=>unfold oO at hx;split at hx<;>cases hx;rfl
 case eqs=>exact Gu hx
 case eqb=>unfold eqb at hx;split at hx<;>cases hx;rfl
 case len=>unfold bO at hx;split at hx<;>cases hx;rfl
 case lenS=>unfold o6 at hx;split at hx<;>cases hx;rfl
 case ia=>exact wS hx
 case fa=>
  unfold aU at hx;split at hx<;>cases hx<;>rfl
 case app=>
  unfold iO at hx;split at hx<;>try(cases hx;done)
  all_goals(split at hx<;>cases hx;rfl)
 case b2s=>
  unfold GZ at hx;split at hx
  ·simp only[Uc]at hx;obtain⟨l,_,rfl⟩:=hx;rfl
  ·cases hx
def tM(sz:Option Nat)(e:X):List X:=if p9 sz e then[]else[.chk sz e]
def cellsOf(sz:Option Nat)(a:AV):Option (List AV×List X):=
 match sz,a with
 |none,.F e=>some ([.F e],e::tM none e)
 |none,.N e=>some ([.N e],[])
 |none,.O fs w wr s e=>some ([.O fs w wr s e],[])
 |none,.P b o=>some ([.P b o],[])
 |none,.C f cs=>some ([.C f cs],[])
 |none,.L fs sz cs=>some ([.L fs sz cs],[])
 |some n,.F e=>some ((List.range n).map λj=>.F (.fld none e j),e::tM (some n) e)
 |some n,.A cs=>if cs.length=n then some (cs,[])else none
 |_,_=>none
theorem dt{env:Env}:∀{l m:List X},au env (l++m)=(au env l&&au env m)
 |[],m=>by simp[au]
 |x::l,m=>by simp[au,dt (l:=l),Bool.and_assoc]
theorem gg{env:Env}:∀{l:List X},au env l=true↔∀x∈l,(x.ev env).isSome=true
 |[]=>by simp[au]
 |x::l=>by simp[au,gg (l:=l)]
theorem sa{env:Env}{sz:Option Nat}{e:X}{v:PV}(hv:e.ev env=some (aP v))(hg:au env (tM sz e)=true)(hp:pl v=true):v.fits sz=true/\ak v.cells=true:=by
 unfold tM at hg;split at hg
 ·rename_i hf;have:=HK hf hv;rw[p4]at this;exact⟨this,t9 hp⟩
 ·simp only[au,Us,X.ev,hv,ac,Option.isSome_iff_exists]at hg;obtain⟨x,hx⟩:=hg;have:=MN hx;exact⟨this.1,this.2.1⟩
theorem RelL.len{c:Cx}{h:Heap}{env:Env}:∀{as:List AV}{vs:List PV},RelL c h env as vs->as.length=vs.length
 |[],[],_=>rfl
 |a::as,v::vs,R=>by simp[RelL.len R.2]
 |[],_::_,R=>by cases R
 |_::_,[],R=>by cases R
theorem RelL.get{c:Cx}{h:Heap}{env:Env}:∀{as:List AV}{vs:List PV},RelL c h env as vs->∀{i:Nat}{a:AV},as[i]?=some a->∃v,vs[i]?=some v/\Rel c h env a v
 |a::as,v::vs,R,0,b,H=>by simp only[TM,Ty]at H⊢;subst H;exact⟨v,rfl,R.1⟩
 |a::as,v::vs,R,i+1,b,H=>by simp only[Uw]at H⊢;exact RelL.get R.2 H
 |[],vs,_,i,b,H=>by simp at H
 |_::_,[],R,_,_,_=>by cases R
theorem RelL.of{c:Cx}{h:Heap}{env:Env}:∀{as:List AV}{vs:List PV},as.length=vs.length->(∀(i:Nat)(a:AV)(v:PV),as[i]?=some a->vs[i]?=some v->Rel c h env a v)->RelL c h env as vs
 |[],[],_,_=>trivial
 |a::as,v::vs,hl,H=>⟨H 0 a v rfl rfl,RelL.of (by simpa using hl) λi a' v' h1 h2=>H (i+1) a' v' (by simpa using h1) (by simpa using h2)⟩
 |[],_::_,hl,_=>by simp at hl
 |_::_,[],hl,_=>by simp at hl
theorem RelL.app{c:Cx}{h:Heap}{env:Env}:∀{as bs:List AV}{vs ws:List PV},RelL c h env as vs->RelL c h env bs ws->RelL c h env (as++bs) (vs++ws)
 |[],bs,[],ws,_,H=>H
 |a::as,bs,v::vs,ws,R,H=>⟨R.1,RelL.app R.2 H⟩
 |[],_,_::_,_,R,_=>by cases R
 |_::_,_,[],_,R,_=>by cases R
theorem RelL.drop{c:Cx}{h:Heap}{env:Env}:∀{as:List AV}{vs:List PV}(n:Nat),RelL c h env as vs->RelL c h env (as.drop n) (vs.drop n)
 |as,vs,0,R=>R
 |[],[],n+1,R=>trivial
 |a::as,v::vs,n+1,R=>RelL.drop n R.2
 |[],_::_,_+1,R=>by cases R
 |_::_,[],_+1,R=>by cases R
theorem RelL.take{c:Cx}{h:Heap}{env:Env}:∀{as:List AV}{vs:List PV}(n:Nat),RelL c h env as vs->RelL c h env (as.take n) (vs.take n)
 |as,vs,0,R=>trivial
 |[],[],n+1,R=>trivial
 |a::as,v::vs,n+1,R=>⟨R.1,RelL.take n R.2⟩
 |[],_::_,_+1,R=>by cases R
 |_::_,[],_+1,R=>by cases R
theorem oJ{c:Cx}{h:Heap}{env:Env}{sz:Option Nat}{a:AV}{v:PV}{cs:List AV}{ns:List X}(R:Rel c h env a v)(H:cellsOf sz a=some (cs,ns))(hg:au env ns=true):
  v.fits sz=true/\ak v.cells=true/\RelL c h env cs v.cells:=by
 have one:∀{w:PV},w.isCell=true->w.cells=[w]/\w.fits none=true/\ak w.cells=true:=by
  intro w hw;cases w<;>first|(simp[PV.isCell]at hw;done)|exact⟨rfl,rfl,rfl⟩
 unfold cellsOf at H;split at H<;>try(cases H;done)
 ·rename_i e;cases H;simp only[au,TA]at hg;obtain⟨h1,h2⟩:=sa R.2 hg.2 R.1;refine⟨h1,h2,?_⟩;have:v.cells=[v]:=by cases v<;>simp_all [PV.fits,PV.cells]
  rw[this];exact⟨R,trivial⟩
 ·cases H;have:v.isCell=true:=by rcases R.1 with rfl|rfl<;>rfl
  obtain⟨h1,h2,h3⟩:=one this;exact⟨h2,h3,by rw[h1];exact⟨R,trivial⟩⟩
 ·cases H;have:v.isCell=true:=by
   obtain⟨_,x,T,_⟩:=R;rcases T with⟨rfl|rfl,_⟩|⟨r,ver,off,len,room,c0,b,rfl,_⟩<;>rfl
  obtain⟨h1,h2,h3⟩:=one this;exact⟨h2,h3,by rw[h1];exact⟨R,trivial⟩⟩
 ·cases H;have:v.isCell=true:=by simp only[Rel]at R;subst R;rfl
  obtain⟨h1,h2,h3⟩:=one this;exact⟨h2,h3,by rw[h1];exact⟨R,trivial⟩⟩
 ·cases H;have:v.isCell=true:=by obtain⟨vs,rfl,_⟩:=R;rfl
  obtain⟨h1,h2,h3⟩:=one this;exact⟨h2,h3,by rw[h1];exact⟨R,trivial⟩⟩
 ·cases H;have:v.isCell=true:=by obtain⟨r,ver,vs,rfl,_⟩:=R;rfl
  obtain⟨h1,h2,h3⟩:=one this;exact⟨h2,h3,by rw[h1];exact⟨R,trivial⟩⟩
 ·rename_i n e;cases H;simp only[au,TA]at hg;obtain⟨h1,h2⟩:=sa R.2 hg.2 R.1;refine⟨h1,h2,?_⟩;obtain⟨vs,rfl,hl⟩:∃vs,v=.agg vs/\vs.length=n:=by
   cases v<;>simp_all [PV.fits]
  have hp:=R.1;simp only[pl,TA]at hp;refine RelL.of (by simp[PV.cells,hl]) λi a' v' ha hv=>?_;simp only[TR,Uc]at ha;obtain⟨j,hj,rfl⟩:=ha;have hlt:=getElem?_lt hj;rw[TD hlt]at hj;simp only[List.getElem_range,Ty]at hj;subst hj;simp only[PV.cells]at hv h2;refine⟨tP hp.2 hv,?_⟩;have hcell:=cY h2 hv;have:(aP v').fits none=true:=by
   rw[p4];cases v'<;>simp_all [PV.isCell,PV.fits]
  simp only[X.ev,R.2,ac,aP,uw,dU,bC,qA,hv,TT,this,TY]
 ·split at H
  ·rename_i n cs' hl;cases H;obtain⟨vs,rfl,h2,h3⟩:=R;exact⟨by simp[PV.fits,<-hl,h3.len],h2,h3⟩
  ·cases H
abbrev PR:=Option (AV×List X×List Nat)
def gU(e:X):PR:=some (.F e,[e],[])
def Abs.bnd(a:Abs):Option PO->Option X
 |none=>some .nl
 |some p=>a.fo p
def Abs.parts(a:Abs):List AV->List (Nat×Option Nat×PO)->Option (List AV×List X)
 |cs,[]=>some (cs,[])
 | cs,(off,sz,x)::ps=>af (a.po x) λav=>af (cellsOf sz av) λln=>
   if off+ln.1.length<=cs.length then af (a.parts (cs.take off++ln.1++cs.drop (off+ln.1.length)) ps) λr=>some (r.1,ln.2++r.2)else none
def db(a:Abs):IOp->PR
 |.mov x=>af (a.po x) λav=>some (av,[],[])
 |.pick c x y=>af (a.fo c) λc'=>af (a.po x) λxv=>af (RC c' true xv) λx'=>af (a.po y) λyv=>af (RC c' false yv) λy'=>gU (.ite c' x' y')
 |.build zero parts=>if ak zero then af (x8 zero) λz=>af (a.parts z parts) λr=>some (.A r.1,r.2,[])else none
 | .load sz x=>af (a.po x) λxv=>match xv with
   | .P b o=>af (a.box b) λbx=>match sz with
     |none=>af bx.cs[o]? λav=>match av with|.D=>none|av=>some (av,[],bx.fs)
     |some n=>if o+n<=bx.cs.length then some (.A ((bx.cs.drop o).take n),[],bx.fs)else none
   |.F e=>gU (.ld sz e 0)
   |.EP fs _ _ s e i o=>some (.F (.ld sz (.ia s e i) o),[.ld sz (.ia s e i) o],fs)
   |_=>none
 | .nilchk x=>af (a.po x) λxv=>match xv with
   |.P b o=>some (.P b o,[],[])
   |.F e=>some (.F e,[.nck e],[])
   |.EP fs w wr s e i o=>some (.EP fs w wr s e i o,[],[])
   |.C f cs=>some (.C f cs,[],[])
   |.Q fs e=>some (.Q fs e,[],[])
   |_=>none
 |.bin op x y=>af (a.fo x) λx'=>af (a.fo y) λy'=>gU (.bin op x' y')
 |.eqs neg ks x y=>af (a.fo x) λx'=>af (a.fo y) λy'=>gU (.eqs neg ks x' y')
 |.eqb neg x y=>af (a.fo x) λx'=>af (a.fo y) λy'=>gU (.eqb neg x' y')
 |.eqn k neg x y=>af (a.fo x) λx'=>af (a.fo y) λy'=>gU (.eqn k neg x' y')
 |.un op x=>af (a.fo x) λx'=>gU (.un op x')
 |.toInt k x=>af (a.fo x) λx'=>gU (.toInt k x')
 | .b2s x=>af (a.po x) λxv=>match xv with
   |.O fs _ _ _ e=>some (.F (.b2s e),[.b2s e],fs)
   |xv=>af (fx xv) λe=>gU (.b2s e)
 | .slice sz x lo hi mx=>af (a.bnd lo) λl=>af (a.bnd hi) λh=>af (a.bnd mx) λm=>af (a.po x) λxv=>match xv with
   |.N e=>some (.N (.slice sz e l h m),[.slice sz e l h m],[])
   |xv=>af (fx xv) λe=>if(l=.nl∨l=.int .i64 0)/\h=.int .i64 0/\m=.int .i64 0/\sz≠0 then some (.N (.slice sz e l h m),[.slice sz e l h m],[])else gU (.slice sz e l h m)
 | .fieldAddr x off=>af (a.po x) λxv=>match xv with
   |.P b o=>some (.P b (o+off),[],[])
   |.F e=>gU (.fa e off)
   |.EP fs w wr s e i o=>some (.EP fs w wr s e i (o+off),[],[])
   |_=>none
 | .field sz x off=>af (a.po x) λxv=>match xv with
   | .A cs=>(match sz with
     |none=>af cs[off]? λav=>match av with|.D=>none|av=>some (av,[],[])
     |some n=>if off+n<=cs.length then some (.A ((cs.drop off).take n),[],[])else none)
   |xv=>af (fx xv) λe=>gU (.fld sz e off)
 | .indexAddr sz x i=>af (a.fo i) λi'=>af (a.po x) λxv=>match xv with
   |.O fs w wr s e=>if s=sz then some (.EP fs w wr s e i' 0,[.ia sz e i'],[])else none
   |xv=>af (fx xv) λe=>gU (.ia sz e i')
 |.idxArr n sz x i=>af (a.fo x) λx'=>af (a.fo i) λi'=>gU (.iaa n sz x' i')
 | .extract x i=>af (a.po x) λxv=>match xv with
   |.T cs=>af cs[i]? λav=>match av with|.D=>none|av=>some (av,[],[])
   |_=>none
 |.mkfn f caps=>if caps.isEmpty then gU (.fn f .nl)else af (a.pos caps) λcs=>some (.C f cs,[],[])
 | .len x=>af (a.po x) λxv=>match xv with
   |.O _ _ _ _ e=>gU (.len e)
   |xv=>af (fx xv) λe=>gU (.len e)
 |.lenS x=>af (a.fo x) λe=>gU (.lenS e)
 |.mm b xs=>af (a.fos xs) λl=>gU (.mm b l)
 | .same x=>af (a.po x) λxv=>match xv with
   |.O fs w true s e=>if s=1 then some (.O fs w true s e,[.pos e],fs)else none
   |_=>none
 |_=>none
def Nb(c:Cx)(fs:List Nat)(R:List ax):Prop:=∀r∈R,r≠ .dead/\c.nm r∈fs
theorem dp(c:Cx)(fs:List Nat):Nb c fs []:=λ_ h=>by cases h
theorem bQ{h:Heap}{r:ax}{e:fX}(hg:h.get r=some e):r≠ .dead:=by rintro rfl;simp[Heap.get]at hg
section
variable{I:Inv}{c:Cx}{a:Abs}{env:Env}{σ:St}
theorem Abs.bnd_ok(S:Sim I c a env σ){x:Option PO}{e:X}{y:PV}{o:Option PV}(H:a.bnd x=some e)(hy:e.ev env=some y)(ho:kk y=some o):wJ (PO.ev σ.fr) x=o:=by
 cases x with
 |none=>
  cases H;simp only[X.ev,Ty]at hy;subst hy;simp only[kk,Ty]at ho;exact ho
 | some p=>
  have:=Abs.fo_ok S H;rw[this.2]at hy;cases hy;simp only[wJ];rcases LF ho with⟨h1,_⟩|⟨k,n,h1,h2⟩
  ·obtain⟨l,h3,_⟩:=FP h1;rw[h3]at this;simp[pl]at this
  ·rw[h2,fj h1];simp[aP]
theorem Abs.parts_ok(S:Sim I c a env σ):∀{ps:List (Nat×Option Nat×PO)}{cs:List AV}{vs:List PV}{r:List AV×List X},a.parts cs ps=some r->RelL c σ.h env cs vs->ak vs=true->au env r.2=true->
  ∃ws,mi vs (nC (PO.ev σ.fr) ps)=some ws/\RelL c σ.h env r.1 ws/\ak ws=true
 |[],cs,vs,r,H,R,ho,hg=>by cases H;exact⟨vs,rfl,R,ho⟩
 | (off,sz,x)::ps,cs,vs,r,H,R,ho,hg=>by
  simp only[Abs.parts,ab]at H;obtain⟨av,h1,ln,h2,H⟩:=H;split at H
  ·rename_i hle;simp only[ab]at H;obtain⟨r',h3,h4⟩:=H;cases h4;simp only[dt,TA]at hg;obtain⟨k1,k2,k3⟩:=oJ (Abs.po_ok S h1) h2 hg.1;have hl:=k3.len;obtain⟨ws,q1,q2,q3⟩:=Abs.parts_ok S (vs:=vs.take off++(x.ev σ.fr).cells++vs.drop (off+(x.ev σ.fr).cells.length)) h3 (((R.take off).app k3).app (by rw[<-hl];exact R.drop _))
    (by simp only[qm,gP ho,k2,fb ho,Ub]) hg.2
   refine⟨ws,?_,q2,q3⟩;simp only[nC,mi];rw[TB ⟨k1,by rw[<-hl,<-R.len];exact hle⟩];exact q1
  ·cases H
def PureOk(c:Cx)(h:Heap)(env:Env)(m:HM PV)(r:AV×List X×List Nat):Prop:=
 ∃v R,m.runT h=some (v,h,R,[])/\Rel c h env r.1 v/\Nb c r.2.2 R
theorem PureOk.ret{m:HM PV}{e:X}{v:PV}{r:AV×List X×List Nat}(H:gU e=some r)(hm:m=.ret v)(hp:pl v=true)(he:e.ev env=some (aP v)){h:Heap}:PureOk c h env m r:=by
 cases H;subst hm;exact⟨v,[],rfl,⟨hp,he⟩,dp _ _⟩
theorem PureOk.im{o:Option PV}{m:HM PV}{e:X}{x:PV}{r:AV×List X×List Nat}(H:gU e=some r)(hm:m=HM.ofO o)(he:e.ev env=some x)(hi:Hc o x){h:Heap}:PureOk c h env m r:=by
 obtain⟨v,hv,hp,hn⟩:=hi;exact PureOk.ret H (by rw[hm,hv];rfl) hp (by rw[he,hn])
theorem jz{e:X}{r:AV×List X×List Nat}(H:gU e=some r)(hg:au env r.2.1=true):∃x,e.ev env=some x:=by
 cases H;simp only[au,Us]at hg;exact Option.isSome_iff_exists.1 hg
theorem TokAt.b2s{Pr:ax->Prop}{h:Heap}{sz:Nat}{r:ax}{ver off len room:Nat}{c0:Bool}{b:Blk}{v x:PV}(T:TokAt Pr h sz r ver off len room c0 b v x):
  ∃R,(elems v).runT h=some ((b.es.drop off).take len,h,R,[])/\∀r'∈R,r'=r:=by
 obtain⟨rfl,_,hg,hs,ho,_,_,_,_⟩:=T;simp only[elems];split
 ·rename_i h0;subst h0;exact⟨[],by simp[HM.runT],λ_ h=>by cases h⟩
 ·refine⟨[r],?_,λr' h=>by simpa using h⟩;have h2:(if off+len<=b.es.length/\b.sz=sz then HM.ret (List.take len (List.drop off b.es))else HM.fail).runT h=some ((b.es.drop off).take len,h,[],[]):=by
   rw[TB ⟨ho,hs⟩];rfl
  exact HM.runT_bind_of (bc hg) h2
theorem B7{v:PV}(h:rH v):elems v=.ret []:=by rcases h with rfl|rfl<;>rfl
theorem TokOk.elems{Pr:ax->Prop}{h:Heap}{sz:Nat}{v x:PV}(T:TokOk Pr h sz v x):∃es R,(elems v).runT h=some (es,h,R,[])/\cg es=true/\x=.lst (aF es) false/\(∀e∈es,e.cells.length=sz)/\∀r∈R,r≠ .dead/\Pr r:=by
 rcases T with⟨h1,h2⟩|⟨r,ver,off,len,room,c0,b,T⟩
 ·exact⟨[],[],by rw[B7 h1];rfl,rfl,h2,(λ_ h=>by cases h),(λ_ h=>by cases h)⟩
 ·obtain⟨R,h1,h2⟩:=T.b2s;obtain⟨rfl,hp,hg,hs,ho,_,hpl,hc,hx⟩:=T;refine⟨_,R,h1,dJ (dw hpl _) _,hx,λe he=>hc e (UH (UI he)),λr' hr=>?_⟩;rw[h2 r' hr];exact⟨bQ hg,hp⟩
theorem By(RO:Nat->List Bool)(C:cW)(S:Sim I c a env σ){op:IOp}{r:AV×List X×List Nat}(H:db a op=some r)(hg:au env r.2.1=true):PureOk c σ.h env (iA RO C (PO.ev σ.fr) op) r:=by
 cases op with
 |mov x=>
  simp only[db,ab]at H;obtain⟨av,h1,h2⟩:=H;cases h2;exact⟨_,[],rfl,Abs.po_ok S h1,dp _ _⟩
 | pick cc x y=>
  simp only[db,ab]at H;obtain⟨c',h1,xv,h2,x',h3,yv,h4,y',h5,H⟩:=H;obtain⟨z,hz⟩:=jz H hg;have hc:=Abs.fo_ok S h1;simp only[X.ev,ab]at hz;obtain⟨w,hw,hz⟩:=hz;have hw':=hw;rw[hc.2]at hw;simp only[Ty]at hw;split at hz
  ·have:=hU hw;have hx:=IH hw' (Abs.po_ok S h2) h3;refine PureOk.ret H (v:=x.ev σ.fr) ?_ hx.1 ?_
   ·simp only[iA,this,uG]
   ·simp only[X.ev,hw',ac];exact hx.2
  ·have:=hU hw;have hx:=IH hw' (Abs.po_ok S h4) h5;refine PureOk.ret H (v:=y.ev σ.fr) ?_ hx.1 ?_
   ·simp only[iA,this,uG]
   ·simp only[X.ev,hw',ac];exact hx.2
  ·cases hz
 | build zero parts=>
  simp only[db]at H;split at H
  ·rename_i hz;simp only[ab]at H;obtain⟨z,h1,q,h2,h3⟩:=H;cases h3;obtain⟨ws,k1,k2,k3⟩:=Abs.parts_ok S h2 (uq c σ.h env h1) hz hg;exact⟨.agg ws,[],by simp only[iA,wk,k1];rfl,⟨ws,rfl,k3,k2⟩,dp _ _⟩
  ·cases H
 | load sz x=>
  simp only[db,ab]at H;obtain⟨xv,h1,H⟩:=H;have R:=Abs.po_ok S h1;split at H
  ·rename_i b o;simp only[ab]at H;obtain⟨bx,hb,H⟩:=H;obtain⟨hid,n,e,ro,hn,hget,hro,hok,hR⟩:=Abs.box_ok S hb;simp only[Rel]at R;rw[hid]at hn hget;have hl:∀{v:PV},bC e.cells o sz=some v->(iA RO C (PO.ev σ.fr) (.load sz x)).runT σ.h=some (v,σ.h,[(c.be b).1],[]):=by
    intro v hv;simp only[iA,R,gj];refine HM.runT_bind_of (R:=[(c.be b).1]) (R2:=[]) (W:=[]) (W2:=[]) (bc hget) ?_;simp[hv,HM.ofO,HM.runT]
   have hrd:Nb c bx.fs [(c.be b).1]:=λr hr=>by
    simp only[T1]at hr;subst hr;exact⟨bQ hget,hn⟩
   split at H
   ·simp only[ab]at H;obtain⟨av,hav,H⟩:=H;obtain⟨v,hv,hR'⟩:=hR.get hav;split at H
    ·cases H
    ·cases H;exact⟨v,_,hl hv,hR',hrd⟩
   ·split at H
    ·rename_i m hm;cases H;rw[hR.len]at hm;refine⟨.agg ((e.cells.drop o).take m),_,hl (by simp only[bC,TB hm]),⟨_,rfl,gP (fb hok _) _,(hR.drop o).take m⟩,hrd⟩
    ·cases H
  ·rename_i e;obtain⟨z,hz⟩:=jz H hg;have hz':=hz;simp only[X.ev,ab]at hz;obtain⟨y,hy,hz⟩:=hz;rw[R.2]at hy;cases hy;obtain⟨l,w,k1,k2,k3,k4⟩:=ON R.1 hz;refine PureOk.ret H (v:=w) ?_ k3 (by rw[hz',k4]);simp only[iA,k1,gj,k2];rfl
  ·rename_i fs w wr s e i o;cases H;simp only[au,Us]at hg;obtain⟨z,hz⟩:=Option.isSome_iff_exists.1 hg;have hz':=hz;simp only[Rel,DJ]at R;obtain⟨r,ver,off,len,room,c0,b,x',k,n,T,he,hw,hi,hn0,hn1,hv⟩:=R;obtain⟨hT,hnm,hget,hs,ho,hr,hpl,hc,hx'⟩:=T;simp only[X.ev,he,hi,ac,hx',ab]at hz;obtain⟨y,hy,hz⟩:=hz;have hlen:(aF (List.take len (List.drop off b.es))).length=len:=by
    rw[aS,T7,Ur];omega
   simp only[az,hlen]at hy;rw[TB ⟨hn0,hn1⟩]at hy;have hnn:n.toNat<len:=by omega
   have hidx:(List.take len (List.drop off b.es))[n.toNat]?=b.es[off+n.toNat]?:=by
    rw[Ui,TB hnn,Uf]
   rw[qA,hidx]at hy;cases hel:b.es[off+n.toNat]? with
   |none=>rw[hel]at hy;cases hy
   | some el=>
    rw[hel]at hy;simp only[TT]at hy;split at hy
    ·cases hy;have hpe:=tP hpl hel;simp only[kG,iZ]at hz;obtain⟨w',k1,k2,k3⟩:=ye (nS hpe) (t9 hpe) (mF hz).1;refine⟨w',[r],?_,⟨k2,by rw[hz',k3]⟩,λr' hr'=>?_⟩
     ·simp only[iA,hv,gj];refine HM.runT_bind_of (R:=[r]) (R2:=[]) (W:=[]) (W2:=[]) (bc hget) ?_;simp[hel,k1,HM.ofO,HM.runT]
     ·simp only[T1]at hr';subst hr';exact⟨bQ hget,hnm⟩
    ·cases hy
  ·cases H
 | nilchk x=>
  simp only[db,ab]at H;obtain⟨xv,h1,H⟩:=H;have R:=Abs.po_ok S h1;split at H
  ·cases H;refine⟨x.ev σ.fr,[],?_,R,dp _ _⟩;simp only[Rel]at R;simp only[iA,R,fA];rfl
  ·rename_i e;cases H;simp only[au,Us]at hg;obtain⟨z,hz⟩:=Option.isSome_iff_exists.1 hg;simp only[X.ev,R.2,ac]at hz;have:=Oa R.1 hz;exact⟨x.ev σ.fr,[],by simp only[iA,this.1];rfl,R,dp _ _⟩
  ·cases H;refine⟨x.ev σ.fr,[],?_,R,dp _ _⟩;simp only[Rel,DJ]at R;obtain⟨r,ver,off,len,room,c0,b,x',k,n,T,he,hw,hi,hn0,hn1,hv⟩:=R;simp only[iA,hv,fA];rfl
  ·cases H;refine⟨x.ev σ.fr,[],?_,R,dp _ _⟩;obtain⟨vs,hv,_⟩:=R;simp only[iA,hv,fA];rfl
  ·cases H;refine⟨x.ev σ.fr,[],?_,R,dp _ _⟩;obtain⟨f,vs,xs,hv,_⟩:=R;simp only[iA,hv,fA];rfl
  ·cases H
 |bin op x y=>
  simp only[db,ab]at H;obtain⟨x',h1,y',h2,H⟩:=H;obtain⟨z,hz⟩:=jz H hg;have hx:=Abs.fo_ok S h1;have hy:=Abs.fo_ok S h2;refine PureOk.im H rfl hz (Mw ?_);simpa only[X.ev,hx.2,hy.2,ac]using hz
 |eqs neg ks x y=>
  simp only[db,ab]at H;obtain⟨x',h1,y',h2,H⟩:=H;obtain⟨z,hz⟩:=jz H hg;have hx:=Abs.fo_ok S h1;have hy:=Abs.fo_ok S h2;have:=ND (v:=x.ev σ.fr) (w:=y.ev σ.fr) (by simpa only[X.ev,hx.2,hy.2,ac]using hz);exact PureOk.ret H this.1 this.2.1 (by rw[hz,this.2.2])
 |eqb neg x y=>
  simp only[db,ab]at H;obtain⟨x',h1,y',h2,H⟩:=H;obtain⟨z,hz⟩:=jz H hg;have hx:=Abs.fo_ok S h1;have hy:=Abs.fo_ok S h2;refine PureOk.im H rfl hz (Nq ?_);simpa only[X.ev,hx.2,hy.2,ac]using hz
 | eqn k neg x y=>
  simp only[db,ab]at H;obtain⟨x',h1,y',h2,H⟩:=H;obtain⟨z,hz⟩:=jz H hg;have hx:=Abs.fo_ok S h1;have hy:=Abs.fo_ok S h2;have hz':=hz;simp only[X.ev,hx.2,hy.2,ac]at hz;split at hz
  ·cases hz
  ·rename_i hk;exact PureOk.im H rfl hz' (NQ hx.1 hy.1 hk hz)
 |un op x=>
  simp only[db,ab]at H;obtain⟨x',h1,H⟩:=H;obtain⟨z,hz⟩:=jz H hg;have hx:=Abs.fo_ok S h1;refine PureOk.im H rfl hz (OB ?_);simpa only[X.ev,hx.2,ac]using hz
 |toInt k x=>
  simp only[db,ab]at H;obtain⟨x',h1,H⟩:=H;obtain⟨z,hz⟩:=jz H hg;have hx:=Abs.fo_ok S h1;have:=H7 (v:=x.ev σ.fr) (by simpa only[X.ev,hx.2,ac]using hz);exact PureOk.ret H this.1 this.2.1 (by rw[hz,this.2.2])
 | b2s x=>
  simp only[db,ab]at H;obtain⟨xv,h1,H⟩:=H;have R:=Abs.po_ok S h1;split at H
  ·rename_i fs w wr s e;cases H;simp only[au,Us]at hg;obtain⟨z,hz⟩:=Option.isSome_iff_exists.1 hg;have hz':=hz;obtain⟨hv,x',T,he,_⟩:=R;obtain⟨es,Rr,k1,k2,k3,_,k4⟩:=T.elems;simp only[X.ev,he,ac,k3,GZ,Uc]at hz;obtain⟨l,hl,rfl⟩:=hz;refine⟨.str l,Rr++[],?_,⟨rfl,by rw[hz'];rfl⟩,by rw[T6];exact k4⟩;have hns:(x.ev σ.fr).isStr=false:=by
    rcases T with⟨hq|hq,_⟩|⟨r,ver,off,len,room,c0,b,hq,_⟩<;>rw[hq]<;>rfl
   simp only[iA,zN,hns,T4,TU];refine HM.runT_bind_of (R2:=[]) (W:=[]) (W2:=[]) k1 ?_;rw[sH hl];rfl
  ·simp only[ab]at H;obtain⟨e,h2,H⟩:=H;obtain⟨z,hz⟩:=jz H hg;have hx:=mS R h2;have:=NN (v:=x.ev σ.fr) (by simpa only[X.ev,hx.2,ac]using hz);exact PureOk.ret H this.1 this.2.1 (by rw[hz,this.2.2])
 | slice sz x lo hi mx=>
  simp only[db,ab]at H;obtain⟨l,hl,h',hh,m,hm,xv,h1,H⟩:=H;have R:=Abs.po_ok S h1;have key:∀{e:X}{z:PV},pl (x.ev σ.fr)=true->e.ev env=some (aP (x.ev σ.fr))->(X.slice sz e l h' m).ev env=some z->Hc (dd sz (x.ev σ.fr) (wJ (PO.ev σ.fr) lo) (wJ (PO.ev σ.fr) hi) (wJ (PO.ev σ.fr) mx)) z:=by
   intro e z hp he hz;simp only[X.ev,he,ac,ab]at hz;obtain⟨lv,hlv,hv,hhv,mv,hmv,hz⟩:=hz;have hz':=hz;unfold cj at hz;cases e1:kk lv<;>rw[e1]at hz<;>try(cases hz;done)
   cases e2:kk hv<;>rw[e2]at hz<;>try(cases hz;done)
   cases e3:kk mv<;>rw[e3]at hz<;>try(cases hz;done)
   rw[Abs.bnd_ok S hl hlv e1,Abs.bnd_ok S hh hhv e2,Abs.bnd_ok S hm hmv e3];exact Cf hp e1 e2 e3 hz'
  split at H
  ·rename_i e;cases H;simp only[au,Us]at hg;obtain⟨z,hz⟩:=Option.isSome_iff_exists.1 hg;have hp:=jr R.1;obtain⟨v,k1,k2,k3⟩:=key hp.1 (by rw[hp.2];exact R.2) hz;have hnil:rH v/\aP v=.lst [] false:=by
    rcases R.1 with hq|hq
    ·rw[hq]at k1;simp only[dd]at k1;split at k1
     ·simp only[gM]at k1;split at k1
      ·cases k1
      ·unfold lV at k1;split at k1
       ·split at k1
        ·cases k1;exact⟨.inl rfl,rfl⟩
        ·cases k1
       ·cases k1
     ·cases k1
    ·rw[ hq]at k1;simp only[dd]at k1;split at k1
     ·simp only[gM]at k1;split at k1
      ·cases k1
      ·rename_i hmx;unfold cF at k1;split at k1
       ·rename_i q1 q2 q3;split at k1
        ·rename_i hb;simp only[Um]at hb;cases k1;refine⟨.inr ?_,by simp[aP,aF]⟩;split
         ·simp;omega
         ·simp
        ·cases k1
       ·cases k1
     ·cases k1
   refine⟨v,[],?_,⟨hnil.1,?_⟩,dp _ _⟩
   ·simp only[iA,k1];rfl
   ·rw[hz,<-k3,hnil.2]
  ·simp only[ab]at H;obtain⟨e,h2,H⟩:=H;have hx:=mS R h2;split at H
   ·rename_i hzero;cases H;simp only[au,Us]at hg;obtain⟨z,hz⟩:=Option.isSome_iff_exists.1 hg;obtain⟨v,k1,k2,k3⟩:=key hx.1 hx.2 hz;obtain⟨z1,z2,z3,z4⟩:=hzero;have e1:wJ (PO.ev σ.fr) lo=none∨wJ (PO.ev σ.fr) lo=some (.int .i64 0):=by
     rcases z1 with rfl|rfl
     ·exact .inl (Abs.bnd_ok S hl rfl rfl)
     ·exact .inr (Abs.bnd_ok S hl rfl rfl)
    have e2:wJ (PO.ev σ.fr) hi=some (.int .i64 0):=by subst z2;exact Abs.bnd_ok S hh rfl rfl
    have e3:wJ (PO.ev σ.fr) mx=some (.int .i64 0):=by subst z3;exact Abs.bnd_ok S hm rfl rfl
    rw[e2,e3]at k1;have hlo:aO 0 (wJ (PO.ev σ.fr) lo)=some 0:=by rcases e1 with e1|e1<;>rw[e1]<;>rfl
    have hnil:rH v/\aP v=.lst [] false:=by
     simp only[dd]at k1;split at k1
     ·rename_i hs;have hns:(x.ev σ.fr).isStr=false:=by
       cases hq:(x.ev σ.fr).isStr with
       |false=>rfl
       |true=>rw[hq]at hs;exact absurd (by simpa using hs.symm) z4
      unfold gM at k1;simp only[UL,Option.isNone_some,VD,T4,TU]at k1;split at k1
      ·unfold lV at k1;split at k1
       ·split at k1
        ·cases k1;exact⟨.inl rfl,rfl⟩
        ·cases k1
       ·cases k1
      ·rename_i hq;rw[hq]at hns;simp[PV.isStr]at hns
      ·rename_i es c0 hq;unfold cF at k1;have e4:aO es.length (some (PV.int .i64 0))=some 0:=rfl;rw[hlo,e4]at k1;simp only at k1;split at k1
       ·cases k1;exact⟨.inr (by simp),by simp[aP,aF]⟩
       ·cases k1
      ·rename_i hq;rw[hq]at hx;simp[pl]at hx
      ·cases k1
     ·cases k1
    refine⟨v,[],?_,⟨hnil.1,?_⟩,dp _ _⟩
    ·simp only[iA,e2,e3,k1];rfl
    ·rw[hz,<-k3,hnil.2]
   ·obtain⟨z,hz⟩:=jz H hg;exact PureOk.im H rfl hz (key hx.1 hx.2 hz)
 | fieldAddr x off=>
  simp only[db,ab]at H;obtain⟨xv,h1,H⟩:=H;have R:=Abs.po_ok S h1;split at H
  ·cases H;simp only[Rel]at R;exact⟨_,[],by simp only[iA,R,aU,HM.ofO];rfl,rfl,dp _ _⟩
  ·rename_i e;obtain⟨z,hz⟩:=jz H hg;exact PureOk.im H rfl hz (Mj R.1 (by simpa only[X.ev,R.2,ac]using hz))
  ·cases H;simp only[Rel,DJ]at R;obtain⟨r,ver,o,len,room,c0,b,x',k,n,T,he,hw,hi,hn0,hn1,hv⟩:=R;exact⟨_,[],by simp only[iA,hv,aU,HM.ofO];rfl,⟨r,ver,o,len,room,c0,b,x',k,n,T,he,hw,hi,hn0,hn1,rfl⟩,dp _ _⟩
  ·cases H
 | field sz x off=>
  simp only[db,ab]at H;obtain⟨xv,h1,H⟩:=H;have R:=Abs.po_ok S h1;split at H
  ·obtain⟨vs,hv,hok,hR⟩:=R;split at H
   ·simp only[ab]at H;obtain⟨av,hav,H⟩:=H;obtain⟨v,hv',hR'⟩:=hR.get hav;split at H
    ·cases H
    ·cases H;exact⟨v,[],by simp only[iA,hv,pe,bC,hv'];rfl,hR',dp _ _⟩
   ·split at H
    ·rename_i m hm;cases H;rw[hR.len]at hm;exact⟨.agg ((vs.drop off).take m),[],by simp only[iA,hv,pe,bC,TB hm];rfl,⟨_,rfl,gP (fb hok _) _,(hR.drop off).take m⟩,dp _ _⟩
    ·cases H
  ·simp only[ab]at H;obtain⟨e,h2,H⟩:=H;have hx:=mS R h2;obtain⟨z,hz⟩:=jz H hg;obtain⟨w,k1,k2,k3⟩:=M8 hx.1 (by simpa only[X.ev,hx.2,ac]using hz);exact PureOk.ret H k1 k2 (by rw[hz,k3])
 | indexAddr sz x i=>
  simp only[db,ab]at H;obtain⟨i',hi,xv,h1,H⟩:=H;have R:=Abs.po_ok S h1;have hi':=Abs.fo_ok S hi;split at H
  ·rename_i fs w wr s e;split at H
   ·rename_i hs;subst hs;cases H;simp only[au,Us]at hg;obtain⟨z,hz⟩:=Option.isSome_iff_exists.1 hg;obtain⟨hv,x',T,he,hwr⟩:=R;simp only[X.ev,he,hi'.2,ac]at hz;rcases T with⟨_,hx'⟩|⟨r,ver,off,len,room,c0,b,T⟩
    ·subst hx';cases hq:aP (i.ev σ.fr)<;>rw[hq]at hz<;>simp[az]at hz
    ·have T':=T;obtain⟨hT,hnm,hget,hs',ho,hr,hpl,hc,hx'⟩:=T;cases hq:aP (i.ev σ.fr)<;>rw[hq]at hz<;>try(simp[az]at hz;done)
     rename_i k n;have hi2:=fj hq;have hlen:(aF (List.take len (List.drop off b.es))).length=len:=by
      rw[aS,T7,Ur];omega
     rw[hx']at hz;simp only[az,hlen]at hz;split at hz
     ·rename_i hb;refine⟨.ptr r ver (off+n.toNat) 0,[],?_,⟨r,ver,off,len,room,c0,b,x',k,n,by rw[<-hv];exact T',he,λh=>by rw[<-hv];exact hwr h,by rw[hi'.2,hq],hb.1,hb.2,rfl⟩,dp _ _⟩;simp only[iA,hT,hi2,az];rw[TB ⟨trivial,hb.1,hb.2⟩];rfl
     ·cases hz
   ·cases H
  ·simp only[ab]at H;obtain⟨e,h2,H⟩:=H;have hx:=mS R h2;obtain⟨z,hz⟩:=jz H hg;exact PureOk.im H rfl hz (OX hx.1 (by simpa only[X.ev,hx.2,hi'.2,ac]using hz))
 |idxArr n sz x i=>
  simp only[db,ab]at H;obtain⟨x',h1,y',h2,H⟩:=H;obtain⟨z,hz⟩:=jz H hg;have hx:=Abs.fo_ok S h1;have hy:=Abs.fo_ok S h2;refine PureOk.im H rfl hz (MR hx.1 ?_);simpa only[X.ev,hx.2,hy.2,ac]using hz
 | extract x i=>
  simp only[db,ab]at H;obtain⟨xv,h1,H⟩:=H;have R:=Abs.po_ok S h1;split at H
  ·simp only[ab]at H;obtain⟨av,hav,H⟩:=H;obtain⟨vs,hv,hR⟩:=R;obtain⟨v,hv',hR'⟩:=hR.get hav;split at H
   ·cases H
   ·cases H;exact⟨v,[],by simp only[iA,hv,qX,hv'];rfl,hR',dp _ _⟩
  ·cases H
 | mkfn f caps=>
  simp only[db]at H;split at H
  ·rename_i hc;simp only[UU]at hc;subst hc;exact PureOk.ret H (v:=.fn f []) rfl rfl rfl
  ·simp only[ab]at H;obtain⟨cs,h1,h2⟩:=H;cases h2;exact⟨_,[],rfl,⟨_,rfl,Abs.pos_ok S h1⟩,dp _ _⟩
 | len x=>
  simp only[db,ab]at H;obtain⟨xv,h1,H⟩:=H;have R:=Abs.po_ok S h1;split at H
  ·rename_i fs w wr s e;obtain⟨z,hz⟩:=jz H hg;obtain⟨hv,x',T,he,_⟩:=R;have hz':=hz;simp only[X.ev,he,ac]at hz;rcases T with⟨hn,hx'⟩|⟨r,ver,off,len,room,c0,b,hT,hnm,hget,hs',ho,hr,hpl,hc,hx'⟩
   ·subst hx';simp only[bO,Ty]at hz;subst hz;refine PureOk.ret H (v:=.int .i64 0) ?_ rfl (by rw[hz'];rfl);rcases hn with hq|hq<;>simp only[iA,hq,tn,HM.ofO,Um]<;>rfl
   ·subst hx';have hlen:(aF (List.take len (List.drop off b.es))).length=len:=by
     rw[aS,T7,Ur];omega
    simp only[bO,Ty,hlen]at hz;subst hz;refine PureOk.ret H (v:=.int .i64 len) ?_ rfl (by rw[hz'];rfl);simp only[iA,hT,tn,HM.ofO]
  ·simp only[ab]at H;obtain⟨e,h2,H⟩:=H;have hx:=mS R h2;obtain⟨z,hz⟩:=jz H hg;exact PureOk.im H rfl hz (NC (by simpa only[X.ev,hx.2,ac]using hz))
 |lenS x=>
  simp only[db,ab]at H;obtain⟨x',h1,H⟩:=H;obtain⟨z,hz⟩:=jz H hg;have hx:=Abs.fo_ok S h1;refine PureOk.im H rfl hz (Kw ?_);simpa only[X.ev,hx.2,ac]using hz
 | mm b xs=>
  simp only[db,ab]at H;obtain⟨l,h1,H⟩:=H;obtain⟨z,hz⟩:=jz H hg;have hx:=Abs.fos_ok S h1;have hz':=hz;simp only[X.ev,hx.2,ac,bZ]at hz;rcases QS hx.1 hz with⟨k1,k2,k3⟩|⟨v,k1,k2,k3⟩
  ·exact PureOk.ret H k1 k2 (by rw[hz',k3])
  ·have hpv:pl v=true:=by have:=hx.1;rw[k1]at this;simp only[cg,Us]at this;exact this
   exact PureOk.ret H (v:=v) k3 hpv (by rw[hz',k2])
 | same x=>
  simp only[db,ab]at H;obtain⟨xv,h1,H⟩:=H;have R:=Abs.po_ok S h1;split at H
  ·rename_i fs w s e;split at H
   case isFalse=>cases H
   rename_i hs1;cases H;simp only[au,Us]at hg;obtain⟨z,hz⟩:=Option.isSome_iff_exists.1 hg;have R':=R;obtain⟨hv,x',T,he,hwr⟩:=R;simp only[X.ev,he,ac]at hz;rcases T with⟨hn,hx'⟩|⟨r,ver,off,len,room,c0,b,hT,hnm,hget,hs',ho,hr,hpl,hc,hx'⟩
   ·subst hx';simp[IP]at hz
   ·have hlen:(aF (List.take len (List.drop off b.es))).length=len:=by
     rw[aS,T7,Ur];omega
    have hpos:0<len:=by
     rw[hx']at hz;cases hq:aF (List.take len (List.drop off b.es))with
     |nil=>rw[hq]at hz;simp[IP]at hz
     |cons y ys=>rw[hq]at hlen;simp at hlen;omega
    have hro:b.ro=false:=by
     rcases hwr rfl with hn|⟨r',ver',sz',off',len',room',b',hq,hq2,hq3,_⟩
     ·rcases hn with hn|hn<;>rw[hn]at hT<;>cases hT
     ·rw[hq]at hT;cases hT;rw[hget]at hq2;cases hq2;exact hq3
    refine⟨x.ev σ.fr,[r],?_,R',λr' hr'=>?_⟩
    ·simp only[iA,hT,Av,TB (And.intro hpos hs1)];refine HM.runT_bind_of (R:=[r]) (R2:=[]) (W:=[]) (W2:=[]) (bc hget) ?_;rw[TB hro];rfl
    ·simp only[T1]at hr';subst hr';exact⟨bQ hget,hnm⟩
  ·cases H
 |_=>simp[db]at H
end
def sn(st:Nat->Nat)(n:Nat):Nat:=if n %2=0 then 2*st (n/2)else n
def Inv.sr(I:Inv):ax->Nat
 |.l s=>2*I.st s
 |.a i=>2*I.al i+1
 |.dead=>0
theorem jA{I:Inv}{c:Cx}(N:Nm I c){r:ax}(hr:r≠ .dead):sn I.st (c.nm r)=I.sr r:=by
 cases r with
 |a i=>
  rw[N.a i];unfold sn;rw[TF (by omega)];rfl
 |l s=>
  obtain⟨j,h1,h2⟩:=N.l s;rw[h1];unfold sn;rw[TB (by omega),show 2*j/2=j by omega,h2];rfl
 |dead=>exact absurd rfl hr
def oL(kp S:List Nat):Bool:=kp.all λk=> !S.contains k
def AC(st:Nat->Nat)(S N:List Nat)(n:Nat):Bool:=S.contains (sn st n)||N.contains n
def yY(d:Option Nat)(w:Nat):Bool:=d==some w
def Abs.kill(st:Nat->Nat)(S N:List Nat)(d:Option Nat)(a:Abs):Abs:=a.keep (AC st S N) (yY d) (λ_=>false)
def AV.kill(st:Nat->Nat)(S N:List Nat)(d:Option Nat)(a:AV):AV:=a.keep (AC st S N) (yY d) (λ_=>false)
abbrev Mut(st:Nat->Nat)(S N:List Nat)(d:Option Nat)(c c':Cx)(h h':Heap)(env:Env):Prop:=FG (AC st S N) (yY d) (λ_=>false) c c' h h' env env
theorem fC{st:Nat->Nat}{S N:List Nat}{n:Nat}:AC st S N n=false↔sn st n∉S/\n∉N:=by simp[AC]
theorem Mut.of{st:Nat->Nat}{S N:List Nat}{d:Option Nat}{c c':Cx}{h h':Heap}{env:Env}(h1:∀r,sn st (c.nm r)∉S->c.nm r∉N->h'.get r=h.get r/\c'.nm r=c.nm r)
  (h2:∀w,d≠some w->c'.nu w=c.nu w/\c'.be w=c.be w):Mut st S N d c c' h h' env where
 n r hr:=h1 r (fC.1 hr).1 (fC.1 hr).2
 i w hw:=h2 w (by intro he;subst he;simp[yY]at hw)
 v _ _:=rfl
def FlOk(I:Inv)(h h':Heap):Prop:=∀i ver b,h'.get (.a i)=some ⟨ver,some b⟩->(∃ver' b',h.get (.a i)=some ⟨ver',some b'⟩/\b'.es=b.es)∨cg b.es=true∨I.fl (I.al i)=false
theorem FlOk.put_l(I:Inv)(h:Heap)(s:Nat)(e:fX):FlOk I h (h.put (.l s) e):=λi ver b hg=>.inl ⟨ver,b,by rw[<-hg];exact(Heap.get_put_other (by intro h;cases h)).symm,rfl⟩
theorem FlOk.refl(I:Inv)(h:Heap):FlOk I h h:=λ_i ver b hg=>.inl ⟨ver,b,hg,rfl⟩
theorem FlOk.trans{I:Inv}{h h1 h2:Heap}(A:FlOk I h h1)(B:FlOk I h1 h2):FlOk I h h2:=λi ver b hg=>by
 rcases B i ver b hg with⟨v,b',k,e⟩|k
 ·rcases A i v b' k with⟨v2,b2,k2,e2⟩|k2|k2
  ·exact .inl ⟨v2,b2,k2,e2.trans e⟩
  ·exact .inr (.inl (by rw[<-e];exact k2))
  ·exact .inr (.inr k2)
 ·exact .inr k
theorem Sim.mutate{I:Inv}{c c':Cx}{a:Abs}{env:Env}{fr:List PV}{h h':Heap}{S N:List Nat}{d:Option Nat}(Sm:Sim I c a env ⟨fr,h⟩)(M:Mut I.st S N d c c' h h' env)(hn:Nm I c')
  (hL:h'.L.length=h.L.length)(hA:h'.A.length=h.A.length)(hodd:∀k∈I.kp,k %2=1)(hk:oL I.kp (S++N)=true)(hf:FlOk I h h'):Sim I c' (a.kill I.st S N d) env ⟨fr,h'⟩:=by
 refine Sim.keep M Sm hn (by rw[hL];exact Sm.hl) (by rw[hA];exact Sm.ha) (λr hr=>?_) λi ver b hfl hg=>?_
 rotate_left
 ·rcases hf i ver b hg with⟨ver',b',h1,h2⟩|h1|h1
  ·rw[<-h2];exact Sm.fl i ver' b' hfl h1
  ·exact h1
  ·rw[hfl]at h1;cases h1
 have hod:=hodd _ hr;cases r with
 |l s=>obtain⟨j,h1,_⟩:=hn.l s;omega
 |dead=>exact .inl rfl
 | a i=>
  have e:c'.nm (.a i)=c.nm (.a i):=by rw[hn.a i,Sm.nm.a i]
  have hnot:AC I.st S N (c.nm (.a i))=false:=by
   rw[<-e];have h0:=List.all_eq_true.1 hk _ hr;simp only[Uq,Vi,TZ,TX,not_or]at h0;have h1:sn I.st (c'.nm (.a i))=c'.nm (.a i):=by unfold sn;rw[TF (by omega)]
   exact fC.2 ⟨by rw[h1];exact h0.1,h0.2⟩
  have:=M.n (.a i) hnot;rw[this.1];exact Sm.kp (.a i) (by rw[<-e];exact hr)
theorem bG(h:Heap)(r:ax)(e:fX):(h.put r e).L.length=h.L.length/\(h.put r e).A.length=h.A.length:=by
 have:=Heap.put_lens h r e;exact⟨this.2,this.1⟩
def Cx.new(c:Cx)(s d:Nat)(ver:Nat)(v:PV):Cx where
 nm r:=if r=.l s then 2*s else c.nm r
 nu w:=if w=d then v else c.nu w
 be w:=if w=d then(.l s,ver)else c.be w
theorem Nm.new{I:Inv}{c:Cx}(N:Nm I c)(s d ver:Nat)(v:PV):Nm I (c.new s d ver v) where
 l t:=by
  by_cases ht:t=s
  ·subst ht;exact⟨t,by simp[Cx.new],rfl⟩
  ·simpa[Cx.new,ht]using N.l t
 a i:=by simpa[Cx.new]using N.a i
theorem Bb{I:Inv}{c:Cx}{a:Abs}{env:Env}{fr:List PV}{h:Heap}(Sm:Sim I c a env ⟨fr,h⟩){s d:Nat}(b:fX)(v:PV):Mut I.st [2*I.st s] [] (some d) c (c.new s d b.ver v) h (h.put (.l s) b) env:=by
 refine Mut.of (λr hr _=>?_) λw hw=>?_
 ·have hne:r≠ .l s:=by
   rintro rfl
   apply hr;rw[jA Sm.nm (by intro h;cases h)];simp[Inv.sr]
  exact⟨Heap.get_put_other hne,by simp[Cx.new,hne]⟩
 ·have:w≠d:=λe=>hw (by rw[e]);simp[Cx.new,this]
theorem ky{s:Nat}{b:Blk}{h:Heap}{e:fX}(hg:h.get (.l s)=some e):(eX s b).runT h=some (e.ver+1,h.put (.l s) ⟨e.ver+1,some b⟩,[.l s],[.l s]):=by
 simp[eX,HM.runT,hg]
theorem mD{h:Heap}{s n:Nat}(hL:h.L.length=n)(hs:s<n):∃e,h.get (.l s)=some e:=by
 simp only[Heap.get];exact⟨_,TD (by omega)⟩
structure wF where
 av:AV
 a:Abs
 ns:List X
 rd:List Nat
 wr:List Nat
def dV(I:Inv)(S:List Nat)(l:List ax):Prop:=∀r∈l,r≠ .dead/\I.sr r∈S
def kE(I:Inv)(c:Cx)(_a:Abs)(env:Env)(σ:St)(d:Option Nat)(m:HM PV)(r:wF):Prop:=
 ∃v h' R W c',m.runT σ.h=some (v,h',R,W)/\Sim I c' r.a env ⟨σ.fr,h'⟩/\Rel c' h' env r.av v/\dV I r.rd R/\dV I r.wr W/\(∀i,c'.nm (.a i)=c.nm (.a i))/\(∀w,d≠some w->c'.be w=c.be w)/\FlOk I σ.h h'
theorem Bs{c:Cx}{s d ver:Nat}{v:PV}:∀w,some d≠some w->(c.new s d ver v).be w=c.be w:=λw hw=>by
 have:w≠d:=λe=>hw (by rw[e]);simp[Cx.new,this]
theorem nj{I:Inv}{c:Cx}{a:Abs}{env:Env}{σ:St}(S:Sim I c a env σ)(hodd:∀k∈I.kp,k %2=1){s d:Nat}(hs:s<I.ns)(hk:oL I.kp [2*I.st s]=true){sz:Nat}{es:List PV}{e:X}
  (hp:cg es=true)(hc:∀x∈es,x.cells.length=sz)(he:e.ev env=some (.lst (aF es) false)){m:HM PV}
  (hm:m=(eX s ⟨sz,es,false⟩).bind λv=>.ret (.tok (.l s) v sz 0 es.length es.length false)){ns:List X}:
  kE I c a env σ (some d) m ⟨.O [2*s] d true sz e,a.kill I.st [2*I.st s] [] (some d),ns,[2*I.st s],[2*I.st s]⟩:=by
 obtain⟨e0,hg⟩:=mD S.hl hs;have hg':(σ.h.put (.l s) ⟨e0.ver+1,some ⟨sz,es,false⟩⟩).get (.l s)=some ⟨e0.ver+1,some ⟨sz,es,false⟩⟩:=Heap.get_put_same hg (by intro i h;cases h);have S':Sim I c a env ⟨σ.fr,σ.h⟩:=S;have hT:dV I [2*I.st s] [.l s]:=λr hr=>by
  simp only[T1]at hr;subst hr;exact⟨(by intro h;cases h),by simp[Inv.sr]⟩
 refine⟨.tok (.l s) (e0.ver+1) sz 0 es.length es.length false,σ.h.put (.l s) ⟨e0.ver+1,some ⟨sz,es,false⟩⟩,[.l s],[.l s],c.new s d (e0.ver+1) (.tok (.l s) (e0.ver+1) sz 0 es.length es.length false),?_,?_,?_,hT,hT,?_,Bs,.put_l _ _ _ _⟩
 ·subst hm;have:=HM.runT_bind_of (f:=λv=>HM.ret (PV.tok (.l s) v sz 0 es.length es.length false)) (R2:=[]) (W2:=[]) (ky (b:=⟨sz,es,false⟩) hg) rfl;simpa using this
 ·exact S'.mutate (Bb S' ⟨e0.ver+1,some ⟨sz,es,false⟩⟩ (PV.tok (.l s) (e0.ver+1) sz 0 es.length es.length false)) (S.nm.new _ _ _ _) (bG _ _ _).1 (bG _ _ _).2 hodd hk (.put_l _ _ _ _)
 ·refine⟨by simp[Cx.new],.lst (aF es) false,.inr ⟨.l s,e0.ver+1,0,es.length,es.length,false,⟨sz,es,false⟩,rfl,by simp[Cx.new],hg',rfl,by simp,by simp,hp,hc,by simp⟩,he,λ_=>?_⟩;exact .inr ⟨.l s,e0.ver+1,sz,0,es.length,es.length,⟨sz,es,false⟩,rfl,hg',rfl,by simp⟩
 ·intro i;simp[Cx.new]
def Abs.fits(a:Abs)(sz:Option Nat):List PO->Option (X×List X)
 |[]=>some (.nl,[])
 |x::xs=>af (a.fo x) λe=>af (a.fits sz xs) λl=>some (.cn e l.1,tM sz e++l.2)
theorem Cg{v:PV}{sz:Option Nat}(h:v.fits sz=true):v.cells.length=sz.getD 1:=by
 cases sz<;>cases v<;>simp_all [PV.fits,PV.cells]
theorem Abs.fits_ok{I:Inv}{c:Cx}{a:Abs}{env:Env}{σ:St}(S:Sim I c a env σ){sz:Option Nat}:∀{xs:List PO}{l:X×List X},a.fits sz xs=some l->au env l.2=true->
  cg (lT (PO.ev σ.fr) xs)=true/\l.1.ev env=some (.tup (aF (lT (PO.ev σ.fr) xs)))/\iF sz (lT (PO.ev σ.fr) xs)=true/\∀x∈lT (PO.ev σ.fr) xs,x.cells.length=sz.getD 1
 |[],l,H,_=>by cases H;exact⟨rfl,rfl,rfl,λ_ h=>by cases h⟩
 |x::xs,l,H,hg=>by
  simp only[Abs.fits,ab]at H;obtain⟨e,h1,l',h2,h3⟩:=H;cases h3;simp only[dt,TA]at hg;have q1:=Abs.fo_ok S h1;obtain⟨k1,k2,k3,k4⟩:=Abs.fits_ok S h2 hg.2;have q2:=sa q1.2 hg.1 q1.1;refine⟨by simp only[lT,cg,q1.1,k1,Ub],by simp only[X.ev,q1.2,k2,ac,lT,aF],by simp only[lT,iF,q2.1,q2.2,k3,Ub],λy hy=>?_⟩;simp only[lT,U2]at hy;rcases hy with rfl|hy
  ·exact Cg q2.1
  ·exact k4 y hy
def qN(st:Nat->Nat)(kp:List Nat)(ns:Nat)(a:Abs)(d:Nat)(s sz:Nat)(e:X)(needs:List X):Option wF:=
 if s<ns/\oL kp [2*st s]then some ⟨.O [2*s] d true sz e,a.kill st [2*st s] [] (some d),needs,[2*st s],[2*st s]⟩else none
def oV(st:Nat->Nat)(kp:List Nat)(ns:Nat)(a:Abs)(d:Nat)(sz:Option Nat)(parts:List PO)(s:Nat):Option wF:=
 af (a.fits sz parts) λl=>qN st kp ns a d s (sz.getD 1) (.lst l.1) l.2
theorem xR{I:Inv}{c:Cx}{a:Abs}{env:Env}{σ:St}(S:Sim I c a env σ)(hodd:∀k∈I.kp,k %2=1){d:Nat}{sz:Option Nat}{parts:List PO}{s:Nat}{r:wF}
  (H:oV I.st I.kp I.ns a d sz parts s=some r)(hg:au env r.ns=true):kE I c a env σ (some d) (dP sz (lT (PO.ev σ.fr) parts) s) r:=by
 simp only[oV,ab,qN]at H;obtain⟨l,h1,H⟩:=H;split at H
 ·rename_i hc;cases H;obtain⟨k1,k2,k3,k4⟩:=Abs.fits_ok S h1 hg;refine nj S hodd hc.1 hc.2 k1 k4 (by simp only[X.ev,k2,ac,bZ]) ?_;simp only[dP,k3,TY]
 ·cases H
def JC(st:Nat->Nat)(kp:List Nat)(ns:Nat)(a:Abs)(d:Nat)(x:PO)(s:Nat):Option wF:=
 af (a.fo x) λe=>qN st kp ns a d s 1 (.s2b e) [.s2b e]
theorem Ke{I:Inv}{c:Cx}{a:Abs}{env:Env}{σ:St}(S:Sim I c a env σ)(hodd:∀k∈I.kp,k %2=1){d:Nat}{x:PO}{s:Nat}{r:wF}
  (H:JC I.st I.kp I.ns a d x s=some r)(hg:au env r.ns=true):kE I c a env σ (some d) (IY (x.ev σ.fr) s) r:=by
 simp only[JC,ab,qN]at H;obtain⟨e,h1,H⟩:=H;split at H
 ·rename_i hc;cases H;have hx:=Abs.fo_ok S h1;simp only[au,Us]at hg;obtain⟨z,hz⟩:=Option.isSome_iff_exists.1 hg;have hz':=hz;simp only[X.ev,hx.2,ac]at hz;obtain⟨l,k1,k2,k3⟩:=NE hz;have hpl:cg (l.map λb=>PV.int .u8 b.toNat)=true:=eY.2 λy hy=>by obtain⟨b,_,rfl⟩:=List.mem_map.1 hy;rfl
  have hnr:aF (l.map λb=>PV.int .u8 b.toNat)=l.map λb=>PV.int .u8 b.toNat:=by rw[fp,List.map_map];rfl
  refine nj S hodd hc.1 hc.2 hpl (λy hy=>by obtain⟨b,_,rfl⟩:=List.mem_map.1 hy;rfl) (by rw[hz',k3,hnr]) ?_;simp only[k1,IY,k2,TY,Uk]
 ·cases H
def uL(st:Nat->Nat)(kp:List Nat)(ns:Nat)(a:Abs)(d:Nat)(sz:Nat)(z:PV)(n:PO)(s:Nat):Option wF:=
 af (v5 z) λze=>af (a.fo n) λe=>qN st kp ns a d s sz (.mks sz ze e) [.mks sz ze e]
theorem Cy{I:Inv}{c:Cx}{a:Abs}{env:Env}{σ:St}(S:Sim I c a env σ)(hodd:∀k∈I.kp,k %2=1){d sz:Nat}{z:PV}{n:PO}{s:Nat}{r:wF}
  (H:uL I.st I.kp I.ns a d sz z n s=some r)(hg:au env r.ns=true):kE I c a env σ (some d) (lX sz z (n.ev σ.fr) s) r:=by
 simp only[uL,ab,qN]at H;obtain⟨ze,h0,e,h1,H⟩:=H;split at H
 ·rename_i hc;cases H;have hx:=Abs.fo_ok S h1;have hz0:=Bv env h0;simp only[au,Us]at hg;obtain⟨y,hy⟩:=Option.isSome_iff_exists.1 hg;have hy':=hy;simp only[X.ev,hx.2,hz0.2,ac,LP]at hy;split at hy
  ·rename_i k m hm;have hn:=fj hm;split at hy
   ·rename_i hb;cases hy;have hrep:∀y∈List.replicate m.toNat z,y=z:=λy hy=>(List.mem_replicate.1 hy).2;rw[fF,iZ,dQ]at hb;refine nj S hodd hc.1 hc.2 (es:=List.replicate m.toNat z) (eY.2 λy hy=>by rw[hrep y hy];exact hz0.1) (λy hy=>by rw[hrep y hy];exact hb.2.2.1) (by rw[hy',fp,List.map_replicate]) ?_;simp only[hn,lX,Va];rw[TB hb]
   ·cases hy
  ·cases hy
 ·cases H
def HJ(st:Nat->Nat)(kp:List Nat)(ns:Nat)(a:Abs)(d:Nat)(sz:Option Nat)(x:PO)(s:Nat):Option wF:=
 af (a.po x) λxv=>af (cellsOf sz xv) λcn=>
  if s<ns/\oL kp [2*st s]then
   some ⟨.P d 0,⟨(a.kill st [2*st s] [] (some d)).t,⟨d,false,[2*s],cn.1.map (AV.kill st [2*st s] [] (some d))⟩::(a.kill st [2*st s] [] (some d)).b⟩,cn.2,[2*st s],[2*st s]⟩else none
theorem LX{I:Inv}{c:Cx}{a:Abs}{env:Env}{σ:St}(S:Sim I c a env σ)(hodd:∀k∈I.kp,k %2=1){d:Nat}{sz:Option Nat}{x:PO}{s:Nat}{r:wF}
  (H:HJ I.st I.kp I.ns a d sz x s=some r)(hg:au env r.ns=true):kE I c a env σ (some d) (w9 sz (x.ev σ.fr) s) r:=by
 simp only[HJ,ab]at H;obtain⟨xv,h1,cn,h2,H⟩:=H;split at H
 ·rename_i hc;cases H;obtain⟨k1,k2,k3⟩:=oJ (Abs.po_ok S h1) h2 hg;obtain⟨e0,hge⟩:=mD S.hl hc.1;generalize hx:x.ev σ.fr=v at*;have hg':(σ.h.put (.l s) ⟨e0.ver+1,some ⟨v.cells.length,[v],false⟩⟩).get (.l s)=some ⟨e0.ver+1,some ⟨v.cells.length,[v],false⟩⟩:=Heap.get_put_same hge (by intro i h;cases h);have S':Sim I c a env ⟨σ.fr,σ.h⟩:=S;have hT:dV I [2*I.st s] [.l s]:=λr hr=>by
   simp only[T1]at hr;subst hr;exact⟨(by intro h;cases h),by simp[Inv.sr]⟩
  have M:=Bb S' (s:=s) (d:=d) ⟨e0.ver+1,some ⟨v.cells.length,[v],false⟩⟩ .junk;have S1:=S'.mutate M (S.nm.new _ _ _ _) (bG _ _ _).1 (bG _ _ _).2 hodd hc.2 (.put_l _ _ _ _);refine⟨.ptr (.l s) (e0.ver+1) 0 0,σ.h.put (.l s) ⟨e0.ver+1,some ⟨v.cells.length,[v],false⟩⟩,[.l s],[.l s],c.new s d (e0.ver+1) .junk,?_,⟨S1.fr,S1.tm,λy hy=>?_,S1.nm,S1.hl,S1.ha,S1.kp,S1.fl⟩,?_,hT,hT,?_,Bs,.put_l _ _ _ _⟩
  ·simp only[w9];rw[TB ⟨k1,k2⟩];have:=HM.runT_bind_of (f:=λv=>HM.ret (PV.ptr (.l s) v 0 0)) (R2:=[]) (W2:=[]) (ky (b:=⟨v.cells.length,[v],false⟩) hge) rfl;simpa using this
  ·rcases List.mem_cons.1 hy with rfl|hy
   ·refine⟨v.cells.length,v,false,by simp[Cx.new],?_,λ_=>rfl,k2,k3.keep M⟩;simp only[Cx.new,TY];exact hg'
   ·exact S1.bx y hy
  ·simp[Rel,Cx.new]
  ·intro i;simp[Cx.new]
 ·cases H
def FX(fl:Nat->Bool)(fs:List Nat):Bool:=fs.all λn=>n %2==0|| !fl (n/2)
def yg(st:Nat->Nat)(fl:Nat->Bool)(kp:List Nat)(a:Abs)(sz:Option Nat)(b o:Nat)(y:PO):Option wF:=
 af (a.box b) λbx=>af (a.po y) λyv=>af (cellsOf sz yv) λln=>
  if bx.ro=false/\o+ln.1.length<=bx.cs.length/\oL kp bx.fs/\FX fl bx.fs then
   some ⟨.D,⟨(a.kill st [] bx.fs none).t,⟨b,false,bx.fs,(bx.cs.take o++ln.1++bx.cs.drop (o+ln.1.length)).map (AV.kill st [] bx.fs none)⟩::(a.kill st [] bx.fs none).b⟩,ln.2,bx.fs.map (sn st),bx.fs.map (sn st)⟩else none
theorem tc{e:PV}{cs:List PV}(ho:ak e.cells=true)(hl:cs.length=e.cells.length)(hc:ak cs=true):(e.withCells cs).cells=cs:=by
 cases e with
 |agg es=>rfl
 |_=>
  simp only[PV.cells,TJ,Um]at hl;obtain⟨x,rfl⟩:=List.length_eq_one_iff.1 hl;simp only[PV.withCells,List.headD_cons];simp only[ak,Us]at hc;cases x<;>first|rfl|(simp[PV.isCell]at hc;done)
theorem vF{I:Inv}{c:Cx}{a:Abs}{env:Env}{fr:List PV}{h:Heap}(S:Sim I c a env ⟨fr,h⟩)(hodd:∀k∈I.kp,k %2=1){sz:Option Nat}{b o:Nat}{bx:BX}{ln:List AV}{v:PV}(h1:a.box b=some bx)
  (k1:v.fits sz=true)(k2:ak v.cells=true)(k3:RelL c h env ln v.cells)(hc1:bx.ro=false)(hc2:o+ln.length<=bx.cs.length)(hc3:oL I.kp bx.fs=true)(hc4:FX I.fl bx.fs=true):
  ∃h',(eW sz (.ptr (c.be b).1 (c.be b).2 0 o) v).runT h=some (.junk,h',[(c.be b).1],[(c.be b).1])/\Sim I c ⟨(a.kill I.st [] bx.fs none).t,⟨b,false,bx.fs,(bx.cs.take o++ln++bx.cs.drop (o+ln.length)).map (AV.kill I.st [] bx.fs none)⟩::(a.kill I.st [] bx.fs none).b⟩ env ⟨fr,h'⟩/\
   dV I (bx.fs.map (sn I.st)) [(c.be b).1]/\FlOk I h h':=by
 obtain⟨hid,n,e,ro,hn,hget,hro,hok,hR⟩:=Abs.box_ok S h1;rw[hid]at hn hget;have hro':=hro hc1;subst hro';have hlen:=k3.len;have hle:o+v.cells.length<=e.cells.length:=by rw[<-hlen,<-hR.len];exact hc2
 have hcl:(e.cells.take o++v.cells++e.cells.drop (o+v.cells.length)).length=e.cells.length:=by
  simp only[Ud,T7,Ur];omega
 have hoc:ak (e.cells.take o++v.cells++e.cells.drop (o+v.cells.length))=true:=by
  simp only[qm,gP hok,k2,fb hok,Ub]
 have hwc:=tc hok hcl hoc;generalize hnb:e.withCells (e.cells.take o++v.cells++e.cells.drop (o+v.cells.length))=e' at*;have hver:∀i,(c.be b).1=.a i->(⟨(c.be b).2,some ⟨n,[e'],false⟩⟩:fX).ver=0:=λi hi=>by
  rw[hi]at hget;have h0:=Heap.ver_a hget;exact h0
 have hg':=Heap.get_put_same (e':=⟨(c.be b).2,some ⟨n,[e'],false⟩⟩) hget hver;have hnd:=bQ hget;have hsr:I.sr (c.be b).1∈bx.fs.map (sn I.st):=by
  rw[<-jA S.nm hnd];exact Uo hn
 have hT:dV I (bx.fs.map (sn I.st)) [(c.be b).1]:=λr hr=>by
  simp only[T1]at hr;subst hr;exact⟨hnd,hsr⟩
 have M:Mut I.st [] bx.fs none c c h (h.put (c.be b).1 ⟨(c.be b).2,some ⟨n,[e'],false⟩⟩) env:=by
  refine Mut.of (λr _ hr=>⟨Heap.get_put_other ?_,rfl⟩) λw _=>⟨rfl,rfl⟩
  rintro rfl
  exact hr hn
 have hfl:FlOk I h (h.put (c.be b).1 ⟨(c.be b).2,some ⟨n,[e'],false⟩⟩):=λi ver b' hgi=>by
  by_cases hi:ax.a i=(c.be b).1
  ·right;right;rw[<-hi,S.nm.a i]at hn;have:=List.all_eq_true.1 hc4 _ hn;rw[show(2*I.al i+1)/2=I.al i by omega]at this;have h2:((2*I.al i+1) %2==0)=false:=by simp
   rw[h2]at this;simpa using this
  ·exact .inl ⟨ver,b',by rw[<-hgi];exact(Heap.get_put_other hi).symm,rfl⟩
 have S1:=S.mutate M S.nm (bG _ _ _).1 (bG _ _ _).2 hodd hc3 hfl;refine⟨h.put (c.be b).1 ⟨(c.be b).2,some ⟨n,[e'],false⟩⟩,?_,⟨S1.fr,S1.tm,λz hz=>?_,S1.nm,S1.hl,S1.ha,S1.kp,S1.fl⟩,hT,hfl⟩
 ·simp only[eW];refine HM.runT_bind_of (R:=[(c.be b).1]) (R2:=[]) (W:=[]) (W2:=[(c.be b).1]) (bc hget) ?_;simp only[TM];rw[TB ⟨k1,k2,hle,trivial⟩];simp only[HM.runT,hget,List.set_cons_zero,hnb]
 ·rcases List.mem_cons.1 hz with rfl|hz
  ·refine⟨n,e',false,hn,hg',λ_=>rfl,by rw[hwc];exact hoc,?_⟩;rw[hwc];refine RelL.keep M (((hR.take o).app k3).app ?_);rw[hlen];exact hR.drop _
  ·exact S1.bx z hz
theorem DM{I:Inv}{c:Cx}{a:Abs}{env:Env}{σ:St}(S:Sim I c a env σ)(hodd:∀k∈I.kp,k %2=1){d:Option Nat}{sz:Option Nat}{b o:Nat}{y:PO}{r:wF}{xv:PV}(hx:Rel c σ.h env (.P b o) xv)
  (H:yg I.st I.fl I.kp a sz b o y=some r)(hg:au env r.ns=true):kE I c a env σ d (eW sz xv (y.ev σ.fr)) r:=by
 simp only[yg,ab]at H;obtain⟨bx,h1,yv,h2,ln,h3,H⟩:=H;split at H
 ·rename_i hc;cases H;obtain⟨k1,k2,k3⟩:=oJ (Abs.po_ok S h2) h3 hg;simp only[Rel]at hx;obtain⟨h',g1,g2,g3,g4⟩:=vF (S:Sim I c a env ⟨σ.fr,σ.h⟩) hodd h1 k1 k2 k3 hc.1 hc.2.1 hc.2.2.1 hc.2.2.2;exact⟨.junk,h',_,_,c,by rw[hx];exact g1,g2,trivial,g3,g3,λ_=>rfl,λ_ _=>rfl,g4⟩
 ·cases H
mutual
def Gd(st:Nat->Nat)(S N:List Nat)(w:Nat)(new:AV):AV->AV
 |.O fs w' wr sz e=>if w'=w then new else AV.kill st S N none (.O fs w' wr sz e)
 |.A cs=>.A (Fq st S N w new cs)
 |a=>AV.kill st S N none a
def Fq(st:Nat->Nat)(S N:List Nat)(w:Nat)(new:AV):List AV->List AV
 |[]=>[]
 |a::as=>Gd st S N w new a::Fq st S N w new as
end
theorem Rel.keep1{nf idf vf:Nat->Bool}{c c':Cx}{h h':Heap}{env env':Env}(M:FG nf idf vf c c' h h' env env'){a:AV}{v:PV}(R:Rel c h env a v):Rel c' h' env' (a.keep nf idf vf) v:=by
 simp only[AV.keep];split
 ·rename_i ho;exact Rel.frame M ho R
 ·trivial
section
variable{st:Nat->Nat}{S N:List Nat}{c c':Cx}{h h':Heap}{env:Env}{w:Nat}{new:AV}
mutual
theorem Rel.reup(M:Mut st S N none c c' h h' env)(hn:Rel c' h' env new (c.nu w)):∀{a:AV}{v:PV},Rel c h env a v->Rel c' h' env (Gd st S N w new a) v
 |.O fs w' wr sz e,v,R=>by
  simp only[Gd];split
  ·rename_i hw;subst hw;rw[R.1];exact hn
  ·exact Rel.keep1 M R
 |.A cs,v,R=>by
  obtain⟨vs,h1,h2,h3⟩:=R;exact⟨vs,h1,h2,RelL.reup M hn h3⟩
 |.D,v,R=>Rel.keep1 M R
 |.F e,v,R=>Rel.keep1 M R
 |.N e,v,R=>Rel.keep1 M R
 |.Q ..,v,R=>Rel.keep1 M R
 |.P ..,v,R=>Rel.keep1 M R
 |.EP ..,v,R=>Rel.keep1 M R
 |.C ..,v,R=>Rel.keep1 M R
 |.L ..,v,R=>Rel.keep1 M R
 |.T ..,v,R=>Rel.keep1 M R
 |.G ..,v,R=>Rel.keep1 M R
theorem RelL.reup(M:Mut st S N none c c' h h' env)(hn:Rel c' h' env new (c.nu w)):∀{as:List AV}{vs:List PV},RelL c h env as vs->RelL c' h' env (Fq st S N w new as) vs
 |[],[],_=>trivial
 |a::as,v::vs,R=>⟨Rel.reup M hn R.1,RelL.reup M hn R.2⟩
 |[],_::_,R=>by cases R
 |_::_,[],R=>by cases R
end
end
def Abs.reup(st:Nat->Nat)(S N:List Nat)(w:Nat)(new:AV)(a:Abs):Abs:=
 ⟨a.t.map λp=>(p.1,Gd st S N w new p.2),(a.b.filter λx=>x.fs.all λn=> !AC st S N n).map λx=>⟨x.id,x.ro,x.fs,Fq st S N w new x.cs⟩⟩
theorem Sim.reup{I:Inv}{c c':Cx}{a:Abs}{env:Env}{fr:List PV}{h h':Heap}{S N:List Nat}{w:Nat}{new:AV}(Sm:Sim I c a env ⟨fr,h⟩)(M:Mut I.st S N none c c' h h' env)(hn:Nm I c')
  (hL:h'.L.length=h.L.length)(hA:h'.A.length=h.A.length)(hodd:∀k∈I.kp,k %2=1)(hk:oL I.kp (S++N)=true)(hf:FlOk I h h')(hnew:Rel c' h' env new (c.nu w)):Sim I c' (a.reup I.st S N w new) env ⟨fr,h'⟩:=by
 have S1:=Sm.mutate M hn hL hA hodd hk hf;refine⟨S1.fr,λp hp=>?_,λx hx=>?_,S1.nm,S1.hl,S1.ha,S1.kp,S1.fl⟩
 ·obtain⟨q,hq,rfl⟩:=List.mem_map.1 hp;exact Rel.reup M hnew (Sm.tm q hq)
 ·obtain⟨y,hy,rfl⟩:=List.mem_map.1 hx;obtain⟨h1,h2⟩:=List.mem_filter.1 hy;obtain⟨n,e,ro,k1,k2,k3,k4,k5⟩:=Sm.bx y h1;have hb:=(M.i y.id (by simp[yY])).2;have hr:=M.n (c.be y.id).1 (gZ (nf:=AC I.st S N) h2 k1);refine⟨n,e,ro,?_,?_,k3,k4,RelL.reup M hnew k5⟩
  ·simp only[hb,hr.2];exact k1
  ·simp only[hb,hr.1];exact k2
theorem rI(e:PV)(cs:List PV):aP (e.withCells cs)=(aP e).withCells (aF cs):=by
 cases e<;>cases cs<;>simp[PV.withCells,aP,aF]
theorem Cr(l:List PV)(i:Nat)(v:PV):aF (l.set i v)=(aF l).set i (aP v):=by simp only[fp,List.map_set]
def xX(st:Nat->Nat)(kp:List Nat)(a:Abs)(szo:Option Nat)(fs:List Nat)(w sz:Nat)(e i:X)(o:Nat)(y:PO):Option wF:=
 af (a.fo y) λy'=>
  if oL kp fs then
   some ⟨.D,a.reup st [] fs w (.O fs w true sz (.upd szo e i o y')),[.upd szo e i o y'],fs.map (sn st),fs.map (sn st)⟩else none
theorem DU{I:Inv}{c:Cx}{a:Abs}{env:Env}{σ:St}(S:Sim I c a env σ)(hodd:∀k∈I.kp,k %2=1){d:Option Nat}{szo:Option Nat}{fs:List Nat}{w sz:Nat}{e i:X}{o:Nat}{y:PO}{r:wF}{xv:PV}
  (hx:Rel c σ.h env (.EP fs w true sz e i o) xv)
  (H:xX I.st I.kp a szo fs w sz e i o y=some r)(hg:au env r.ns=true):kE I c a env σ d (eW szo xv (y.ev σ.fr)) r:=by
 simp only[xX,ab]at H;obtain⟨y',h1,H⟩:=H;split at H
 ·rename_i hk;cases H;have hy:=Abs.fo_ok S h1;simp only[Rel,DJ]at hx;obtain⟨q,ver,off,len,room,c0,b,x',k,n,T,he,hw,hi,hn0,hn1,hv⟩:=hx;obtain⟨hT,hnm,hget,hs,ho,hr,hpl,hc,hx'⟩:=T;have hwr:b.ro=false/\off+room<=b.es.length/\c0=false:=by
   rcases hw trivial with hn|⟨r',ver',sz',off',len',room',b',hq,hq2,hq3,hq4⟩
   ·rcases hn with hn|hn<;>rw[hn]at hT<;>cases hT
   ·rw[hq]at hT;cases hT;rw[hget]at hq2;cases hq2;exact⟨hq3,hq4,rfl⟩
  obtain⟨w1,w2,w3⟩:=hwr;subst w3;generalize y.ev σ.fr=yv at*;simp only[au,Us]at hg;obtain⟨z,hz⟩:=Option.isSome_iff_exists.1 hg;have hz':=hz;have hlen:(aF (List.take len (List.drop off b.es))).length=len:=by
   rw[aS,T7,Ur];omega
  simp only[X.ev,he,hi,hy.2,ac,hx',oB,hlen]at hz;rw[TB ⟨hn0,hn1⟩]at hz;have hnn:n.toNat<len:=by omega
  have hidx:(List.take len (List.drop off b.es))[n.toNat]?=b.es[off+n.toNat]?:=by
   rw[Ui,TB hnn,Uf]
  rw[qA,hidx]at hz;cases hel:b.es[off+n.toNat]? with
  |none=>rw[hel]at hz;cases hz
  | some el=>
   rw[hel]at hz;simp only[TT]at hz;split at hz
   ·rename_i hcond;rw[p4,iZ,dQ,aS,fF]at hcond;obtain⟨f1,f2,f3⟩:=hcond;have hpe:=tP hpl hel;have hoe:=t9 hpe;generalize hcs:el.cells.take o++yv.cells++el.cells.drop (o+yv.cells.length)=cs at*;have hcl:cs.length=el.cells.length:=by
     rw[<-hcs];simp only[Ud,T7,Ur];omega
    have hoc:ak cs=true:=by
     rw[<-hcs];simp only[qm,gP hoe,f2,fb hoe,Ub]
    have hpc:cg cs=true:=by
     rw[<-hcs];simp only[lg,dJ (nS hpe),nS hy.1,dw (nS hpe),Ub]
    have hwc:=tc hoe hcl hoc;have hpw:pl (el.withCells cs)=true:=by
     cases el with
     |agg es=>simp only[PV.withCells,pl,hoc,hpc,Ub]
     |_=>
      simp only[PV.withCells];simp only[PV.cells,TJ,Um]at hcl;obtain⟨x,rfl⟩:=List.length_eq_one_iff.1 hcl;simp only[cg,Us]at hpc;exact hpc
    have hlt:=getElem?_lt hel;have hver:∀j,q=.a j->(⟨ver,some ⟨b.sz,b.es.set (off+n.toNat) (el.withCells cs),false⟩⟩:fX).ver=0:=λj hj=>by
     rw[hj]at hget;have h0:=Heap.ver_a hget;exact h0
    have hg':=Heap.get_put_same (e':=⟨ver,some ⟨b.sz,b.es.set (off+n.toNat) (el.withCells cs),false⟩⟩) hget hver;have S':Sim I c a env ⟨σ.fr,σ.h⟩:=S;have hnd:=bQ hget;have hTr:dV I (fs.map (sn I.st)) [q]:=λr hr=>by
     simp only[T1]at hr;subst hr;exact⟨hnd,by rw[<-jA S.nm hnd];exact Uo hnm⟩
    have M:Mut I.st [] fs none c c σ.h (σ.h.put q ⟨ver,some ⟨b.sz,b.es.set (off+n.toNat) (el.withCells cs),false⟩⟩) env:=by
     refine Mut.of (λr _ hr=>⟨Heap.get_put_other ?_,rfl⟩) λw _=>⟨rfl,rfl⟩
     rintro rfl
     exact hr hnm
    have hpl':cg (b.es.set (off+n.toNat) (el.withCells cs))=true:=eY.2 λx hx=>by
     rcases Uu hx with h|h
     ·exact eY.1 hpl x h
     ·rw[h];exact hpw
    have hc':∀x∈b.es.set (off+n.toNat) (el.withCells cs),x.cells.length=sz:=λx hx=>by
     rcases Uu hx with h|h
     ·exact hc x h
     ·rw[h,hwc,hcl];exact hc el (TC hel)
    have hview:((b.es.set (off+n.toNat) (el.withCells cs)).drop off).take len=((b.es.drop off).take len).set n.toNat (el.withCells cs):=by
     apply VA;intro j;simp only[Ui,Uf,List.getElem?_set,T7,Ur];by_cases hj:j<len
     ·by_cases hjn:n.toNat=j
      ·subst hjn;rw[TB hj,TB rfl,TB rfl,TB hlt,TB (by omega)]
      ·rw[TB hj,TF (by omega),TF hjn,TB hj]
     ·rw[TF hj];by_cases hjn:n.toNat=j
      ·omega
      ·rw[TF hjn,TF hj]
    have hnew:Rel c (σ.h.put q ⟨ver,some ⟨b.sz,b.es.set (off+n.toNat) (el.withCells cs),false⟩⟩) env (.O fs w true sz (.upd szo e i o y')) (c.nu w):=by
     refine⟨rfl,z,.inr ⟨q,ver,off,len,room,false,_,hT,hnm,hg',hs,by rw[UX];exact ho,hr,hpl',hc',?_⟩,hz',λ_=>.inr ⟨q,ver,sz,off,len,room,_,hT,hg',rfl,by simp only[UX];exact w2⟩⟩;cases hz;rw[hview,Cr,rI];congr 4;rw[<-hcs];simp only[nX,iU,jE,iZ,aS]
    have hfl:FlOk I σ.h (σ.h.put q ⟨ver,some ⟨b.sz,b.es.set (off+n.toNat) (el.withCells cs),false⟩⟩):=λi ver' b' hgi=>by
     by_cases hi:ax.a i=q
     ·right;left;rw[hi,hg']at hgi;simp only[Ty,fX.mk.injEq]at hgi;rw[<-hgi.2];exact hpl'
     ·exact .inl ⟨ver',b',by rw[<-hgi];exact(Heap.get_put_other hi).symm,rfl⟩
    refine⟨.junk,_,[q],[q],c,?_,S'.reup M S.nm (bG _ _ _).1 (bG _ _ _).2 hodd hk hfl hnew,trivial,hTr,hTr,λ_=>rfl,λ_ _=>rfl,hfl⟩;simp only[hv,eW];refine HM.runT_bind_of (R:=[q]) (R2:=[]) (W:=[]) (W2:=[q]) (bc hget) ?_;simp only[hel];rw[TB ⟨f1,f2,f3,w1⟩];simp only[HM.runT,hget,hcs]
   ·cases hz
 ·cases H
theorem G7{sz:Nat}{v v':PV}{lo hi mx:Option PV}(hv:rH v)(h:dd sz v lo hi mx=some v'):rH v':=by
 rcases hv with rfl|rfl
 ·simp only[dd]at h;split at h
  ·simp only[gM]at h;split at h
   ·cases h
   ·unfold lV at h;split at h
    ·split at h
     ·cases h;exact .inl rfl
     ·cases h
    ·cases h
  ·cases h
 ·simp only[dd]at h;split at h
  ·simp only[gM]at h;split at h
   ·cases h
   ·unfold cF at h;split at h
    ·split at h
     ·rename_i hb;simp only[Um]at hb;cases h;refine .inr ?_;split
      ·simp;omega
      ·simp
     ·cases h
    ·cases h
  ·cases h
def yt(st:Nat->Nat)(a:Abs)(d:Nat)(sz:Nat)(fs:List Nat)(wr:Bool)(s:Nat)(e:X)(lo hi mx:Option PO):Option wF:=
 af (a.bnd lo) λl=>af (a.bnd hi) λh=>af (a.bnd mx) λm=>
  if s=sz/\sz≠0 then some ⟨.O fs d (wr&&mx.isNone) sz (.slice sz e l h m),a.kill st [] [] (some d),[.slice sz e l h m],[],[]⟩else none
def Cx.view(c:Cx)(d:Nat)(v:PV):Cx:=⟨c.nm,λw=>if w=d then v else c.nu w,c.be⟩
theorem CY{st:Nat->Nat}{S N:List Nat}{c:Cx}{h:Heap}{env:Env}(d:Nat)(v:PV):Mut st S N (some d) c (c.view d v) h h env:=
 Mut.of (λr _ _=>⟨rfl,rfl⟩) λw hw=>by
  have:w≠d:=λe=>hw (by rw[e]);simp[Cx.view,this]
theorem Eh{ρ:PO->PV}{x:Option PO}:(wJ ρ x).isNone=x.isNone:=by cases x<;>rfl
theorem DY{I:Inv}{c:Cx}{a:Abs}{env:Env}{σ:St}(S:Sim I c a env σ)(hodd:∀k∈I.kp,k %2=1){d sz:Nat}{fs:List Nat}{w:Nat}{wr:Bool}{s:Nat}{e:X}{lo hi mx:Option PO}{r:wF}{xv:PV}
  (hx:Rel c σ.h env (.O fs w wr s e) xv)(H:yt I.st a d sz fs wr s e lo hi mx=some r)(hg:au env r.ns=true):
  kE I c a env σ (some d) (HM.ofO (dd sz xv (wJ (PO.ev σ.fr) lo) (wJ (PO.ev σ.fr) hi) (wJ (PO.ev σ.fr) mx))) r:=by
 simp only[yt,ab]at H;obtain⟨l,hl,h',hh,m,hm,H⟩:=H;split at H
 ·rename_i hs;obtain⟨rfl,hs0⟩:=hs;cases H;simp only[au,Us]at hg;obtain⟨z,hz⟩:=Option.isSome_iff_exists.1 hg;have hz':=hz;obtain⟨hxv,x',T,he,hw⟩:=hx;simp only[X.ev,he,ac,ab]at hz;obtain⟨lv,hlv,hv,hhv,mv,hmv,hz⟩:=hz;have hz2:=hz;unfold cj at hz;cases e1:kk lv<;>rw[e1]at hz<;>try(cases hz;done)
  cases e2:kk hv<;>rw[e2]at hz<;>try(cases hz;done)
  cases e3:kk mv<;>rw[e3]at hz<;>try(cases hz;done)
  rename_i lo' hi' mx';have b1:=Abs.bnd_ok S hl hlv e1;have b2:=Abs.bnd_ok S hh hhv e2;have b3:=Abs.bnd_ok S hm hmv e3;rw[b1,b2,b3];have hmn:mx.isNone=mx'.isNone:=by rw[<-b3,Eh]
  have S':Sim I c a env ⟨σ.fr,σ.h⟩:=S;have fin:∀{v:PV},dd s xv lo' hi' mx'=some v->TokOk (λr=>c.nm r∈fs) σ.h s v z->((wr&&mx.isNone)=true->WrOk σ.h v)->
    kE I c a env σ (some d) (HM.ofO (dd s xv lo' hi' mx')) ⟨.O fs d (wr&&mx.isNone) s (.slice s e l h' m),a.kill I.st [] [] (some d),[.slice s e l h' m],[],[]⟩:=by
   intro v q1 q2 q3;refine⟨v,σ.h,[],[],c.view d v,by rw[q1];rfl,S'.mutate (CY d v) ⟨S.nm.l,S.nm.a⟩ rfl rfl hodd (by simp[oL]) (.refl _ _),⟨by simp[Cx.view],z,q2,hz',q3⟩,(λ_ h=>by cases h),(λ_ h=>by cases h),λ_=>rfl,λ_ _=>rfl,.refl _ _⟩
  rcases T with⟨hn,hx'⟩|⟨q,ver,off,len,room,c0,b,hT,hnm,hget,hsz,ho,hr,hpl,hc,hx'⟩
  ·have hp:=jr hn;rw[hx',<-hp.2]at hz2;obtain⟨v,k1,k2,k3⟩:=Cf hp.1 e1 e2 e3 hz2;have hv:=G7 hn k1;exact fin k1 (.inl ⟨hv,by rw[<-k3,(jr hv).2]⟩) λ_=>.inl hv
  ·rw[ hx']at hz;simp only at hz;split at hz
   ·cases hz
   ·rename_i hcc;simp only[not_or,Bool.not_eq_true]at hcc;have hlen:(aF (List.take len (List.drop off b.es))).length=len:=by
     rw[aS,T7,Ur];omega
    simp only[cF,hlen,Uc]at hz;obtain⟨y,hy,hyz⟩:=hz;cases f1:aO 0 lo'<;>rw[f1]at hy<;>try(cases hy;done)
    cases f2:aO len hi'<;>rw[f2]at hy<;>try(cases hy;done)
    cases f3:aO len mx'<;>rw[f3]at hy<;>try(cases hy;done)
    rename_i ln hn2 mn;simp only at hy;split at hy
    ·rename_i hb;cases hy;obtain⟨g1,g2,g3,_⟩:=hb;have hsl:(s==0)=false:=by simpa using hs0
     have hrm:∃m',aO room mx'=some m'/\hn2<=m'/\m'<=room/\(mx'=none->m'=room):=by
      cases mx' with
      |none=>exact⟨room,rfl,by simp only[aO,Ty]at f3;omega,TN _,λ_=>rfl⟩
      |some mv'=>exact⟨mn,by simpa[aO]using f3,g2,by omega,λh=>by cases h⟩
     obtain⟨m',r1,r2,r3,r4⟩:=hrm;refine fin (v:=.tok q ver s (off+ln) (hn2-ln) (m'-ln) (if mx'.isSome then m'==ln else c0)) ?_ (.inr ⟨q,ver,off+ln,hn2-ln,m'-ln,_,b,rfl,hnm,hget,hsz,by omega,by omega,hpl,hc,?_⟩) λhww=>?_
     ·simp only[dd,hT,PV.isStr,hsl,TY,gM,hcc.2,T4,TU,tO,f1,f2,r1];rw[TB ⟨g1,r2,r3⟩]
     ·rw[<-hyz];simp only[aP,iU,jE,fE];congr 1;rw[List.drop_take,List.take_take,VB];congr 1;omega
     ·simp only[TA]at hww;rw[hmn]at hww;have hmx:mx'=none:=by simpa using hww.2
      subst hmx;have:=r4 rfl;subst this;rcases hw hww.1 with hn|⟨r',ver',sz',off',len',room',b',hq,hq2,hq3,hq4⟩
      ·rcases hn with hn|hn<;>rw[hn]at hT<;>cases hT
      ·rw[hq]at hT;cases hT;rw[hget]at hq2;cases hq2;exact .inr ⟨q,ver,s,_,_,_,b,rfl,hget,hq3,by omega⟩
    ·cases hy
 ·cases H
def S9(st:Nat->Nat)(S:List Nat):Nat->Bool:=λn=>S.contains (sn st n)
def Q4(st:Nat->Nat)(N:List Nat)(as:List AV):Bool:=AV.okL (AC st [] N) (yY none) (λ_=>false) as
def Fv(fs:List Nat):Bool:=fs.all λn=>n %2==0
def P5(st:Nat->Nat):AV->Option (X×List Nat)
 |.F e=>some (e,[])
 |.N e=>some (e,[])
 |.O fs _ _ _ e=>if Fv fs then some (e,fs)else none
 |_=>none
def LL(st:Nat->Nat):List AV->Option (X×List Nat)
 |[]=>some (.nl,[])
 |a::as=>af (P5 st a) λp=>if Q4 st p.2 as then af (LL st as) λq=>some (.cn p.1 q.1,p.2++q.2)else none
def RF(st:Nat->Nat):AV->Option (X×List Nat)
 |.A cs=>af (LL st cs) λp=>some (.agg p.1,p.2)
 |a=>P5 st a
def JK(st:Nat->Nat):List AV->Option (X×List Nat)
 |[]=>some (.nl,[])
 |a::as=>af (RF st a) λp=>if Q4 st p.2 as then af (JK st as) λq=>some (.cn p.1 q.1,p.2++q.2)else none
structure Took (I:Inv) (c:Cx) (N:List Nat) (h h':Heap) (R W:List ax):Prop where
 same:∀r,c.nm r∉N->h'.get r=h.get r
 ll:h'.L.length=h.L.length
 la:h'.A.length=h.A.length
 rd:dV I (N.map (sn I.st)) R
 wr:dV I (N.map (sn I.st)) W
 fl:FlOk I h h'
theorem gQ{I:Inv}{S T:List Nat}{l:List ax}(h:dV I S l)(hs:∀x∈S,x∈T):dV I T l:=λr hr=>⟨(h r hr).1,hs _ (h r hr).2⟩
theorem mz{I:Inv}{S:List Nat}{l m:List ax}(h:dV I S l)(k:dV I S m):dV I S (l++m):=λr hr=>by
 rcases List.mem_append.1 hr with hr|hr
 ·exact h r hr
 ·exact k r hr
theorem Took.refl(I:Inv)(c:Cx)(S:List Nat)(h:Heap):Took I c S h h [] []:=⟨λ_ _=>rfl,rfl,rfl,λ_ h=>(by cases h),λ_ h=>(by cases h),.refl _ _⟩
theorem Took.trans{I:Inv}{c:Cx}{S T:List Nat}{h h1 h2:Heap}{R W R' W':List ax}(A:Took I c S h h1 R W)(B:Took I c T h1 h2 R' W'):Took I c (S++T) h h2 (R++R') (W++W') where
 same r hr:=by
  simp only[Vi,not_or]at hr;rw[B.same r hr.2,A.same r hr.1]
 ll:=by rw[B.ll,A.ll]
 la:=by rw[B.la,A.la]
 rd:=by rw[U1];exact mz (gQ A.rd λ_ h=>TI _ h) (gQ B.rd λ_ h=>TE _ h)
 wr:=by rw[U1];exact mz (gQ A.wr λ_ h=>TI _ h) (gQ B.wr λ_ h=>TE _ h)
 fl:=A.fl.trans B.fl
theorem Took.mut{I:Inv}{c:Cx}{S:List Nat}{h h':Heap}{R W:List ax}(A:Took I c S h h' R W)(env:Env)(d:Option Nat):Mut I.st [] S d c c h h' env:=
 Mut.of (λr _ hr=>⟨A.same r hr,rfl⟩) λ_ _=>⟨rfl,rfl⟩
section
variable{I:Inv}{c:Cx}{env:Env}
theorem yD{N:Nm I c}{r:ax}(h:c.nm r %2=0)(hr:r≠ .dead):∃s,r=.l s:=by
 cases r with
 |a i=>rw[N.a i]at h;omega
 |l s=>exact⟨s,rfl⟩
 |dead=>exact absurd rfl hr
theorem nB(n s ver sz off len room:Nat)(c0:Bool):bv (n+1) (.tok (.l s) ver sz off len room c0)=if len=0 then .ret (.lst [] c0)else
  (elems (.tok (.l s) ver sz off len 0 c0)).bind λes=>(HM.mapM (bv n) es).bind λes'=>(bM (.l s) ver).bind λ_=>.set (.l s) ⟨ver,none⟩ (.ret (.lst es' c0)):=rfl
theorem D8(N:Nm I c){h:Heap}{a:AV}{v:PV}{p:X×List Nat}(R:Rel c h env a v)(H:P5 I.st a=some p)(n:Nat):
  ∃v' h' Rr W,(bv (n+3) v).runT h=some (v',h',Rr,W)/\pl v'=true/\p.1.ev env=some (aP v')/\Took I c p.2 h h' Rr W/\(v.isCell=true->v'.isCell=true)/\v'.cells.length=v.cells.length/\(∀sz,v.cells.length=sz->v'.cells.length=sz):=by
 unfold P5 at H;split at H
 ·cases H;exact⟨v,h,[],[],by rw[kw R.1];rfl,R.1,R.2,Took.refl ..,λh=>h,rfl,λ_ h=>h⟩
 ·cases H;have hp:=jr R.1;exact⟨v,h,[],[],by rw[kw hp.1];rfl,hp.1,by rw[hp.2];exact R.2,Took.refl ..,λh=>h,rfl,λ_ h=>h⟩
 ·split at H
  ·rename_i fs w wr sz e hev;cases H;obtain⟨hv,x,T,he,_⟩:=R;rcases T with⟨hn,hx⟩|⟨r,ver,off,len,room,c0,b,hT,hnm,hget,hs,ho,hr,hpl,hc,hx⟩
   ·have hp:=jr hn;exact⟨v,h,[],[],by rw[kw hp.1];rfl,hp.1,by rw[hp.2,<-hx];exact he,Took.refl ..,λh=>h,rfl,λ_ h=>h⟩
   ·have hnd:=bQ hget;obtain⟨s,rfl⟩:=yD (N:=N) (by have:=List.all_eq_true.1 hev _ hnm;simpa using this) hnd;have hview:=dJ (dw hpl off) len;have hmap:=tF hview (n+0);by_cases h0:len=0
    ·subst h0;refine⟨.lst [] c0,h,[],[],?_,rfl,by rw[he,hx];simp[aP,aF],Took.refl ..,λ_=>rfl,by rw[hT];rfl,λsz h=>by rw[<-h,hT];rfl⟩;rw[hT,nB,TB rfl];rfl
    ·refine⟨.lst (List.take len (List.drop off b.es)) c0,h.put (.l s) ⟨ver,none⟩,[.l s]++([]++[.l s]),[]++([]++[.l s]),?_,hview,by rw[he,hx];simp[aP],⟨λr hr'=>?_,(bG _ _ _).1,(bG _ _ _).2,λr hr'=>?_,λr hr'=>?_,.put_l _ _ _ _⟩,λ_=>rfl,by rw[hT];rfl,λsz h=>by rw[<-h,hT];rfl⟩
     ·rw[hT,nB,TF h0];have he1:(elems (.tok (.l s) ver sz off len 0 c0)).runT h=some (List.take len (List.drop off b.es),h,[.l s],[]):=by
       simp only[elems,TF h0];refine HM.runT_bind_of (R:=[.l s]) (R2:=[]) (W:=[]) (W2:=[]) (bc hget) ?_;rw[TB ⟨ho,hs⟩];rfl
      refine HM.runT_bind_of he1 ?_;rw[hmap];simp only[HM.bind];rw[HM.runT_bind,bc hget];simp only[HM.runT,hget];rfl
     ·have hne:r≠ .l s:=by
       rintro rfl
       exact hr' hnm
      exact Heap.get_put_other hne
     all_goals
      have:r=.l s:=by simpa using hr'
      subst this;exact⟨hnd,by rw[<-jA N hnd];exact Uo hnm⟩
  ·cases H
 ·cases H
theorem wu{I:Inv}{c:Cx}{env:Env}{S:List Nat}{h h':Heap}{Rr W:List ax}(T:Took I c S h h' Rr W){as:List AV}{vs:List PV}(ho:Q4 I.st S as=true)(R:RelL c h env as vs):RelL c h' env as vs:=
 RelL.frame (T.mut env none) ho R
theorem Ga(N:Nm I c)(n:Nat):∀{as:List AV}{vs:List PV}{h:Heap}{p:X×List Nat},RelL c h env as vs->LL I.st as=some p->
  ∃vs' h' Rr W,(HM.mapM (bv (n+3)) vs).runT h=some (vs',h',Rr,W)/\cg vs'=true/\p.1.ev env=some (.tup (aF vs'))/\Took I c p.2 h h' Rr W/\(ak vs=true->ak vs'=true)/\vs'.length=vs.length
 |[],[],h,p,R,H=>by
  cases H;exact⟨[],h,[],[],rfl,rfl,rfl,Took.refl ..,λh=>h,rfl⟩
 | a::as,v::vs,h,p,R,H=>by
  simp only[LL,ab]at H;obtain⟨p1,h1,H⟩:=H;split at H
  ·rename_i ho;simp only[ab]at H;obtain⟨q,h2,h3⟩:=H;cases h3;obtain⟨v',g,R1,W1,k1,k2,k3,k4,k5,k6,_⟩:=D8 N R.1 h1 n;obtain⟨vs',g',R2,W2,l1,l2,l3,l4,l5,l6⟩:=Ga N n (wu k4 ho R.2) h2;refine⟨v'::vs',g',R1++(R2++[]),W1++(W2++[]),?_,by simp only[cg,k2,l2,Ub],by simp only[X.ev,k3,l3,ac,aF],?_,λhc=>?_,by simp[l6]⟩
   ·rw[HM.mapM];refine HM.runT_bind_of k1 ?_;exact HM.runT_bind_of l1 rfl
   ·rw[T6,T6];exact k4.trans l4
   ·simp only[ak,TA]at hc⊢;exact⟨k5 hc.1,l5 hc.2⟩
  ·cases H
 |[],_::_,_,_,R,_=>by cases R
 |_::_,[],_,_,R,_=>by cases R
theorem Iw(N:Nm I c){h:Heap}{a:AV}{v:PV}{p:X×List Nat}(R:Rel c h env a v)(H:RF I.st a=some p)(n:Nat):
  ∃v' h' Rr W,(bv (n+4) v).runT h=some (v',h',Rr,W)/\pl v'=true/\p.1.ev env=some (aP v')/\Took I c p.2 h h' Rr W/\v'.cells.length=v.cells.length:=by
 unfold RF at H;split at H
 ·rename_i cs;simp only[ab]at H;obtain⟨q,h1,h2⟩:=H;cases h2;obtain⟨vs,rfl,hok,hR⟩:=R;obtain⟨vs',g,R1,W1,k1,k2,k3,k4,k5,k6⟩:=Ga N n hR h1;refine⟨.agg vs',g,R1++[],W1++[],HM.runT_bind_of k1 rfl,by simp only[pl,k5 hok,k2,Ub],?_,by rw[T6,T6];exact k4,by simp[PV.cells,k6]⟩;simp only[X.ev,k3,ac,bZ,dQ,k5 hok,TY,aP]
 ·obtain⟨v',g,R1,W1,k1,k2,k3,k4,k5,k6,_⟩:=D8 N R H (n+1);exact⟨v',g,R1,W1,k1,k2,k3,k4,k6⟩
theorem AY(N:Nm I c)(n:Nat):∀{as:List AV}{vs:List PV}{h:Heap}{p:X×List Nat},RelL c h env as vs->JK I.st as=some p->
  ∃vs' h' Rr W,(HM.mapM (bv (n+4)) vs).runT h=some (vs',h',Rr,W)/\cg vs'=true/\p.1.ev env=some (.tup (aF vs'))/\Took I c p.2 h h' Rr W/\vs'.length=vs.length/\(∀sz,cq sz vs=true->cq sz vs'=true)
 |[],[],h,p,R,H=>by
  cases H;exact⟨[],h,[],[],rfl,rfl,rfl,Took.refl ..,rfl,λ_ h=>h⟩
 | a::as,v::vs,h,p,R,H=>by
  simp only[JK,ab]at H;obtain⟨p1,h1,H⟩:=H;split at H
  ·rename_i ho;simp only[ab]at H;obtain⟨q,h2,h3⟩:=H;cases h3;obtain⟨v',g,R1,W1,k1,k2,k3,k4,k5⟩:=Iw N R.1 h1 n;obtain⟨vs',g',R2,W2,l1,l2,l3,l4,l5,l6⟩:=AY N n (wu k4 ho R.2) h2;refine⟨v'::vs',g',R1++(R2++[]),W1++(W2++[]),?_,by simp only[cg,k2,l2,Ub],by simp only[X.ev,k3,l3,ac,aF],?_,by simp[l5],λsz hs=>?_⟩
   ·rw[HM.mapM];refine HM.runT_bind_of k1 ?_;exact HM.runT_bind_of l1 rfl
   ·rw[T6,T6];exact k4.trans l4
   ·simp only[cq,TA,Ue]at hs⊢;exact⟨by rw[k5];exact hs.1,l6 sz hs.2⟩
  ·cases H
 |[],_::_,_,_,R,_=>by cases R
 |_::_,[],_,_,R,_=>by cases R
end
def Abs.fitsL(a:Abs)(sz:Option Nat):List PO->Option (List AV×List X)
 |[]=>some ([],[])
 |x::xs=>af (a.po x) λav=>af (cellsOf sz av) λcn=>af (a.fitsL sz xs) λl=>some (av::l.1,cn.2++l.2)
theorem Abs.fitsL_ok{I:Inv}{c:Cx}{a:Abs}{env:Env}{σ:St}(S:Sim I c a env σ){sz:Option Nat}:∀{xs:List PO}{l:List AV×List X},a.fitsL sz xs=some l->au env l.2=true->
  RelL c σ.h env l.1 (lT (PO.ev σ.fr) xs)/\iF sz (lT (PO.ev σ.fr) xs)=true/\cq (sz.getD 1) (lT (PO.ev σ.fr) xs)=true
 |[],l,H,_=>by cases H;exact⟨trivial,rfl,rfl⟩
 |x::xs,l,H,hg=>by
  simp only[Abs.fitsL,ab]at H;obtain⟨av,h1,cn,h2,l',h3,h4⟩:=H;cases h4;simp only[dt,TA]at hg;obtain⟨q1,q2,q3⟩:=oJ (Abs.po_ok S h1) h2 hg.1;obtain⟨k1,k2,k3⟩:=Abs.fitsL_ok S h3 hg.2;exact⟨⟨Abs.po_ok S h1,k1⟩,by simp only[lT,iF,q1,q2,k2,Ub],by simp only[lT,cq,Cg q1,Tz,k3,Ub]⟩
def xA(st:Nat->Nat)(kp:List Nat)(ns:Nat)(a:Abs)(d:Nat)(sz:Option Nat)(parts:List PO)(s:Nat):Option wF:=
 af (a.fitsL sz parts) λl=>if s<ns/\oL kp [2*st s]/\AV.okL (AC st [2*st s] []) (yY (some d)) (λ_=>false) l.1 then
  some ⟨.L [2*s] (sz.getD 1) l.1,a.kill st [2*st s] [] (some d),l.2,[2*st s],[2*st s]⟩else none
theorem DH{I:Inv}{c:Cx}{a:Abs}{env:Env}{σ:St}(S:Sim I c a env σ)(hodd:∀k∈I.kp,k %2=1){d:Nat}{sz:Option Nat}{parts:List PO}{s:Nat}{r:wF}
  (H:xA I.st I.kp I.ns a d sz parts s=some r)(hg:au env r.ns=true):kE I c a env σ (some d) (dP sz (lT (PO.ev σ.fr) parts) s) r:=by
 simp only[xA,ab]at H;obtain⟨l,h1,H⟩:=H;split at H
 ·rename_i hc;cases H;obtain⟨k1,k2,k3⟩:=Abs.fitsL_ok S h1 hg;generalize hvs:lT (PO.ev σ.fr) parts=vs at*;obtain⟨e0,hge⟩:=mD S.hl hc.1;have hg':(σ.h.put (.l s) ⟨e0.ver+1,some ⟨sz.getD 1,vs,false⟩⟩).get (.l s)=some ⟨e0.ver+1,some ⟨sz.getD 1,vs,false⟩⟩:=Heap.get_put_same hge (by intro i h;cases h);have S':Sim I c a env ⟨σ.fr,σ.h⟩:=S;have hT:dV I [2*I.st s] [.l s]:=λr hr=>by
   simp only[T1]at hr;subst hr;exact⟨(by intro h;cases h),by simp[Inv.sr]⟩
  have M:=Bb S' (s:=s) (d:=d) ⟨e0.ver+1,some ⟨sz.getD 1,vs,false⟩⟩ .junk;refine⟨.tok (.l s) (e0.ver+1) (sz.getD 1) 0 vs.length vs.length false,σ.h.put (.l s) ⟨e0.ver+1,some ⟨sz.getD 1,vs,false⟩⟩,[.l s]++[],[.l s]++[],c.new s d (e0.ver+1) .junk,?_,
   S'.mutate M (S.nm.new _ _ _ _) (bG _ _ _).1 (bG _ _ _).2 hodd hc.2.1 (.put_l _ _ _ _),⟨.l s,e0.ver+1,vs,rfl,by simp[Cx.new],hg',k3,RelL.frame M hc.2.2 k1⟩,hT,hT,by intro i;simp[Cx.new],Bs,.put_l _ _ _ _⟩
  simp only[dP,k2,TY];exact HM.runT_bind_of (ky (b:=⟨sz.getD 1,vs,false⟩) hge) rfl
 ·cases H
def wC(sz:Nat)(x:PV)(vs:List PV)(s:Nat):HM PV:=
 if vs.isEmpty then(match x with|.nils=>.ret .nils|.lst es c0=>.ret (.lst es c0)|.tok r ver z off len room c0=>.ret (.tok r ver z off len room c0)|_=>.fail)
 else match x with
  |.nils=>fD sz [] vs s
  |.lst es c0=>if c0/\es.isEmpty then fD sz [] vs s else .fail
  |.tok r ver z off len room c0=>if c0 then(if len=0 then fD sz [] vs s else .fail)else if z=sz then iW sz r ver off len room vs s else .fail
  |_=>.fail
theorem CO(sz:Nat)(x y:PV)(s:Nat):kq sz x y s=(elems y).bind λvs0=>if cq sz vs0 then(HM.mapM (bv 9) vs0).bind λvs=>wC sz x vs s else .fail:=rfl
theorem rn{sz:Nat}:∀{vs:List PV},cq sz vs=true->∀x∈vs,x.cells.length=sz
 |[],_,x,h=>by cases h
 |v::vs,hs,x,h=>by
  simp only[cq,TA,Ue]at hs;rcases List.mem_cons.1 h with rfl|h
  ·exact hs.1
  ·exact rn hs.2 x h
structure Ps (c:Cx) (h:Heap) (fs:List Nat) (sz:Nat) (v:PV) (xs:List PV):Prop where
 t:TokOk (λr=>c.nm r∈fs) h sz v (.lst xs false)
 w:WrOk h v
structure Jl (I:Inv) (c:Cx) (h:Heap) (env:Env) (d s:Nat) (fs:List Nat) (sz:Nat) (m:HM PV) (xs:List PV) (v:PV) (h':Heap) (R W:List ax) (c':Cx):Prop where
 run:m.runT h=some (v,h',R,W)
 nu:c'.nu d=v
 t:TokOk (λr=>c'.nm r∈2*s::fs) h' sz v (.lst xs false)
 w:WrOk h' v
 mu:Mut I.st [2*I.st s] fs (some d) c c' h h' env
 nm:Nm I c'
 ll:h'.L.length=h.L.length
 la:h'.A.length=h.A.length
 rd:dV I (2*I.st s::fs.map (sn I.st)) R
 wr:dV I (2*I.st s::fs.map (sn I.st)) W
 al:∀i,c'.nm (.a i)=c.nm (.a i)
 be:∀w,some d≠some w->c'.be w=c.be w
 fl:FlOk I h h'
section
variable{I:Inv}{c:Cx}{env:Env}
theorem AP(N:Nm I c){h:Heap}{d s:Nat}{fs:List Nat}{sz:Nat}{vs xs:List PV}{n:Nat}(hs:s<I.ns)(hL:h.L.length=I.ns)(hp:cg (xs++vs)=true)(hc:∀x∈xs++vs,x.cells.length=sz)(hn:xs.length=n){m:HM PV}
  (hm:m=(eX s ⟨sz,xs++vs,false⟩).bind λv=>.ret (.tok (.l s) v sz 0 (n+vs.length) (n+vs.length) false)):
  ∃v h' R W c',Jl I c h env d s fs sz m (aF (xs++vs)) v h' R W c':=by
 subst hn;obtain⟨e0,hge⟩:=mD hL hs;have hlen:(xs++vs).length=xs.length+vs.length:=Ud;have hg':(h.put (.l s) ⟨e0.ver+1,some ⟨sz,xs++vs,false⟩⟩).get (.l s)=some ⟨e0.ver+1,some ⟨sz,xs++vs,false⟩⟩:=Heap.get_put_same hge (by intro i h;cases h);have hT:dV I (2*I.st s::fs.map (sn I.st)) ([.l s]++[]):=λr hr=>by
  simp only[T6,T1]at hr;subst hr;exact⟨(by intro h;cases h),by simp[Inv.sr]⟩
 refine⟨.tok (.l s) (e0.ver+1) sz 0 (xs.length+vs.length) (xs.length+vs.length) false,h.put (.l s) ⟨e0.ver+1,some ⟨sz,xs++vs,false⟩⟩,[.l s]++[],[.l s]++[],c.new s d (e0.ver+1) (.tok (.l s) (e0.ver+1) sz 0 (xs.length+vs.length) (xs.length+vs.length) false),?_,by simp[Cx.new],?_,?_,?_,N.new _ _ _ _,(bG _ _ _).1,(bG _ _ _).2,hT,hT,by intro i;simp[Cx.new],Bs,.put_l _ _ _ _⟩
 ·subst hm;exact HM.runT_bind_of (ky (b:=⟨sz,xs++vs,false⟩) hge) rfl
 ·exact .inr ⟨.l s,e0.ver+1,0,_,_,false,_,rfl,by simp[Cx.new],hg',rfl,by rw[hlen];omega,TN _,hp,hc,by rw[Vw,<-hlen,Vq]⟩
 ·exact .inr ⟨.l s,e0.ver+1,sz,0,_,_,_,rfl,hg',rfl,by rw[hlen];omega⟩
 ·refine Mut.of (λr hr _=>?_) λw hw=>?_
  ·have hne:r≠ .l s:=by
    rintro rfl
    apply hr;rw[jA N (by intro h;cases h)];simp[Inv.sr]
   exact⟨Heap.get_put_other hne,by simp[Cx.new,hne]⟩
  ·have:w≠d:=λe=>hw (by rw[e]);simp[Cx.new,this]
theorem Ea(N:Nm I c){h:Heap}{d s:Nat}{fs:List Nat}{sz:Nat}{v:PV}{xs vs:List PV}(A:Ps c h fs sz v xs)(hs:s<I.ns)(hL:h.L.length=I.ns)(hp:cg vs=true)(hc:∀x∈vs,x.cells.length=sz)(hmax:xs.length+vs.length<bV):
  ∃v' h' R W c',Jl I c h env d s fs sz (wC sz v vs s) (xs++aF vs) v' h' R W c':=by
 obtain⟨T,Wr⟩:=A;by_cases hem:vs.isEmpty=true
 ·have hvs:vs=[]:=List.isEmpty_iff.1 hem;subst hvs;refine⟨v,h,[],[],c.view d v,?_,by simp[Cx.view],?_,Wr,CY d v,⟨N.l,N.a⟩,rfl,rfl,λ_ h=>(by cases h),λ_ h=>(by cases h),λ_=>rfl,λ_ _=>rfl,.refl _ _⟩
  ·have:wC sz v [] s=.ret v:=by
    rcases T with⟨hn|hn,_⟩|⟨r,ver,off,len,room,c0,b,hT,_⟩
    ·rw[hn];rfl
    ·rw[hn];rfl
    ·rw[hT];rfl
   rw[this];rfl
  ·simp only[aF,T6];rcases T with T|⟨r,ver,off,len,room,c0,b,hT,hnm,T⟩
   ·exact .inl T
   ·exact .inr ⟨r,ver,off,len,room,c0,b,hT,TG _ hnm,T⟩
 ·have hnil:∀{m:HM PV},xs=[]->m=fD sz [] vs s->∃v' h' R W c',Jl I c h env d s fs sz m (xs++aF vs) v' h' R W c':=by
   intro m hx hm;subst hx;obtain⟨v',h',R,W,c',k⟩:=AP (env:=env) (d:=d) (fs:=fs) (m:=m) N hs hL (xs:=[]) (vs:=vs) (n:=0) (sz:=sz) (by simpa using hp) (by simpa using hc) rfl (by
    rw[hm];simp only[fD,Um,TL];rw[TB (by simpa using hmax)])
   exact⟨v',h',R,W,c',by simpa using k⟩
  simp only[wC,hem,T4,TU];rcases T with⟨hn,hx⟩|⟨r,ver,off,len,room,c0,b,hT,hnm,hget,hsz,ho,hr,hpl,hcc,hx⟩
  ·simp only[PV.lst.injEq,U6]at hx;rcases hn with hn|hn
   ·rw[hn];exact hnil hx rfl
   ·rw[hn];exact hnil hx rfl
  ·simp only[PV.lst.injEq,U6]at hx;have hwr:b.ro=false/\off+room<=b.es.length/\c0=false:=by
    rcases Wr with hn|⟨r',ver',sz',off',len',room',b',hq,hq2,hq3,hq4⟩
    ·rcases hn with hn|hn<;>rw[hn]at hT<;>cases hT
    ·rw[hq]at hT;cases hT;rw[hget]at hq2;cases hq2;exact⟨hq3,hq4,rfl⟩
   obtain⟨w1,w2,rfl⟩:=hwr;have hxl:xs.length=len:=by rw[hx,aS,T7,Ur];omega
   rw[hT];simp only[T4,TU,TY];have hview:=dJ (dw hpl off) len;have hvc:∀x∈(b.es.drop off).take len,x.cells.length=sz:=λx hx=>hcc x (UH (UI hx));have hvl:((b.es.drop off).take len).length=len:=by rw[T7,Ur];omega
   have hnd:=bQ hget;have hsr:I.sr r∈2*I.st s::fs.map (sn I.st):=by
    rw[<-jA N hnd];exact TG _ (Uo hnm)
   have hTr:dV I (2*I.st s::fs.map (sn I.st)) [r]:=λq hq=>by
    simp only[T1]at hq;subst hq;exact⟨hnd,hsr⟩
   have hguard:b.sz=sz/\b.ro=false/\off+len<=b.es.length/\len+vs.length<bV:=⟨hsz,w1,ho,by omega⟩;by_cases hroom:len+vs.length<=room
   ·have hver:∀i,r=.a i->(⟨ver,some ⟨sz,b.es.take (off+len)++vs++b.es.drop (off+len+vs.length),false⟩⟩:fX).ver=0:=λi hi=>by
     rw[hi]at hget;have h0:=Heap.ver_a hget;exact h0
    have hg':=Heap.get_put_same hget hver;have hln:(b.es.take (off+len)++vs++b.es.drop (off+len+vs.length)).length=b.es.length:=by
     simp only[Ud,T7,Ur];omega
    have hvw:((b.es.take (off+len)++vs++b.es.drop (off+len+vs.length)).drop off).take (len+vs.length)=(b.es.drop off).take len++vs:=by
     have e1:(List.take (off+len) b.es).length=off+len:=by rw[T7];omega
     rw[UA,Vv (by rw[e1];omega),List.drop_take,show off+len-off=len by omega];rw[List.take_append,hvl,UB (by omega),show len+vs.length-len=vs.length by omega,U7 (TN _),UB (TN _)]
    refine⟨.tok r ver sz off (len+vs.length) room false,h.put r ⟨ver,some ⟨sz,b.es.take (off+len)++vs++b.es.drop (off+len+vs.length),false⟩⟩,[r]++[],[]++[r],c.view d (.tok r ver sz off (len+vs.length) room false),?_,by simp[Cx.view],?_,?_,?_,⟨N.l,N.a⟩,(bG _ _ _).1,(bG _ _ _).2,by simpa using hTr,by simpa using hTr,λ_=>rfl,λ_ _=>rfl,λi ver' b' hgi=>?_⟩
    ·unfold iW;refine HM.runT_bind_of (bc hget) ?_;rw[TB hguard,TB hroom,TB (by omega)];simp only[HM.runT,hget]
    ·refine .inr ⟨r,ver,off,_,_,false,_,rfl,TG _ hnm,hg',rfl,by rw[hln];omega,hroom,?_,?_,?_⟩
     ·simp only[lg,dJ hpl,hp,dw hpl,Ub]
     ·intro x hx';rcases List.mem_append.1 hx' with hx'|hx'
      ·rcases List.mem_append.1 hx' with hx'|hx'
       ·exact hcc x (UI hx')
       ·exact hc x hx'
      ·exact hcc x (UH hx')
     ·rw[hvw,nX,<-hx]
    ·exact .inr ⟨r,ver,sz,off,_,_,_,rfl,hg',rfl,by rw[hln];omega⟩
    ·refine Mut.of (λq _ hq=>⟨Heap.get_put_other ?_,rfl⟩) λw hw=>?_
     ·rintro rfl
      exact hq hnm
     ·have:w≠d:=λe=>hw (by rw[e]);simp[Cx.view,this]
    ·by_cases hi:ax.a i=r
     ·right;left;rw[hi,hg']at hgi;simp only[Ty,fX.mk.injEq]at hgi;rw[<-hgi.2];simp only[lg,dJ hpl,hp,dw hpl,Ub]
     ·exact .inl ⟨ver',b',by rw[<-hgi];exact(Heap.get_put_other hi).symm,rfl⟩
   ·by_cases hrs:r=.l s
    ·obtain⟨v',h',R,W,c',k⟩:=AP (env:=env) (d:=d) (fs:=fs) (h:=h) N hs hL (xs:=(b.es.drop off).take len) (vs:=vs) (n:=len) (sz:=sz) (by simp only[lg,hview,hp,Ub])
      (λx hx'=>by
       rcases List.mem_append.1 hx' with hx'|hx'
       ·exact hvc x hx'
       ·exact hc x hx') hvl rfl
     rw[nX,<-hx]at k;refine⟨v',h',[r]++R,[]++W,c',?_,k.nu,k.t,k.w,k.mu,k.nm,k.ll,k.la,mz hTr k.rd,k.wr,k.al,k.be,k.fl⟩;unfold iW;refine HM.runT_bind_of (bc hget) ?_;rw[TB hguard,TF hroom,TB hrs];exact k.run
    ·have hver:∀i,r=.a i->(⟨ver,none⟩:fX).ver=0:=λi hi=>by
      rw[hi]at hget;have h0:=Heap.ver_a hget;exact h0
     obtain⟨v',h',R,W,c',k⟩:=AP (env:=env) (d:=d) (fs:=fs) (h:=h.put r ⟨ver,none⟩) N hs (by rw[(bG _ _ _).1];exact hL) (xs:=(b.es.drop off).take len) (vs:=vs) (n:=len) (sz:=sz) (by simp only[lg,hview,hp,Ub])
      (λx hx'=>by
       rcases List.mem_append.1 hx' with hx'|hx'
       ·exact hvc x hx'
       ·exact hc x hx') hvl rfl
     rw[nX,<-hx]at k;refine⟨v',h',[r]++R,[]++(r::W),c',?_,k.nu,k.t,k.w,?_,k.nm,by rw[k.ll,(bG _ _ _).1],by rw[k.la,(bG _ _ _).2],mz hTr k.rd,?_,k.al,k.be,?_⟩
     ·unfold iW;refine HM.runT_bind_of (bc hget) ?_;rw[TB hguard,TF hroom,TF hrs];simp only[HM.runT,hget];rw[k.run]
     ·refine⟨λq hq=>?_,k.mu.i,λ_ _=>rfl⟩;have h1:=k.mu.n q hq;rw[h1.1,h1.2];refine⟨Heap.get_put_other ?_,rfl⟩
      rintro rfl
      exact(fC.1 hq).2 hnm
     ·intro q hq;rcases List.mem_cons.1 hq with rfl|hq
      ·exact⟨hnd,hsr⟩
      ·exact k.wr q hq
     ·refine FlOk.trans (λi ver' b' hgi=>?_) k.fl;by_cases hi:ax.a i=r
      ·rw[hi,Heap.get_put_same hget hver]at hgi;simp at hgi
      ·exact .inl ⟨ver',b',by rw[<-hgi];exact(Heap.get_put_other hi).symm,rfl⟩
end
end Gv
