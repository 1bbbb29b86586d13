/- A part of the proof that the law is true of all its inputs, by an interpreter that is proved sound. -/
import Derived.Test.YtfaeljmkbadgdaaEc
namespace Gv
open Go (IntKind BinOp UnOp)
mutual
def aM:PV->PV
  |.nils=>.lst [] false
  |.lst es _=>.lst (az es) false
  |.lptr cs=>.lptr (az cs)
  |.agg cs=>.agg (az cs)
  |.tup cs=>.tup (az cs)
  |.fn f cs=>.fn f (az cs)
  |v=>v
def az:List PV->List PV
  |[]=>[]
  |x::xs=>aM x::az xs
end
inductive X where
  |v (n:Nat)
  |int (k:IntKind) (n:Int)
  |boo (b:Bool)
  |str (s:List UInt8)
  |nilp
  |nilfn
  |nl
  |cn (a l:X)
  |agg (l:X)
  |lst (l:X)
  |lp (l:X)
  |tup (l:X)
  |fn (f:Nat) (l:X)
  |bin (op:BinOp) (a b:X)
  |un (op:UnOp) (a:X)
  |toInt (k:IntKind) (a:X)
  |eqs (neg:Bool) (ks:List Bool) (a b:X)
  |eqb (neg:Bool) (a b:X)
  |eqn (k:Nat) (neg:Bool) (a b:X)
  |len (a:X)
  |lenS (a:X)
  |fld (sz:Option Nat) (a:X) (o:Nat)
  |ld (sz:Option Nat) (a:X) (o:Nat)
  |ia (sz:Nat) (a i:X)
  |fa (a:X) (o:Nat)
  |iaa (n sz:Nat) (a i:X)
  |slice (sz:Nat) (a lo hi mx:X)
  |app (sz:Nat) (a b:X)
  |mks (sz:Nat) (z n:X)
  |ite (c a b:X)
  |gd (c:X) (p:Bool) (e:X)
  |b2s (a:X)
  |s2b (a:X)
  |mm (b:Bool) (l:X)
  |ext (a:X) (i:Nat)
  |upd (sz:Option Nat) (a i:X) (o:Nat) (e:X)
  |chk (sz:Option Nat) (e:X)
  |pos (a:X)
  |nck (a:X)
  deriving DecidableEq,Inhabited
abbrev Env:=Nat->PV
def bP:PV->Option (List PV)
  |.tup l=>some l
  |_=>none
def dp:PV->Option PV
  |.lst es _=>some (.int .i64 es.length)
  |_=>none
def kE:PV->Option (Option PV)
  |.tup []=>some none
  |.int k n=>some (some (.int k n))
  |_=>none
def dK(sz:Nat)(x lo hi mx:PV):Option PV:=
  match kE lo,kE hi,kE mx with
  | some lo,some hi,some mx=>match x with
    |.lst es _=>if sz=0∨(mx.isSome&&hi.isNone)=true then none else(cA sz es false lo hi mx).map aM
    |.str s=>if sz=0 then(if mx.isSome then none else qf s lo hi)else none
    |_=>none
  |_,_,_=>none
def jl(sz:Nat)(x y:PV):Option PV:=
  match x,y with
  |.lst xs _,.lst ys _=>if bO sz ys/\xs.length+ys.length<bB then some (.lst (xs++ys) false)else none
  |.lst xs _,.str s=>if sz=1/\xs.length+s.length<bB then some (.lst (xs++s.map λb=>PV.int .u8 b.toNat) false)else none
  |_,_=>none
def JH(sz:Nat)(z n:PV):Option PV:=
  match n with
  |.int _ n=>if 0<=n/\n<bB/\z.cells.length=sz/\ai z.cells then some (.lst (List.replicate n.toNat z) false)else none
  |_=>none
def Dg:PV->Option PV
  |.lst es _=>(eC es).map PV.str
  |_=>none
def F4:PV->Option PV
  |.str l=>if l.length<bB then some (.lst (l.map λb=>PV.int .u8 b.toNat) false)else none
  |_=>none
def zL(b:Bool):List PV->Option PV
  |[]=>none
  |y::ys=>lU b y ys
def z9( sz:Option Nat)(x i:PV)(o:Nat)(e:PV):Option PV:=
  match x,i with
  | .lst es _,.int _ n=>if 0<=n/\n<es.length then match es[n.toNat]? with
      |some y=>if e.fits sz/\ai e.cells/\o+e.cells.length<=y.cells.length
          then some (.lst (es.set n.toNat (y.withCells (y.cells.take o++e.cells++y.cells.drop (o+e.cells.length)))) false)else none
      |none=>none
    else none
  |_,_=>none
def lL(cs:List PV)(o:Nat)(sz:Option Nat):Option PV:=match db cs o sz with|some x=>if x.fits sz then some x else none|none=>none
def BB(sz:Option Nat)(o:Nat):PV->Option PV
  |.lptr cs=>lL cs o sz
  |_=>none
def sh(sz:Option Nat)(o:Nat):PV->Option PV
  |.agg cs=>lL cs o sz
  |_=>none
def Cm(i:Nat):PV->Option PV
  |.tup vs=>vs[i]?
  |_=>none
def Fl:PV->Option PV
  |.lptr cs=>some (.lptr cs)
  |.fn f cs=>some (.fn f cs)
  |_=>none
def EH:PV->Option PV
  |.lst (e::es) c=>some (.lst (e::es) c)
  |_=>none
def Cp(sz:Option Nat)(x:PV):Option PV:=if x.fits sz/\ai x.cells then some x else none
def ku(k:IntKind):PV->Option PV
  |.int _ n=>some (.int k (k.wrap n))
  |_=>none
def pR(neg:Bool)(ks:List Bool)(x y:PV):Option PV:=
  match x,y with
  |.agg xs,.agg ys=>match aH ks xs ys with|some b=>some (.bool (if neg then !b else b))|none=>none
  |_,_=>none
def Hm(f:Nat)(l:PV):Option PV:=(bP l).map (PV.fn f)
def af{α β:Type}(x:Option α)(f:α->Option β):Option β:=match x with|some a=>f a|none=>none
@[simp] theorem ac {α β:Type} (a:α) (f:α->Option β):af (some a) f=f a:=rfl
@[simp] theorem mo {α β:Type} (f:α->Option β):af (none:Option α) f=none:=rfl
def X.ev(env:Env):X->Option PV
  |.v n=>some (env n)
  |.int k n=>some (.int k n)
  |.boo b=>some (.bool b)
  |.str s=>some (.str s)
  |.nilp=>some .nilp
  |.nilfn=>some .nilfn
  |.nl=>some (.tup [])
  |.cn a l=>af (a.ev env) λx=>af (l.ev env) λy=>match y with|.tup xs=>some (.tup (x::xs))|_=>none
  |.agg l=>af (l.ev env) λy=>af (bP y) λxs=>if ai xs then some (.agg xs)else none
  |.lst l=>af (l.ev env) λy=>af (bP y) λxs=>some (.lst xs false)
  |.lp l=>af (l.ev env) λy=>af (bP y) λxs=>if ai xs then some (.lptr xs)else none
  |.tup l=>af (l.ev env) λy=>af (bP y) λxs=>some (.tup xs)
  |.fn f l=>af (l.ev env) λy=>Hm f y
  |.bin op a b=>af (a.ev env) λx=>af (b.ev env) λy=>Gv.bin op x y
  |.un op a=>af (a.ev env) λx=>Gv.un op x
  |.toInt k a=>af (a.ev env) λx=>ku k x
  |.eqs neg ks a b=>af (a.ev env) λx=>af (b.ev env) λy=>pR neg ks x y
  |.eqb neg a b=>af (a.ev env) λx=>af (b.ev env) λy=>Gv.eqb neg x y
  |.eqn k neg a b=>af (a.ev env) λx=>af (b.ev env) λy=>if k=0 then none else Gv.eqn k neg x y
  |.len a=>af (a.ev env) dp
  |.lenS a=>af (a.ev env) mK
  |.fld sz a o=>af (a.ev env) (sh sz o)
  |.ld sz a o=>af (a.ev env) (BB sz o)
  |.ia sz a i=>af (a.ev env) λx=>af (i.ev env) λy=>au sz x y
  |.fa a o=>af (a.ev env) λx=>ba x o
  |.iaa n sz a i=>af (a.ev env) λx=>af (i.ev env) λy=>iZ n sz x y
  |.slice sz a lo hi mx=>af (a.ev env) λx=>af (lo.ev env) λl=>af (hi.ev env) λh=>af (mx.ev env) λm=>dK sz x l h m
  |.app sz a b=>af (a.ev env) λx=>af (b.ev env) λy=>jl sz x y
  |.mks sz z n=>af (z.ev env) λx=>af (n.ev env) λy=>JH sz x y
  |.ite c a b=>af (c.ev env) λy=>match y with|.bool true=>a.ev env|.bool false=>b.ev env|_=>none
  |.gd c p e=>af (c.ev env) λy=>match y with|.bool q=>if q=p then e.ev env else some (.tup [])|.tup []=>some (.tup [])|_=>none
  |.b2s a=>af (a.ev env) Dg
  |.s2b a=>af (a.ev env) F4
  |.mm b l=>af (l.ev env) λy=>af (bP y) (zL b)
  |.ext a i=>af (a.ev env) (Cm i)
  |.upd sz a i o e=>af (a.ev env) λx=>af (i.ev env) λy=>af (e.ev env) λz=>z9 sz x y o z
  |.chk sz e=>af (e.ev env) (Cp sz)
  |.pos a=>af (a.ev env) EH
  |.nck a=>af (a.ev env) Fl
def X.ment(p:Nat->Bool):X->Bool
  |.v n=>p n
  |.cn a b|.bin _ a b|.eqs _ _ a b|.eqb _ a b|.eqn _ _ a b|.ia _ a b|.iaa _ _ a b|.app _ a b|.mks _ a b|.gd a _ b=>a.ment p||b.ment p
  |.agg a|.lst a|.lp a|.tup a|.fn _ a|.un _ a|.toInt _ a|.len a|.lenS a|.fld _ a _|.ld _ a _|.fa a _|.b2s a|.s2b a|.mm _ a|.ext a _|.chk _ a|.pos a|.nck a=>a.ment p
  |.slice _ a b c d=>a.ment p||b.ment p||c.ment p||d.ment p
  |.ite a b c|.upd _ a b _ c=>a.ment p||b.ment p||c.ment p
  |_=>false
theorem X.ev_ment{p:Nat->Bool}{e1 e2:Env}(h:∀n,p n=false->e1 n=e2 n):∀{x:X},x.ment p=false->x.ev e1=x.ev e2:=by
  intro x;induction x<;>intro hm<;>simp only[X.ment,Bool.or_eq_false_iff]at hm<;>simp only[X.ev]
  case v n=>rw[h n hm]
  all_goals simp_all
def cR(e:X):X->Bool
  |.cn a b=>decide (e=.cn a b)||cR e a||cR e b
  |.bin o a b=>decide (e=.bin o a b)||cR e a||cR e b
  |.eqs n k a b=>decide (e=.eqs n k a b)||cR e a||cR e b
  |.eqb n a b=>decide (e=.eqb n a b)||cR e a||cR e b
  |.eqn k n a b=>decide (e=.eqn k n a b)||cR e a||cR e b
  |.ia k a b=>decide (e=.ia k a b)||cR e a||cR e b
  |.iaa k l a b=>decide (e=.iaa k l a b)||cR e a||cR e b
  |.app k a b=>decide (e=.app k a b)||cR e a||cR e b
  |.mks k a b=>decide (e=.mks k a b)||cR e a||cR e b
  |.gd a p b=>decide (e=.gd a p b)||cR e a
  |.agg a=>decide (e=.agg a)||cR e a
  |.lst a=>decide (e=.lst a)||cR e a
  |.lp a=>decide (e=.lp a)||cR e a
  |.tup a=>decide (e=.tup a)||cR e a
  |.fn f a=>decide (e=.fn f a)||cR e a
  |.un o a=>decide (e=.un o a)||cR e a
  |.toInt k a=>decide (e=.toInt k a)||cR e a
  |.len a=>decide (e=.len a)||cR e a
  |.lenS a=>decide (e=.lenS a)||cR e a
  |.fld s a o=>decide (e=.fld s a o)||cR e a
  |.ld s a o=>decide (e=.ld s a o)||cR e a
  |.fa a o=>decide (e=.fa a o)||cR e a
  |.b2s a=>decide (e=.b2s a)||cR e a
  |.s2b a=>decide (e=.s2b a)||cR e a
  |.mm b a=>decide (e=.mm b a)||cR e a
  |.ext a i=>decide (e=.ext a i)||cR e a
  |.chk s a=>decide (e=.chk s a)||cR e a
  |.pos a=>decide (e=.pos a)||cR e a
  |.nck a=>decide (e=.nck a)||cR e a
  |.slice s a b c d=>decide (e=.slice s a b c d)||cR e a||cR e b||cR e c||cR e d
  |.ite a b c=>decide (e=.ite a b c)||cR e a
  |.upd s a b o c=>decide (e=.upd s a b o c)||cR e a||cR e b||cR e c
  |x=>decide (e=x)
theorem bJ{α β:Type}{x:Option α}{f:α->Option β}(h:(af x f).isSome=true):x.isSome=true/\∃a,x=some a/\(f a).isSome=true:=by
  cases x with
  |none=>simp at h
  |some a=>exact⟨rfl,a,rfl,h⟩
theorem A7{env:Env}{e:X}:∀{x:X},cR e x=true->(x.ev env).isSome=true->(e.ev env).isSome=true:=by
  intro x;induction x<;>intro hs hv<;>simp only[cR,OH,NU]at hs
  case ite a b c iha ihb ihc=>
    rcases hs with rfl|hs
    ·exact hv
    ·simp only[X.ev]at hv;exact iha hs (bJ hv).1
  case gd a p b iha ihb=>
    rcases hs with rfl|hs
    ·exact hv
    ·simp only[X.ev]at hv;exact iha hs (bJ hv).1
  case slice s a b c d iha ihb ihc ihd=>
    rcases hs with(((rfl|hs)|hs)|hs)|hs
    ·exact hv
    all_goals
      simp only[X.ev]at hv;obtain⟨h1,x,_,h2⟩:=bJ hv;obtain⟨h3,y,_,h4⟩:=bJ h2;obtain⟨h5,z,_,h6⟩:=bJ h4;obtain⟨h7,u,_,_⟩:=bJ h6
    ·exact iha hs h1
    ·exact ihb hs h3
    ·exact ihc hs h5
    ·exact ihd hs h7
  case upd s a b o c iha ihb ihc=>
    rcases hs with((rfl|hs)|hs)|hs
    ·exact hv
    all_goals
      simp only[X.ev]at hv;obtain⟨h1,x,_,h2⟩:=bJ hv;obtain⟨h3,y,_,h4⟩:=bJ h2;obtain⟨h5,z,_,h6⟩:=bJ h4
    ·exact iha hs h1
    ·exact ihb hs h3
    ·exact ihc hs h5
  all_goals first
    |(subst hs;exact hv)
    |( rename_i iha ihb
       rcases hs with(rfl|hs)|hs
       ·exact hv
       ·simp only[X.ev]at hv;exact iha hs (bJ hv).1
       · simp only[X.ev]at hv
         obtain⟨h1,x,_,h2⟩:=bJ hv;exact ihb hs (bJ h2).1)
    |( rename_i iha
       rcases hs with rfl|hs
       ·exact hv
       ·simp only[X.ev]at hv;exact iha hs (bJ hv).1)
inductive VS where
  |asg (needs:List X) (binds:List (Nat×X))
  |call (needs:List X) (g:Option (X×Bool)) (d:Nat) (f:Nat) (args:List X) (outs:List Nat)
  |callv (needs:List X) (g:Option (X×Bool)) (d:Nat) (f:X) (args:List X)
inductive VC where
  |skip
  |st (l:List VS)
  |seq (a b:VC)
  |cond (c:X) (a b:VC)
  |block (id:Nat) (c:VC)
  |loop (c:VC)
  |exit (id:Nat)
  |ret (r:X) (outs:List X)
inductive K where
  |F
  |O (sz:Nat) (wf:Bool)
  |Q
  |B (ro:Bool) (cs:List K)
  |A (cs:List K)
  |T (cs:List K)
structure Sig where
  ps:List K
  r:K
  scal:Bool
structure aA where
  sig:Sig
  binds:List (Nat×X)
  body:VC
abbrev bT:=Nat->List PV->Option (PV×List PV)
def Env.set(env:Env)(n:Nat)(v:PV):Env:=λi=>if i=n then v else env i
@[simp] theorem Env.set_at (env:Env) (n i:Nat) (v:PV):env.set n v i=if i=n then v else env i:=rfl
def Env.sets(env:Env):List Nat->List PV->Env
  |n::ns,v::vs=>(env.set n v).sets ns vs
  |_,_=>env
def eu(env:Env):List X->Option (List PV)
  |[]=>some []
  |x::xs=>af (x.ev env) λv=>af (eu env xs) λvs=>some (v::vs)
def bR(env:Env):List (Nat×X)->Env->Option Env
  |[],out=>some out
  |(n,x)::bs,out=>af (x.ev env) λv=>bR env bs (out.set n v)
def am(env:Env):List X->Bool
  |[]=>true
  |x::xs=>(x.ev env).isSome&&am env xs
def dQ(env:Env):Option (X×Bool)->Option Bool
  |none=>some true
  | some (g,p)=>match g.ev env with
    |some (.bool q)=>some (q==p)
    |some (.tup [])=>some false
    |_=>none
def VS.run(C:bT)(V:Nat->List PV->List PV->Bool)(env:Env):VS->Option Env
  |.asg needs binds=>if am env needs then bR env binds env else none
  | .call needs g d f args outs=>if am env needs then
      match dQ env g with
      |some true=>af (eu env args) λvs=>af (C f vs) λr=>if r.2.length=outs.length then some ((env.set d r.1).sets outs r.2)else none
      |some false=>some (env.set d (.tup []))
      |none=>none
    else none
  | .callv needs g d f args=>if am env needs then
      match dQ env g with
      | some true=>af (f.ev env) λfv=>match fv with
        |.fn k caps=>af (eu env args) λvs=>if V k vs caps then af (C k (vs++caps)) λr=>some (env.set d r.1)else none
        |_=>none
      |some false=>some (env.set d (.tup []))
      |none=>none
    else none
def cS(C:bT)(V:Nat->List PV->List PV->Bool)(env:Env):List VS->Option Env
  |[]=>some env
  |s::ss=>af (s.run C V env) λenv=>cS C V env ss
inductive sE where
  |norm (env:Env)
  |exit (id:Nat) (env:Env)
  |ret (r:PV) (outs:List PV)
def dv(f:Env->Option sE):Nat->Env->Option sE
  |0,_=>none
  | n+1,env=>match f env with
    |some (.norm env')=>dv f n env'
    |r=>r
def yV:Nat:=1099511627776
def aI(C:bT)(V:Nat->List PV->List PV->Bool):VC->Env->Option sE
  |.skip,env=>some (.norm env)
  |.st l,env=>match cS C V env l with|some env=>some (.norm env)|none=>none
  | .seq a b,env=>match aI C V a env with
    |some (.norm env)=>aI C V b env
    |r=>r
  | .cond c a b,env=>match c.ev env with
    |some (.bool true)=>aI C V a env
    |some (.bool false)=>aI C V b env
    |_=>none
  | .block id c,env=>match aI C V c env with
    |some (.exit i env)=>if i=id then some (.norm env)else some (.exit i env)
    |r=>r
  |.loop c,env=>dv (aI C V c) yV env
  |.exit id,env=>some (.exit id env)
  |.ret r outs,env=>af (r.ev env) λx=>af (eu env outs) λos=>some (.ret x os)
def fm:PV->Bool
  |.int .. |.bool _|.str _|.nilp|.nilfn=>true
  |.tup vs=>vs.all λ |.int .. |.bool _|.str _|.nilp|.nilfn=>true|_=>false
  |_=>false
def Env.ofArgs(vs:List PV):Env:=λi=>(vs[i]?).getD .junk
def mG:List K->Bool
  |[]=>true
  |.F::ks=>mG ks
  |_=>false
def vOk:List K->Nat->List PV->Bool
  |[],0,[]=>true
  |.F::ks,n+1,cs=>vOk ks n cs
  |.B true bs::ks,0,.lptr l::cs=>mG bs&&l.length==bs.length&&vOk ks 0 cs
  |.B true _::_,0,_::_=>false
  |.F::_,0,.lptr _::_=>false
  |.F::ks,0,_::cs=>vOk ks 0 cs
  |_,_,_=>false
def bi(VT:Nat->Option aA)(f:Nat)(vs caps:List PV):Bool:=match VT f with|some F=>vOk F.sig.ps vs.length caps&&(match F.sig.r with|.F=>F.sig.scal|_=>false)|none=>false
def MD:K->Bool
  |.O _ _=>true
  |_=>false
def qy:PV->Bool
  |.lst es _=>es.all λ |.int .. |.bool _|.str _|.nilp|.nilfn=>true|_=>false
  |_=>false
def aj(VT:Nat->Option aA):Nat->bT
  |0,_,_=>none
  | m+1,f,vs=>match VT f with
    |none=>none
    | some F=>af (bR (Env.ofArgs vs) F.binds (Env.ofArgs vs)) λenv=>match aI (aj VT m) (bi VT) F.body env with
      |some (.ret r os)=>if F.sig.ps.length=vs.length/\(F.sig.scal=false∨fm r=true∨(MD F.sig.r&&qy r)=true)then some (r,os)else none
      |_=>none
mutual
def pl:PV->Bool
 |.lst es _=>bV es
 |.lptr cs=>ai cs&&bV cs
 |.agg cs=>ai cs&&bV cs
 |.fn _ cs=>cs.isEmpty
 |.tup _|.tok .. |.ptr .. |.junk=>false
 |_=>true
def bV:List PV->Bool
 |[]=>true
 |x::xs=>pl x&&bV xs
end
theorem fH:∀l:List PV,az l=l.map aM
 |[]=>rfl
 |x::xs=>by simp only[az,N5,fH xs]
theorem gK:∀{l:List PV},bV l=true↔∀x∈l,pl x=true
 |[]=>by simp[bV]
 |x::xs=>by simp[bV,gK (l:=xs)]
theorem aN(l:List PV):(az l).length=l.length:=by rw[fH,Ob]
theorem iE(v:PV):(aM v).cells=az v.cells:=by cases v<;>simp[aM,PV.cells,az]
theorem fL(v:PV):(aM v).cells.length=v.cells.length:=by rw[iE,aN]
theorem Ap(v:PV):(aM v).isCell=v.isCell:=by cases v<;>rfl
theorem da:∀l:List PV,ai (az l)=ai l
 |[]=>rfl
 |x::xs=>by simp only[az,ai,Ap,da xs]
theorem nV(v:PV)(sz:Option Nat):(aM v).fits sz=v.fits sz:=by
 cases sz<;>cases v<;>simp[aM,PV.fits,aN]
theorem n9{l:List PV}{i:Nat}:(az l)[i]?=(l[i]?).map aM:=by rw[fH,NE]
theorem qB{l:List PV}(h:bV l=true){i:Nat}{x:PV}(hi:l[i]?=some x):pl x=true:=gK.1 h x (ND hi)
theorem cG{l:List PV}(h:bV l=true)(n:Nat):bV (l.drop n)=true:=gK.2 λx hx=>gK.1 h x (OD hx)
theorem cT{l:List PV}(h:bV l=true)(n:Nat):bV (l.take n)=true:=gK.2 λx hx=>gK.1 h x (OE hx)
theorem jz{l m:List PV}:bV (l++m)=(bV l&&bV m):=by
 induction l with
 |nil=>simp[bV]
 |cons x xs ih=>simp[bV,ih,Bool.and_assoc]
theorem iK(l:List PV)(n:Nat):az (l.drop n)=(az l).drop n:=by simp only[fH,List.map_drop]
theorem jU(l:List PV)(n:Nat):az (l.take n)=(az l).take n:=by simp only[fH,List.map_take]
theorem lX(l m:List PV):az (l++m)=az l++az m:=by simp only[fH,OO]
theorem i4:∀{l:List PV},ai l=true↔∀x∈l,x.isCell=true
 |[]=>by simp[ai]
 |x::xs=>by simp[ai,i4 (l:=xs)]
theorem dY{l:List PV}(h:ai l=true)(n:Nat):ai (l.drop n)=true:=i4.2 λx hx=>i4.1 h x (OD hx)
theorem eU{l:List PV}(h:ai l=true)(n:Nat):ai (l.take n)=true:=i4.2 λx hx=>i4.1 h x (OE hx)
theorem nC{l m:List PV}:ai (l++m)=(ai l&&ai m):=by
 induction l with
 |nil=>simp[ai]
 |cons x xs ih=>simp[ai,ih,Bool.and_assoc]
theorem ol{v:PV}(h:pl v=true):bV v.cells=true:=by
 cases v<;>simp_all [pl,PV.cells,bV]
mutual
theorem Hj:∀(v:PV),aM (aM v)=aM v
 |.lst es _=>by simp only[aM,fe]
 |.lptr cs=>by simp only[aM,fe]
 |.agg cs=>by simp only[aM,fe]
 |.tup cs=>by simp only[aM,fe]
 |.fn _ cs=>by simp only[aM,fe]
 |.tok .. =>rfl
 |.ptr .. =>rfl
 |.junk=>rfl
 |.int .. =>rfl
 |.bool _=>rfl
 |.str _=>rfl
 |.nils=>rfl
 |.nilp=>rfl
 |.nilfn=>rfl
theorem fe:∀(l:List PV),az (az l)=az l
 |[]=>rfl
 |x::xs=>by simp only[az,Hj,fe]
end
mutual
theorem mU:∀{v:PV},pl v=true->∀f:ao->Nat->Option (ao×Nat),ren f v=v/\jN v=[]
 |.lst es _,h,f=>⟨rfl,rfl⟩
 |.lptr cs,h,f=>⟨rfl,rfl⟩
 |.agg cs,h,f=>by
  simp only[pl,Np]at h;have:=eV h.2 f;exact⟨by simp only[ren,this.1],by simp only[jN,this.2]⟩
 |.tup cs,h,f=>by simp[pl]at h
 |.fn _ cs,h,f=>by
  simp only[pl,Ov]at h;subst h;exact⟨rfl,rfl⟩
 |.tok ..,h,_=>by simp[pl]at h
 |.ptr ..,h,_=>by simp[pl]at h
 |.junk,h,_=>by simp[pl]at h
 |.int ..,_,_=>⟨rfl,rfl⟩
 |.bool _,_,_=>⟨rfl,rfl⟩
 |.str _,_,_=>⟨rfl,rfl⟩
 |.nils,_,_=>⟨rfl,rfl⟩
 |.nilp,_,_=>⟨rfl,rfl⟩
 |.nilfn,_,_=>⟨rfl,rfl⟩
theorem eV:∀{l:List PV},bV l=true->∀f:ao->Nat->Option (ao×Nat),bZ f l=l/\aZ l=[]
 |[],_,f=>⟨rfl,rfl⟩
 |x::xs,h,f=>by
  simp only[bV,Np]at h;have h1:=mU h.1 f;have h2:=eV h.2 f;exact⟨by simp only[bZ,h1.1,h2.1],by simp only[aZ,h1.2,h2.2,NB]⟩
end
theorem CZ:∀{v:PV},pl v=true->e8 v=true:=by
 have key:∀{l:List PV},(∀x∈l,e8 x=true)->cY l=true:=by
  intro l h;induction l with
  |nil=>rfl
  |cons x xs ih=>simp only[cY,h x (NC ..),ih (λy hy=>h y (Nv _ hy)),NZ]
 intro v;apply PV.rec (motive_1:=λv=>pl v=true->e8 v=true) (motive_2:=λl=>bV l=true->cY l=true)<;>intros<;>simp_all [pl,bV,e8,cY]
theorem AK{l:List PV}(h:bV l=true):cY l=true:=by
 induction l with
 |nil=>rfl
 |cons x xs ih=>
  simp only[bV,Np]at h;simp only[cY,CZ h.1,ih h.2,NZ]
theorem wR{v:PV}(h:pl v=true)(hc:v.isCell=true)(n:Nat):bM (n+1) v=.ret (v,[]):=by
 cases v<;>first|rfl|(simp[pl]at h;done)|(simp[PV.isCell]at hc;done)
theorem uA:∀{cs:List PV},ai cs=true->bV cs=true->∀n,pq (bM (n+1)) cs=.ret (cs,[])
 |[],_,_,n=>rfl
 |c::cs,h,hp,n=>by
  simp only[ai,bV,Np]at h hp;rw[pq,wR hp.1 h.1];show(pq (bM (n+1)) cs).bind _=_;rw[uA h.2 hp.2];rfl
theorem mJ{v:PV}(h:pl v=true)(n:Nat):bM (n+2) v=.ret (v,[]):=by
 cases v with
 |agg cs=>
  simp only[pl,Np]at h;show(pq (bM (n+1)) cs).bind _=_;rw[uA h.1 h.2];rfl
 |_=>first|rfl|(simp[pl]at h;done)
theorem A9:∀{l:List PV},bV l=true->∀n,pq (bM (n+2)) l=.ret (l,[])
 |[],_,n=>rfl
 |c::cs,h,n=>by
  simp only[bV,Np]at h;rw[pq,mJ h.1];show(pq (bM (n+2)) cs).bind _=_;rw[A9 h.2];rfl
theorem xm{v:PV}(h:pl v=true)(hc:v.isCell=true)(n:Nat):bc (n+1) v=.ret v:=by
 cases v with
 |fn f cs=>simp only[pl,Ov]at h;subst h;rfl
 |_=>first|rfl|(simp[pl]at h;done)|(simp[PV.isCell]at hc;done)
theorem tV:∀{cs:List PV},ai cs=true->bV cs=true->∀n,HM.mapM (bc (n+1)) cs=.ret cs
 |[],_,_,n=>rfl
 |c::cs,h,hp,n=>by
  simp only[ai,bV,Np]at h hp;rw[HM.mapM,xm hp.1 h.1];show(HM.mapM (bc (n+1)) cs).bind _=_;rw[tV h.2 hp.2];rfl
theorem kY{v:PV}(h:pl v=true)(n:Nat):bc (n+2) v=.ret v:=by
 cases v with
 |agg cs=>
  simp only[pl,Np]at h;show(HM.mapM (bc (n+1)) cs).bind _=_;rw[tV h.1 h.2];rfl
 |fn f cs=>simp only[pl,Ov]at h;subst h;rfl
 |_=>first|rfl|(simp[pl]at h;done)
theorem qh:∀{l:List PV},bV l=true->∀n,HM.mapM (bc (n+2)) l=.ret l
 |[],_,n=>rfl
 |c::cs,h,n=>by
  simp only[bV,Np]at h;rw[HM.mapM,kY h.1];show(HM.mapM (bc (n+2)) cs).bind _=_;rw[qh h.2];rfl
def Cg(m:Option PV)(x:PV):Prop:=∃v,m=some v/\pl v=true/\aM v=x
theorem dU{v:PV}{k:IntKind}{n:Int}(h:aM v=.int k n):v=.int k n:=by cases v<;>simp_all [aM]
theorem fI{v:PV}{b:Bool}(h:aM v=.bool b):v=.bool b:=by cases v<;>simp_all [aM]
theorem oO{v:PV}{s:List UInt8}(h:aM v=.str s):v=.str s:=by cases v<;>simp_all [aM]
theorem yX{v:PV}(h:aM v=.nilp):v=.nilp:=by cases v<;>simp_all [aM]
theorem vl{v:PV}(h:aM v=.nilfn):v=.nilfn:=by cases v<;>simp_all [aM]
theorem wH{v:PV}{cs:List PV}(h:aM v=.agg cs):∃l,v=.agg l/\cs=az l:=by cases v<;>simp_all [aM]
theorem Bf{v:PV}{cs:List PV}(h:aM v=.tup cs):∃l,v=.tup l/\cs=az l:=by cases v<;>simp_all [aM]
theorem tj{v:PV}{cs:List PV}(h:aM v=.lptr cs):∃l,v=.lptr l/\cs=az l:=by cases v<;>simp_all [aM]
theorem At{v:PV}{f:Nat}{cs:List PV}(h:aM v=.fn f cs):∃l,v=.fn f l/\cs=az l:=by cases v<;>simp_all [aM]
theorem qt{v:PV}{es:List PV}{c:Bool}(h:aM v=.lst es c):c=false/\((v=.nils/\es=[])∨∃l c0,v=.lst l c0/\es=az l):=by cases v<;>simp_all [aM]
theorem vX{op:BinOp}{k k':IntKind}{a b:Int}{x:PV}(h:a9 op k a k' b=some x):pl x=true/\aM x=x:=by
 unfold a9 at h;split at h
 ·split at h
  ·cases h
  ·cases h;exact⟨rfl,rfl⟩
 ·split at h
  ·cases h
  ·cases h;exact⟨rfl,rfl⟩
 ·split at h
  ·cases h
  ·split at h<;>first|(split at h<;>first|(cases h;exact⟨rfl,rfl⟩)|(cases h;done))|(cases h;exact⟨rfl,rfl⟩)|(cases h;done)
theorem H6{op:BinOp}{v w x:PV}(h:bin op (aM v) (aM w)=some x):Cg (bin op v w) x:=by
 cases hv:aM v<;>rw[hv]at h<;>try(simp[bin]at h;done)
 ·cases hw:aM w<;>rw[hw]at h<;>try(simp[bin]at h;done)
  rw[dU hv,dU hw];have:=vX (by simpa[bin]using h);exact⟨x,h,this.1,this.2⟩
 ·cases hw:aM w<;>rw[hw]at h<;>try(simp[bin]at h;done)
  rw[oO hv,oO hw];refine⟨x,h,?_⟩;simp only[bin]at h;split at h<;>first|(cases h;exact⟨rfl,rfl⟩)|(split at h<;>first|(cases h;exact⟨rfl,rfl⟩)|(cases h;done))|(cases h;done)
theorem Kf{op:UnOp}{v x:PV}(h:un op (aM v)=some x):Cg (un op v) x:=by
 unfold un at h;split at h
 ·rename_i k n he;rw[dU he];cases h;exact⟨_,rfl,rfl,rfl⟩
 ·rename_i k n he;rw[dU he];have:=vX h;exact⟨x,h,this.1,this.2⟩
 ·rename_i b he;rw[fI he];cases h;exact⟨_,rfl,rfl,rfl⟩
 ·cases h
theorem Dn{k:IntKind}{v x:PV}(h:ku k (aM v)=some x):sM k v=.ret x/\pl x=true/\aM x=x:=by
 cases hv:aM v<;>rw[hv]at h<;>try(simp[ku]at h;done)
 rw[dU hv];simp only[ku,No]at h;subst h;exact⟨rfl,rfl,rfl⟩
theorem pk:∀{ks:List Bool}{xs ys:List PV}{b:Bool},aH ks (az xs) (az ys)=some b->aH ks xs ys=some b
 |[],[],[],b,h=>h
 |[],x::xs,ys,b,h=>by simp[az,aH]at h
 |[],[],y::ys,b,h=>by simp[az,aH]at h
 |k::ks,[],ys,b,h=>by cases k<;>simp[az,aH]at h
 |k::ks,x::xs,[],b,h=>by cases k<;>simp[az,aH]at h
 | false::ks,x::xs,y::ys,b,h=>by
  simp only[az]at h;cases hx:aM x<;>rw[hx]at h<;>try(simp[aH]at h;done)
  cases hy:aM y<;>rw[hy]at h<;>try(simp[aH]at h;done)
  rw[dU hx,dU hy];simp only[aH]at h⊢;split at h
  ·cases h
  ·rename_i hk;rw[Nw hk];cases he:aH ks (az xs) (az ys)with
   |none=>rw[he]at h;cases h
   |some r=>rw[he]at h;rw[pk he];exact h
 |true::ks,x::xs,y::ys,b,h=>by
  simp only[az]at h;cases hx:aM x<;>rw[hx]at h<;>try(simp[aH]at h;done)
  cases hy:aM y<;>rw[hy]at h<;>try(simp[aH]at h;done)
  rw[fI hx,fI hy];simp only[aH]at h⊢;cases he:aH ks (az xs) (az ys)with
  |none=>rw[he]at h;cases h
  |some r=>rw[he]at h;rw[pk he];exact h
theorem IT{neg:Bool}{ks:List Bool}{v w x:PV}(h:pR neg ks (aM v) (aM w)=some x):ye neg ks v w=.ret x/\pl x=true/\aM x=x:=by
 cases hv:aM v<;>rw[hv]at h<;>try(simp[pR]at h;done)
 cases hw:aM w<;>rw[hw]at h<;>try(simp[pR]at h;done)
 obtain⟨l,rfl,rfl⟩:=wH hv;obtain⟨m,rfl,rfl⟩:=wH hw;simp only[pR]at h;split at h
 ·rename_i b hb;cases h;refine⟨?_,rfl,rfl⟩;simp only[ye,pk hb]
 ·cases h
theorem IJ{neg:Bool}{v w x:PV}(h:eqb neg (aM v) (aM w)=some x):Cg (eqb neg v w) x:=by
 cases hv:aM v<;>rw[hv]at h<;>try(simp[eqb]at h;done)
 cases hw:aM w<;>rw[hw]at h<;>try(simp[eqb]at h;done)
 rw[fI hv,fI hw];refine⟨x,h,?_⟩;simp only[eqb,No]at h;subst h;exact⟨rfl,rfl⟩
theorem B6{v:PV}(hp:pl v=true):AF (aM v)=AF v:=by cases v<;>simp_all [aM,AF]
theorem A5{v:PV}(hp:pl v=true):Aq (aM v)=Aq v:=by cases v<;>simp_all [aM,Aq]
theorem IX{k:Nat}{neg:Bool}{v w x:PV}(hp:pl v=true)(hq:pl w=true)(hk:k≠0)(h:eqn k neg (aM v) (aM w)=some x):Cg (eqn k neg v w) x:=by
 have hb:pl x=true/\aM x=x:=by
  unfold eqn at h;split at h
  all_goals(split at h<;>first|(simp only[NY]at h;obtain⟨b,_,rfl⟩:=h;exact⟨rfl,rfl⟩)|(cases h;done))
 refine⟨x,?_,hb⟩
 match k,hk with
 | 1,_=>
  simp only[eqn]at h⊢;split at h
  ·rename_i y he;rw[yX he];simp only;rw[<-B6 hq];exact h
  ·rename_i y h0 he hn;rw[yX he];have:v≠ .nilp:=by rintro rfl;exact hn rfl
   rw[B6 hp]at h;cases v<;>simp_all
  ·cases h
 | k+2,_=>
  simp only[eqn]at h⊢;split at h
  ·rename_i y he;rw[vl he];simp only;rw[<-A5 hq];exact h
  ·rename_i y h0 he hn;rw[vl he];have:v≠ .nilfn:=by rintro rfl;exact hn rfl
   rw[A5 hp]at h;cases v<;>simp_all
  ·cases h
theorem IC{v x:PV}(h:dp (aM v)=some x):Cg (vU v) x:=by
 cases hv:aM v<;>rw[hv]at h<;>try(simp[dp]at h;done)
 simp only[dp,No]at h;subst h;obtain⟨_,⟨rfl,rfl⟩|⟨l,c0,rfl,rfl⟩⟩:=qt hv
 ·exact⟨_,rfl,rfl,rfl⟩
 ·refine⟨_,rfl,rfl,?_⟩;rw[aN];rfl
theorem Hd{v x:PV}(h:mK (aM v)=some x):Cg (mK v) x:=by
 cases hv:aM v<;>rw[hv]at h<;>try(simp[mK]at h;done)
 rw[oO hv];refine⟨x,h,?_⟩;simp only[mK,No]at h;subst h;exact⟨rfl,rfl⟩
theorem ul{cs:List PV}(hp:bV cs=true)(ho:ai cs=true){o:Nat}{sz:Option Nat}{x:PV}(h:db (az cs) o sz=some x):Cg (db cs o sz) x:=by
 cases sz with
 |none=>
  simp only[db,n9,NY]at h⊢;obtain⟨v,hv,rfl⟩:=h;exact⟨v,hv,qB hp hv,rfl⟩
 | some n=>
  simp only[db,aN]at h;split at h
  ·rename_i hn;cases h;refine⟨.agg ((cs.drop o).take n),by simp only[db,Nt hn],?_,?_⟩
   ·simp only[pl,eU (dY ho o) n,cT (cG hp o) n,NZ]
   ·simp only[aM,jU,iK]
  ·cases h
theorem kn{cs:List PV}{o:Nat}{sz:Option Nat}{x:PV}(h:lL cs o sz=some x):db cs o sz=some x/\x.fits sz=true:=by
 unfold lL at h;split at h
 ·rename_i y hy;split at h
  ·rename_i hf;cases h;exact⟨hy,hf⟩
  ·cases h
 ·cases h
theorem Iv{v x:PV}(hp:pl v=true){o:Nat}{sz:Option Nat}(h:sh sz o (aM v)=some x):∃w,mq sz v o=.ret w/\pl w=true/\aM w=x:=by
 cases hv:aM v<;>rw[hv]at h<;>try(simp[sh]at h;done)
 obtain⟨l,rfl,rfl⟩:=wH hv;simp only[pl,Np]at hp;obtain⟨w,h1,h2,h3⟩:=ul hp.2 hp.1 (kn (by simpa[sh]using h)).1;exact⟨w,by simp only[mq,h1];rfl,h2,h3⟩
theorem Lj{v x:PV}(hp:pl v=true){o:Nat}{sz:Option Nat}(h:BB sz o (aM v)=some x):∃l w,v=.lptr l/\db l o sz=some w/\pl w=true/\aM w=x:=by
 cases hv:aM v<;>rw[hv]at h<;>try(simp[BB]at h;done)
 obtain⟨l,rfl,rfl⟩:=tj hv;simp only[pl,Np]at hp;obtain⟨w,h1,h2,h3⟩:=ul hp.2 hp.1 (kn (by simpa[BB]using h)).1;exact⟨l,w,rfl,h1,h2,h3⟩
theorem qz{v:PV}(hp:pl v=true):ai v.cells=true:=by
 cases v<;>simp_all [pl,PV.cells,ai,PV.isCell]
theorem Lg{sz:Nat}{v i x:PV}(hp:pl v=true)(h:au sz (aM v) (aM i)=some x):Cg (au sz v i) x:=by
 cases hi:aM i<;>rw[hi]at h<;>try(simp[au]at h;done)
 rename_i k n;rw[dU hi];cases hv:aM v<;>rw[hv]at h<;>try(simp[au]at h;done)
 ·obtain⟨_,⟨rfl,rfl⟩|⟨l,c0,rfl,rfl⟩⟩:=qt hv
  ·simp only[au,N9]at h;split at h
   ·omega
   ·cases h
  ·simp only[au,aN]at h⊢;split at h
   ·rename_i hb;rw[Nt hb];rw[n9]at h;cases he:l[n.toNat]? with
    |none=>rw[he]at h;cases h
    | some e=>
     rw[he]at h;simp only[NM]at h;rw[fL]at h;split at h
     ·rename_i hz;cases h;simp only[Nt hz];have hpe:=qB (by simpa[pl]using hp) he;refine⟨_,rfl,?_,by simp only[aM,iE]⟩;simp only[pl,ol hpe,qz hpe,NZ]
     ·cases h
   ·cases h
 ·rename_i r ver sz' off len room c0;cases v<;>simp_all [aM,pl]
theorem HO{v x:PV}(hp:pl v=true){o:Nat}(h:ba (aM v) o=some x):Cg (ba v o) x:=by
 cases hv:aM v<;>rw[hv]at h<;>try(simp[ba]at h;done)
 ·cases v<;>simp_all [aM,pl]
 ·obtain⟨l,rfl,rfl⟩:=tj hv;simp only[pl,Np]at hp;simp only[ba,No]at h;subst h;exact⟨_,rfl,by simp only[pl,dY hp.1,cG hp.2,NZ],by simp only[aM,iK]⟩
theorem Iz{n sz:Nat}{v i x:PV}(hp:pl v=true)(h:iZ n sz (aM v) (aM i)=some x):Cg (iZ n sz v i) x:=by
 cases hi:aM i<;>rw[hi]at h<;>try(simp[iZ]at h;done)
 rw[dU hi];simp only[iZ]at h⊢;split at h
 ·rename_i hb;rw[Nt hb];exact HO hp h
 ·cases h
theorem Fs(es:List PV)(sz:Nat):kz (az es) sz=kz es sz:=by
 cases es with
 |nil=>rfl
 |cons e es=>simp only[az,kz,fL]
theorem GB{v:PV}{o:Option PV}(h:kE v=some o):(v=.tup []/\o=none)∨∃k n,v=.int k n/\o=some v:=by
 unfold kE at h;split at h<;>simp_all
theorem yP{sz:Nat}{v lo hi mx x:PV}{l h m:Option PV}(hp:pl v=true)(hl:kE lo=some l)(hh:kE hi=some h)(hm:kE mx=some m)(hv:dK sz (aM v) lo hi mx=some x):Cg (cJ sz v l h m) x:=by
 unfold dK at hv;rw[hl,hh,hm]at hv;simp only at hv;split at hv
 ·rename_i es c he;split at hv
  ·cases hv
  ·rename_i hc;simp only[not_or,Bool.not_eq_true]at hc;obtain⟨_,⟨rfl,rfl⟩|⟨es',c0,rfl,rfl⟩⟩:=qt he
   ·simp only[cA,NY]at hv;obtain⟨y,hy,rfl⟩:=hv;have hb:aG ([]:List PV).length h=aG 0 h/\aG ([]:List PV).length m=aG 0 m:=⟨rfl,rfl⟩;rw[hb.1,hb.2]at hy;simp only[cJ,PV.isStr,fV,jW,hc.2];have hz:(sz==0)=false:=by simpa using hc.1
    cases h1:aG 0 l<;>rw[h1]at hy<;>try(cases hy;done)
    cases h2:aG 0 h<;>rw[h2]at hy<;>try(cases hy;done)
    cases h3:aG 0 m<;>rw[h3]at hy<;>try(cases hy;done)
    simp only at hy;split at hy
    ·rename_i hb;cases hy;simp only[N9]at hb;have:‹Nat›=0/\‹Nat›=0:=⟨by omega,by omega⟩;refine⟨.nils,?_,rfl,?_⟩
     ·rw[hz];simp;omega
     ·simp[aM,az]
    ·cases hy
   ·simp only[cA,aN,Fs,NY]at hv;obtain⟨y,hy,rfl⟩:=hv;have hz:(sz==0)=false:=by simpa using hc.1
    simp only[cJ,PV.isStr,fV,hc.2,hz,Oa];simp only[cA];cases h1:aG 0 l<;>rw[h1]at hy<;>try(cases hy;done)
    cases h2:aG es'.length h<;>rw[h2]at hy<;>try(cases hy;done)
    cases h3:aG es'.length m<;>rw[h3]at hy<;>try(cases hy;done)
    simp only at hy⊢;split at hy
    ·rename_i hb;cases hy;rw[Nt hb];refine⟨_,rfl,?_,?_⟩
     ·simp only[pl]at hp⊢;exact cT (cG hp _) _
     ·simp only[aM,jU,iK,fe]
    ·cases hy
 ·rename_i s he;rw[oO he];split at hv
  ·rename_i hz;subst hz;split at hv
   ·cases hv
   ·rename_i hmx;simp only[Bool.not_eq_true]at hmx;refine⟨x,?_,?_⟩
    ·simp only[cJ,PV.isStr,Nq,Oa,fV,hmx,Ow,NL,Oc];exact hv
    ·unfold qf at hv;split at hv
     ·split at hv
      ·cases hv;exact⟨rfl,rfl⟩
      ·cases hv
     ·cases hv
  ·cases hv
 ·cases hv
theorem pi:∀{es:List PV}{l:List UInt8},eC (az es)=some l->eC es=some l
 |[],l,h=>h
 | e::es,l,h=>by
  simp only[az]at h;cases he:aM e with
  |int k n=>
   rw[he]at h;rw[dU he];cases k<;>try(simp[eC]at h;done)
   simp only[eC]at h⊢;cases hb:eC (az es)with
   |none=>rw[hb]at h;cases h
   |some r=>rw[hb]at h;rw[pi hb];exact h
  |_=>rw[he]at h;simp[eC]at h
theorem H5{v x:PV}(h:Dg (aM v)=some x):vr v=.ret x/\pl x=true/\aM x=x:=by
 cases hv:aM v<;>rw[hv]at h<;>try(simp[Dg]at h;done)
 simp only[Dg,NY]at h;obtain⟨l,hl,rfl⟩:=h;obtain⟨_,⟨rfl,rfl⟩|⟨es,c0,rfl,rfl⟩⟩:=qt hv
 ·simp only[eC,No]at hl;subst hl;exact⟨rfl,rfl,rfl⟩
 ·refine⟨?_,rfl,rfl⟩;simp only[vr,PV.isStr,NL,Oc,elems,HM.bind,pi hl]
theorem DD{b:Bool}{v w x:PV}(h:xo b v (aM w)=some x):xo b v w=some x:=by
 cases hw:aM w<;>rw[hw]at h<;>try(cases v<;>simp[xo]at h;done)
 rw[dU hw];exact h
theorem BV{b:Bool}:∀{vs:List PV}{v x:PV},lU b v (az vs)=some x->lU b v vs=some x
 |[],v,x,h=>h
 |w::vs,v,x,h=>by
  simp only[az,lU]at h⊢;cases h1:xo b v (aM w)with
  |none=>rw[h1]at h;cases h
  |some z=>rw[h1]at h;rw[DD h1];exact BV h
theorem v5{b:Bool}:∀{vs:List PV}{v x:PV},lU b v vs=some x->v=x∨∃k n,x=.int k n
 |[],v,x,h=>by simp only[lU,No]at h;exact .inl h
 | w::vs,v,x,h=>by
  simp only[lU]at h;cases h1:xo b v w with
  |none=>rw[h1]at h;cases h
  | some z=>
   rw[h1]at h;unfold xo at h1;split at h1
   ·cases h1;rcases v5 h with h2|h2
    ·exact .inr ⟨_,_,h2.symm⟩
    ·exact .inr h2
   ·cases h1
theorem JE{b:Bool}{vs:List PV}{x:PV}(hp:bV vs=true)(h:zL b (az vs)=some x):Ce b vs=.ret x/\pl x=true/\aM x=x∨(∃v,vs=[v]/\x=aM v/\Ce b vs=.ret v):=by
 cases vs with
 |nil=>simp[az,zL]at h
 | cons v vs=>
  cases vs with
  |nil=>
   right;simp only[az,zL,lU,No]at h;exact⟨v,rfl,h.symm,rfl⟩
  | cons w ws=>
   left;simp only[az,zL,lU]at h;cases h1:xo b (aM v) (aM w)with
   |none=>rw[h1]at h;cases h
   | some z=>
    rw[h1]at h;have hz:∃k n,z=.int k n:=by
     unfold xo at h1;split at h1
     ·cases h1;exact⟨_,_,rfl⟩
     ·cases h1
    have hv:xo b v w=some z:=by
     have:=DD h1;cases hq:aM v<;>rw[hq]at this<;>try(simp[xo]at this;done)
     rw[dU hq];exact this
    have hm:lU b z ws=some x:=BV h;obtain⟨k,n,rfl⟩:=hz;have hx:pl x=true/\aM x=x:=by
     rcases v5 hm with h2|⟨k,n,h2⟩
     ·subst h2;exact⟨rfl,rfl⟩
     ·subst h2;exact⟨rfl,rfl⟩
    refine⟨?_,hx⟩;simp only[Ce,lU,hv,hm];rfl
theorem Jf{v x:PV}(hp:pl v=true)(h:Fl (aM v)=some x):jb v=.ret v/\aM v=x:=by
 cases hv:aM v<;>rw[hv]at h<;>try(simp[Fl]at h;done)
 ·obtain⟨l,rfl,rfl⟩:=tj hv;simp only[Fl,No]at h;exact⟨rfl,h⟩
 ·obtain⟨l,rfl,rfl⟩:=At hv;simp only[Fl,No]at h;exact⟨rfl,h⟩
theorem IU{v x:PV}{sz:Option Nat}(h:Cp sz (aM v)=some x):v.fits sz=true/\ai v.cells=true/\x=aM v:=by
 unfold Cp at h;split at h
 ·rename_i hc;rw[nV,iE,da]at hc;cases h;exact⟨hc.1,hc.2,rfl⟩
 ·cases h
theorem IL{v x:PV}(h:F4 (aM v)=some x):∃l,v=.str l/\l.length<bB/\x=.lst (l.map λb=>PV.int .u8 b.toNat) false:=by
 cases hv:aM v<;>rw[hv]at h<;>try(simp[F4]at h;done)
 rename_i l;simp only[F4]at h;split at h
 ·rename_i hl;cases h;exact⟨l,oO hv,hl,rfl⟩
 ·cases h
theorem ab{α β:Type}{x:Option α}{f:α->Option β}{b:β}:af x f=some b↔∃a,x=some a/\f a=some b:=by
 cases x<;>simp
inductive AV where
 |D
 |F (e:X)
 |N (e:X)
 |O (fs:List Nat) (w:Nat) (wr:Bool) (sz:Nat) (e:X)
 |Q (fs:List Nat) (e:X)
 |P (b o:Nat)
 |EP (fs:List Nat) (w:Nat) (wr:Bool) (sz:Nat) (e i:X) (o:Nat)
 |A (cs:List AV)
 |L (fs:List Nat) (sz:Nat) (cs:List AV)
 |C (f:Nat) (cs:List AV)
 |T (cs:List AV)
 |G (g:X) (p:Bool) (a:AV)
 deriving Inhabited
structure Cx where
 nm:ao->Nat
 nu:Nat->PV
 be:Nat->ao×Nat
def p6(v:PV):Prop:=v=.nils∨v=.lst [] true
def TokAt(Pr:ao->Prop)(h:Heap)(sz:Nat)(r:ao)(ver off len room:Nat)(c0:Bool)(b:Blk)(v x:PV):Prop:=
 v=.tok r ver sz off len room c0/\Pr r/\h.get r=some ⟨ver,some b⟩/\b.sz=sz/\off+len<=b.es.length/\len<=room/\bV b.es=true/\(∀e∈b.es,e.cells.length=sz)/\
  x=.lst (az ((b.es.drop off).take len)) false
def TokOk(Pr:ao->Prop)(h:Heap)(sz:Nat)(v x:PV):Prop:=
 (p6 v/\x=.lst [] false)∨∃r ver off len room c0 b,TokAt Pr h sz r ver off len room c0 b v x
def WrOk(h:Heap)(v:PV):Prop:=
 p6 v∨∃r ver sz off len room b,v=.tok r ver sz off len room false/\h.get r=some ⟨ver,some b⟩/\b.ro=false/\off+room<=b.es.length
def t6:PV->Bool
 |.lptr _=>true
 |_=>false
def QL(Pr:ao->Prop)(h:Heap):List PV->List PV->Prop
 |[],[]=>True
 |v::vs,x::xs=>((pl v=true/\t6 v=false/\x=aM v)∨∃r ver n e ro,v=.ptr r ver 0 0/\Pr r/\h.get r=some ⟨ver,some ⟨n,[e],ro⟩⟩/\ai e.cells=true/\bV e.cells=true/\x=.lptr (az e.cells))/\QL Pr h vs xs
 |_,_=>False
def dh:List PV->List ao
 |[]=>[]
 |.ptr r _ _ _::vs=>r::dh vs
 |_::vs=>dh vs
def AZ(c:Cx)(h:Heap)(env:Env)(fs:List Nat)(w:Nat)(wr:Bool)(sz:Nat)(e i:X)(o:Nat)(v:PV):Prop:=
 ∃r ver off len room c0 b x k n,TokAt (λr=>c.nm r∈fs) h sz r ver off len room c0 b (c.nu w) x/\e.ev env=some x/\(wr=true->WrOk h (c.nu w))/\
  i.ev env=some (.int k n)/\0<=n/\n<len/\v=.ptr r ver (off+n.toNat) o
mutual
def Rel(c:Cx)(h:Heap)(env:Env):AV->PV->Prop
 |.D,_=>True
 |.F e,v=>pl v=true/\e.ev env=some (aM v)
 |.N e,v=>p6 v/\e.ev env=some (.lst [] false)
 |.O fs w wr sz e,v=>v=c.nu w/\∃x,TokOk (λr=>c.nm r∈fs) h sz v x/\e.ev env=some x/\(wr=true->WrOk h v)
 |.Q fs e,v=>∃f vs xs,v=.fn f vs/\QL (λr=>c.nm r∈fs) h vs xs/\e.ev env=some (.fn f xs)/\vs.length<=9/\(dh vs).Nodup
 |.P b o,v=>v=.ptr (c.be b).1 (c.be b).2 0 o
 |.EP fs w wr sz e i o,v=>AZ c h env fs w wr sz e i o v
 |.A cs,v=>∃vs,v=.agg vs/\ai vs=true/\RelL c h env cs vs
 |.L fs sz cs,v=>∃r ver vs,v=.tok r ver sz 0 vs.length vs.length false/\c.nm r∈fs/\h.get r=some ⟨ver,some ⟨sz,vs,false⟩⟩/\bO sz vs=true/\RelL c h env cs vs
 |.C f cs,v=>∃vs,v=.fn f vs/\RelL c h env cs vs
 |.T cs,v=>∃vs,v=.tup vs/\RelL c h env cs vs
 |.G g p a,v=>(g.ev env=some (.bool p)/\Rel c h env a v)∨((g.ev env=some (.bool !p)∨g.ev env=some (.tup []))/\v=.tup [])
def RelL(c:Cx)(h:Heap)(env:Env):List AV->List PV->Prop
 |[],[]=>True
 |a::as,v::vs=>Rel c h env a v/\RelL c h env as vs
 |_,_=>False
end
structure BX where
 id:Nat
 ro:Bool
 fs:List Nat
 cs:List AV
structure Abs where
 t:List (Nat×AV)
 b:List BX
structure Inv where
 nt:Nat
 ns:Nat
 m:Nat
 st:Nat->Nat
 al:Nat->Nat
 kp:List Nat
 h0:Heap
 fl:Nat->Bool
def SameRo(x y:Option eN):Prop:=x=y∨∃ver sz es,(∃r,x=some ⟨ver,some ⟨sz,es,r⟩⟩)/\∃r,y=some ⟨ver,some ⟨sz,es,r⟩⟩
def BoxOk(c:Cx)(h:Heap)(env:Env)(x:BX):Prop:=
 ∃n e ro,c.nm (c.be x.id).1∈x.fs/\h.get (c.be x.id).1=some ⟨(c.be x.id).2,some ⟨n,[e],ro⟩⟩/\(x.ro=false->ro=false)/\ai e.cells=true/\RelL c h env x.cs e.cells
structure Nm (I:Inv) (c:Cx):Prop where
 l:∀s,∃j,c.nm (.l s)=2*j/\I.st j=I.st s
 a:∀i,c.nm (.a i)=2*I.al i+1
structure Sim (I:Inv) (c:Cx) (a:Abs) (env:Env) (σ:St):Prop where
 fr:σ.fr.length=I.nt
 tm:∀p∈a.t,Rel c σ.h env p.2 (kF σ.fr p.1)
 bx:∀x∈a.b,BoxOk c σ.h env x
 nm:Nm I c
 hl:σ.h.L.length=I.ns
 ha:σ.h.A.length=I.m
 kp:∀r,c.nm r∈I.kp->SameRo (σ.h.get r) (I.h0.get r)
 fl:∀i ver b,I.fl (I.al i)=true->σ.h.get (.a i)=some ⟨ver,some b⟩->bV b.es=true
mutual
def AV.ok(nf idf vf:Nat->Bool):AV->Bool
 |.D=>true
 |.F e|.N e=> !e.ment vf
 |.O fs w _ _ e=>fs.all (λn=> !nf n)&& !idf w&& !e.ment vf
 |.Q fs e=>fs.all (λn=> !nf n)&& !e.ment vf
 |.P b _=> !idf b
 |.EP fs w _ _ e i _=>fs.all (λn=> !nf n)&& !idf w&& !e.ment vf&& !i.ment vf
 |.A cs|.C _ cs|.T cs=>AV.okL nf idf vf cs
 |.L fs _ cs=>fs.all (λn=> !nf n)&&AV.okL nf idf vf cs
 |.G g _ a=> !g.ment vf&&a.ok nf idf vf
def AV.okL(nf idf vf:Nat->Bool):List AV->Bool
 |[]=>true
 |a::as=>a.ok nf idf vf&&AV.okL nf idf vf as
end
structure A8 (nf idf vf:Nat->Bool) (c c':Cx) (h h':Heap) (env env':Env):Prop where
 n:∀r,nf (c.nm r)=false->h'.get r=h.get r/\c'.nm r=c.nm r
 i:∀w,idf w=false->c'.nu w=c.nu w/\c'.be w=c.be w
 v:∀n,vf n=false->env' n=env n
section
variable{nf idf vf:Nat->Bool}{c c':Cx}{h h':Heap}{env env':Env}
theorem fD{fs:List Nat}{n:Nat}(hf:fs.all (λn=> !nf n)=true)(hn:n∈fs):nf n=false:=by
 have:=List.all_eq_true.1 hf n hn;simpa using this
theorem TokAt.frame(M:A8 nf idf vf c c' h h' env env'){fs:List Nat}(hf:fs.all (λn=> !nf n)=true){sz:Nat}{r:ao}{ver off len room:Nat}{c0:Bool}{b:Blk}{v x:PV}
  (T:TokAt (λr=>c.nm r∈fs) h sz r ver off len room c0 b v x):TokAt (λr=>c'.nm r∈fs) h' sz r ver off len room c0 b v x:=by
 obtain⟨h1,h2,h3,h4⟩:=T;have:=M.n r (fD hf h2);exact⟨h1,by simp only[this.2];exact h2,by rw[this.1];exact h3,h4⟩
theorem TokOk.frame(M:A8 nf idf vf c c' h h' env env'){fs:List Nat}(hf:fs.all (λn=> !nf n)=true){sz:Nat}{v x:PV}(T:TokOk (λr=>c.nm r∈fs) h sz v x):TokOk (λr=>c'.nm r∈fs) h' sz v x:=by
 rcases T with T|⟨r,ver,off,len,room,c0,b,T⟩
 ·exact .inl T
 ·exact .inr ⟨r,ver,off,len,room,c0,b,T.frame M hf⟩
theorem WrOk.frame(M:A8 nf idf vf c c' h h' env env'){fs:List Nat}(hf:fs.all (λn=> !nf n)=true){sz:Nat}{v x:PV}(T:TokOk (λr=>c.nm r∈fs) h sz v x)(W:WrOk h v):WrOk h' v:=by
 rcases W with W|⟨r,ver,sz',off,len,room,b,rfl,h1,h2⟩
 ·exact .inl W
 ·rcases T with⟨T,_⟩|⟨r',ver',off',len',room',c0',b',hv,T2,T⟩
  ·exact .inl T
  ·cases hv;exact .inr ⟨r,ver,_,off,len,room,b,rfl,by rw[(M.n r (fD hf T2)).1];exact h1,h2⟩
theorem QL.frame(M:A8 nf idf vf c c' h h' env env'){fs:List Nat}(hf:fs.all (λn=> !nf n)=true):∀{vs xs:List PV},QL (λr=>c.nm r∈fs) h vs xs->QL (λr=>c'.nm r∈fs) h' vs xs
 |[],[],_=>trivial
 | v::vs,x::xs,H=>by
  obtain⟨H1,H2⟩:=H;refine⟨?_,QL.frame M hf H2⟩;rcases H1 with H1|⟨r,ver,n,e,ro,h1,h2,h3,h4⟩
  ·exact .inl H1
  ·have:=M.n r (fD hf h2);exact .inr ⟨r,ver,n,e,ro,h1,by simp only[this.2];exact h2,by rw[this.1];exact h3,h4⟩
 |[],_::_,H=>by cases H
 |_::_,[],H=>by cases H
theorem kC(M:A8 nf idf vf c c' h h' env env'){e:X}(hm:(!e.ment vf)=true):e.ev env'=e.ev env:=X.ev_ment M.v (by simpa using hm)
mutual
theorem Rel.frame(M:A8 nf idf vf c c' h h' env env'):∀{a:AV}{v:PV},a.ok nf idf vf=true->Rel c h env a v->Rel c' h' env' a v
 |.D,v,_,_=>trivial
 |.F e,v,ho,R=>by
  simp only[AV.ok]at ho;simp only[Rel]at R⊢;rw[kC M ho];exact R
 |.N e,v,ho,R=>by
  simp only[AV.ok]at ho;simp only[Rel]at R⊢;rw[kC M ho];exact R
 |.O fs w wr sz e,v,ho,R=>by
  simp only[AV.ok,Np,NV]at ho;simp only[Rel]at R⊢;obtain⟨h1,x,h2,h3,h4⟩:=R;exact⟨by rw[(M.i w ho.1.2).1];exact h1,x,h2.frame M ho.1.1,by rw[kC M (by simpa using ho.2)];exact h3,λhw=>(h4 hw).frame M ho.1.1 h2⟩
 |.Q fs e,v,ho,R=>by
  simp only[AV.ok,Np,NV]at ho;simp only[Rel]at R⊢;obtain⟨f,vs,xs,h1,h2,h3,h4⟩:=R;exact⟨f,vs,xs,h1,h2.frame M ho.1,by rw[kC M (by simpa using ho.2)];exact h3,h4⟩
 |.P b o,v,ho,R=>by
  simp only[AV.ok,NV]at ho;simp only[Rel]at R⊢;rw[(M.i b ho).2];exact R
 |.EP fs w wr sz e i o,v,ho,R=>by
  simp only[AV.ok,Np,NV]at ho;simp only[Rel,AZ]at R⊢;obtain⟨r,ver,off,len,room,c0,b,x,k,n,h1,h2,h3,h4,h5⟩:=R;refine⟨r,ver,off,len,room,c0,b,x,k,n,?_,by rw[kC M (by simpa using ho.1.2)];exact h2,λhw=>?_,by rw[kC M (by simpa using ho.2)];exact h4,h5⟩
  ·rw[(M.i w ho.1.1.2).1];exact h1.frame M ho.1.1.1
  ·rw[(M.i w ho.1.1.2).1];exact(h3 hw).frame M ho.1.1.1 (.inr ⟨_,_,_,_,_,_,_,h1⟩)
 |.A cs,v,ho,R=>by
  simp only[AV.ok]at ho;simp only[Rel]at R⊢;obtain⟨vs,h1,h2,h3⟩:=R;exact⟨vs,h1,h2,RelL.frame M ho h3⟩
 |.L fs sz cs,v,ho,R=>by
  simp only[AV.ok,Np]at ho;simp only[Rel]at R⊢;obtain⟨r,ver,vs,h1,h2,h3,h4,h5⟩:=R;have:=M.n r (fD ho.1 h2);exact⟨r,ver,vs,h1,by rw[this.2];exact h2,by rw[this.1];exact h3,h4,RelL.frame M ho.2 h5⟩
 |.C f cs,v,ho,R=>by
  simp only[AV.ok]at ho;simp only[Rel]at R⊢;obtain⟨vs,h1,h3⟩:=R;exact⟨vs,h1,RelL.frame M ho h3⟩
 |.T cs,v,ho,R=>by
  simp only[AV.ok]at ho;simp only[Rel]at R⊢;obtain⟨vs,h1,h3⟩:=R;exact⟨vs,h1,RelL.frame M ho h3⟩
 |.G g p a,v,ho,R=>by
  simp only[AV.ok,Np]at ho;simp only[Rel]at R⊢;rw[kC M ho.1];rcases R with R|R
  ·exact .inl ⟨R.1,Rel.frame M ho.2 R.2⟩
  ·exact .inr R
theorem RelL.frame(M:A8 nf idf vf c c' h h' env env'):∀{as:List AV}{vs:List PV},AV.okL nf idf vf as=true->RelL c h env as vs->RelL c' h' env' as vs
 |[],[],_,_=>trivial
 |a::as,v::vs,ho,R=>by
  simp only[AV.okL,Np]at ho;exact⟨Rel.frame M ho.1 R.1,RelL.frame M ho.2 R.2⟩
 |[],_::_,_,R=>by cases R
 |_::_,[],_,R=>by cases R
end
def AV.keep(nf idf vf:Nat->Bool)(a:AV):AV:=if a.ok nf idf vf then a else .D
def Abs.keep(nf idf vf:Nat->Bool)(a:Abs):Abs:=
 ⟨a.t.filter λp=>p.2.ok nf idf vf,(a.b.filter λx=> !idf x.id&&x.fs.all λn=> !nf n).map λx=>⟨x.id,x.ro,x.fs,x.cs.map (AV.keep nf idf vf)⟩⟩
theorem RelL.keep(M:A8 nf idf vf c c' h h' env env'):∀{as:List AV}{vs:List PV},RelL c h env as vs->RelL c' h' env' (as.map (AV.keep nf idf vf)) vs
 |[],[],_=>trivial
 |a::as,v::vs,R=>by
  refine⟨?_,RelL.keep M R.2⟩;simp only[AV.keep];split
  ·rename_i ho;exact Rel.frame M ho R.1
  ·trivial
 |[],_::_,R=>by cases R
 |_::_,[],R=>by cases R
theorem BoxOk.keep(M:A8 nf idf vf c c' h h' env env'){x:BX}(hx:(!idf x.id&&x.fs.all λn=> !nf n)=true)(B:BoxOk c h env x):BoxOk c' h' env' ⟨x.id,x.ro,x.fs,x.cs.map (AV.keep nf idf vf)⟩:=by
 simp only[Np,NV]at hx;obtain⟨n,e,ro,h1,h2,h3,h4,h5⟩:=B;have hb:=(M.i x.id hx.1).2;have hr:=M.n (c.be x.id).1 (fD hx.2 h1);refine⟨n,e,ro,?_,?_,h3,h4,h5.keep M⟩
 ·simp only[hb,hr.2];exact h1
 ·simp only[hb,hr.1];exact h2
theorem Sim.keep{I:Inv}{a:Abs}{fr:List PV}(M:A8 nf idf vf c c' h h' env env')(S:Sim I c a env ⟨fr,h⟩)(hn:Nm I c')(hL:h'.L.length=I.ns)(hA:h'.A.length=I.m)
  (hk:∀r,c'.nm r∈I.kp->SameRo (h'.get r) (I.h0.get r))(hf:∀i ver b,I.fl (I.al i)=true->h'.get (.a i)=some ⟨ver,some b⟩->bV b.es=true):Sim I c' (a.keep nf idf vf) env' ⟨fr,h'⟩ where
 fr:=S.fr
 tm p hp:=by
  obtain⟨h1,h2⟩:=List.mem_filter.1 hp;exact Rel.frame M h2 (S.tm p h1)
 bx x hx:=by
  obtain⟨y,hy,rfl⟩:=List.mem_map.1 hx;obtain⟨h1,h2⟩:=List.mem_filter.1 hy;exact(S.bx y h1).keep M h2
 nm:=hn
 hl:=hL
 ha:=hA
 kp:=hk
 fl:=hf
end
def Abs.get(a:Abs)(t:Nat):Option AV:=match a.t.find? (λp=>p.1==t)with|some p=>(match p.2 with|.D=>none|v=>some v)|none=>none
def Abs.set(a:Abs)(t:Nat)(v:AV):Abs:=⟨(t,v)::a.t.filter (λp=>p.1 !=t),a.b⟩
def Abs.box(a:Abs)(b:Nat):Option BX:=a.b.find? λx=>x.id==b
theorem Abs.get_rel{I:Inv}{c:Cx}{a:Abs}{env:Env}{σ:St}(S:Sim I c a env σ){t:Nat}{v:AV}(h:a.get t=some v):Rel c σ.h env v (kF σ.fr t):=by
 unfold Abs.get at h;split at h
 ·rename_i p hp;have h1:=List.find?_some hp;have h2:=S.tm p (List.mem_of_find?_eq_some hp);simp only[NX]at h1;subst h1;split at h
  ·cases h
  ·rename_i v' hd he;cases h;exact h2
 ·cases h
theorem Abs.box_ok{I:Inv}{c:Cx}{a:Abs}{env:Env}{σ:St}(S:Sim I c a env σ){b:Nat}{x:BX}(h:a.box b=some x):x.id=b/\BoxOk c σ.h env x:=by
 have h1:=List.find?_some h;exact⟨by simpa using h1,S.bx x (List.mem_of_find?_eq_some h)⟩
theorem Sim.set{I:Inv}{c:Cx}{a:Abs}{env:Env}{fr:List PV}{h:Heap}(S:Sim I c a env ⟨fr,h⟩){t:Nat}(ht:t<I.nt){av:AV}{v:PV}(R:Rel c h env av v):Sim I c (a.set t av) env ⟨upd fr t v,h⟩ where
 fr:=by rw[mP];exact S.fr
 tm p hp:=by
  rcases List.mem_cons.1 hp with rfl|hp
  ·simp only;rw[oL];have:t<fr.length:=by have:=S.fr;simp only at this;omega
   simp[this,R]
  ·obtain⟨h1,h2⟩:=List.mem_filter.1 hp;have hne:p.1≠t:=by simpa using h2
   rw[oL];simp only[show¬(p.1=t)from hne,Pp,Oc];have:=S.tm p h1
   first|exact this|(split<;>first|exact this|(exfalso;omega))
 bx:=S.bx
 nm:=S.nm
 hl:=S.hl
 ha:=S.ha
 kp:=S.kp
 fl:=S.fl
theorem HM.runT_bind{α β:Type}(m:HM α)(f:α->HM β)(h:Heap):
  (m.bind f).runT h=match m.runT h with
   |some (a,h1,R,W)=>(match(f a).runT h1 with|some (b,h2,R2,W2)=>some (b,h2,R++R2,W++W2)|none=>none)
   |none=>none:=by
 induction m generalizing h with
 |ret a=>
  simp only[HM.bind,HM.runT];cases(f a).runT h with
  |none=>rfl
  |some p=>rfl
 |fail=>rfl
 | get r k ih=>
  simp only[HM.bind,HM.runT];cases hg:h.get r with
  |none=>rfl
  | some e=>
   simp only[ih];cases(k e).runT h with
   |none=>rfl
   |some p=>
    obtain⟨a,h1,R,W⟩:=p;simp only;cases(f a).runT h1 with
    |none=>rfl
    |some q=>rfl
 | set r e k ih=>
  simp only[HM.bind,HM.runT];cases hg:h.get r with
  |none=>rfl
  | some e0=>
   simp only[ih];cases k.runT (h.put r e)with
   |none=>rfl
   |some p=>
    obtain⟨a,h1,R,W⟩:=p;simp only;cases(f a).runT h1 with
    |none=>rfl
    |some q=>rfl
theorem HM.runT_bind_of{α β:Type}{m:HM α}{f:α->HM β}{h h1 h2:Heap}{a:α}{b:β}{R W R2 W2:List ao}(x:m.runT h=some (a,h1,R,W))(y:(f a).runT h1=some (b,h2,R2,W2)):
  (m.bind f).runT h=some (b,h2,R++R2,W++W2):=by
 rw[HM.runT_bind,x];simp only;rw[y]
theorem aS{r:ao}{ver:Nat}{b:Blk}{h:Heap}(hg:h.get r=some ⟨ver,some b⟩):(bN r ver).runT h=some (b,h,[r],[]):=by
 simp[bN,HM.runT,hg,HM.ofO]
mutual
def se:PV->Option X
 |.int k n=>some (.int k n)
 |.bool b=>some (.boo b)
 |.str s=>some (.str s)
 |.nilp=>some .nilp
 |.nilfn=>some .nilfn
 |.nils=>some (.lst .nl)
 |.lst es _=>(ya es).map X.lst
 |.agg cs=>if ai cs then(ya cs).map X.agg else none
 |.fn f []=>some (.fn f .nl)
 |_=>none
def ya:List PV->Option X
 |[]=>some .nl
 |v::vs=>af (se v) λx=>af (ya vs) λl=>some (.cn x l)
end
mutual
theorem wF(env:Env):∀{v:PV}{e:X},se v=some e->pl v=true/\e.ev env=some (aM v)
 |.int k n,e,h=>by cases h;exact⟨rfl,rfl⟩
 |.bool _,e,h=>by cases h;exact⟨rfl,rfl⟩
 |.str _,e,h=>by cases h;exact⟨rfl,rfl⟩
 |.nilp,e,h=>by cases h;exact⟨rfl,rfl⟩
 |.nilfn,e,h=>by cases h;exact⟨rfl,rfl⟩
 |.nils,e,h=>by cases h;exact⟨rfl,rfl⟩
 |.lst es c,e,h=>by
  simp only[se,NY]at h;obtain⟨l,hl,rfl⟩:=h;have:=tx env hl;exact⟨by simp only[pl,this.1],by simp only[X.ev,this.2,ac,bP,aM]⟩
 | .agg cs,e,h=>by
  simp only[se]at h;split at h
  ·rename_i hc;simp only[NY]at h;obtain⟨l,hl,rfl⟩:=h;have:=tx env hl;refine⟨by simp only[pl,this.1,hc,NZ],by simp only[X.ev,this.2,ac,bP,aM,da,hc,Oa]⟩
  ·cases h
 |.fn f [],e,h=>by cases h;exact⟨rfl,rfl⟩
 |.fn f (_::_),e,h=>by simp[se]at h
 |.lptr _,e,h=>by simp[se]at h
 |.tup _,e,h=>by simp[se]at h
 |.tok ..,e,h=>by simp[se]at h
 |.ptr ..,e,h=>by simp[se]at h
 |.junk,e,h=>by simp[se]at h
theorem tx(env:Env):∀{l:List PV}{e:X},ya l=some e->bV l=true/\e.ev env=some (.tup (az l))
 |[],e,h=>by cases h;exact⟨rfl,rfl⟩
 |v::vs,e,h=>by
  simp only[ya,ab]at h;obtain⟨x,hx,l,hl,he⟩:=h;cases he;have h1:=wF env hx;have h2:=tx env hl;exact⟨by simp only[bV,h1.1,h2.1,NZ],by simp only[X.ev,h1.2,h2.2,ac,az]⟩
end
def xe:PV->Option AV
 |.nils=>some (.N (.lst .nl))
 |v=>(se v).map AV.F
def tG:List PV->Option (List AV)
 |[]=>some []
 |v::vs=>af (xe v) λa=>af (tG vs) λas=>some (a::as)
theorem wh(c:Cx)(h:Heap)(env:Env){v:PV}{a:AV}(H:xe v=some a):Rel c h env a v:=by
 unfold xe at H;split at H
 ·cases H;exact⟨.inl rfl,rfl⟩
 ·rename_i hn;simp only[NY]at H;obtain⟨e,he,rfl⟩:=H;exact wF env he
theorem qF(c:Cx)(h:Heap)(env:Env):∀{l:List PV}{as:List AV},tG l=some as->RelL c h env as l
 |[],as,H=>by cases H;trivial
 |v::vs,as,H=>by
  simp only[tG,ab]at H;obtain⟨a,ha,l,hl,he⟩:=H;cases he;exact⟨wh c h env ha,qF c h env hl⟩
def Abs.po(a:Abs):PO->Option AV
 |.t n=>a.get n
 |.c v=>match v with
  |.agg cs=>if ai cs then(tG cs).map AV.A else none
  |v=>xe v
theorem Abs.po_ok{I:Inv}{c:Cx}{a:Abs}{env:Env}{σ:St}(S:Sim I c a env σ):∀{x:PO}{av:AV},a.po x=some av->Rel c σ.h env av (x.ev σ.fr)
 |.t n,av,H=>Abs.get_rel S H
 | .c v,av,H=>by
  simp only[Abs.po]at H;split at H
  ·split at H
   ·rename_i hc;simp only[NY]at H;obtain⟨l,hl,rfl⟩:=H;exact⟨_,rfl,hc,qF _ _ _ hl⟩
   ·cases H
  ·exact wh _ _ _ H
mutual
def fx:AV->Option X
 |.F e=>some e
 |.N e=>some e
 |.A cs=>(LW cs).map X.agg
 |_=>none
def LW:List AV->Option X
 |[]=>some .nl
 |a::as=>af (fx a) λx=>af (LW as) λl=>some (.cn x l)
end
theorem gQ{v:PV}(h:p6 v):pl v=true/\aM v=.lst [] false:=by rcases h with rfl|rfl<;>exact⟨rfl,rfl⟩
section
variable{c:Cx}{h:Heap}{env:Env}
mutual
theorem kZ:∀{a:AV}{v:PV}{e:X},Rel c h env a v->fx a=some e->pl v=true/\e.ev env=some (aM v)
 |.F e,v,e',R,H=>by cases H;exact R
 |.N e,v,e',R,H=>by
  cases H;have:=gQ R.1;exact⟨this.1,by rw[this.2];exact R.2⟩
 |.A cs,v,e',R,H=>by
  simp only[fx,NY]at H;obtain⟨l,hl,rfl⟩:=H;obtain⟨vs,rfl,hc,hR⟩:=R;have:=Az hR hl;exact⟨by simp only[pl,hc,this.1,NZ],by simp only[X.ev,this.2,ac,bP,da,hc,Oa,aM]⟩
 |.D,v,e',R,H=>by simp[fx]at H
 |.O ..,v,e',R,H=>by simp[fx]at H
 |.Q ..,v,e',R,H=>by simp[fx]at H
 |.P ..,v,e',R,H=>by simp[fx]at H
 |.EP ..,v,e',R,H=>by simp[fx]at H
 |.C ..,v,e',R,H=>by simp[fx]at H
 |.L ..,v,e',R,H=>by simp[fx]at H
 |.T ..,v,e',R,H=>by simp[fx]at H
 |.G ..,v,e',R,H=>by simp[fx]at H
theorem Az:∀{as:List AV}{vs:List PV}{e:X},RelL c h env as vs->LW as=some e->bV vs=true/\e.ev env=some (.tup (az vs))
 |[],[],e,R,H=>by cases H;exact⟨rfl,rfl⟩
 |a::as,v::vs,e,R,H=>by
  simp only[LW,ab]at H;obtain⟨x,hx,l,hl,he⟩:=H;cases he;have h1:=kZ R.1 hx;have h2:=Az R.2 hl;exact⟨by simp only[bV,h1.1,h2.1,NZ],by simp only[X.ev,h1.2,h2.2,ac,az]⟩
 |[],_::_,_,R,_=>by cases R
 |_::_,[],_,R,_=>by cases R
end
def L9(g:X)(p:Bool)(a:AV):Option X:=match a with
 |.G g' p' a=>if g'=g/\p'=p then fx a else none
 |a=>fx a
theorem Et{g:X}{p:Bool}{a:AV}{v:PV}{e:X}(hg:g.ev env=some (.bool p))(R:Rel c h env a v)(H:L9 g p a=some e):pl v=true/\e.ev env=some (aM v):=by
 unfold L9 at H;split at H
 ·split at H
  ·rename_i he;obtain⟨rfl,rfl⟩:=he;rcases R with R|R
   ·exact kZ R.2 H
   ·rw[hg]at R;rcases R.1 with h1|h1
    ·simp at h1
    ·simp at h1
  ·cases H
 ·exact kZ R H
def Abs.fo(a:Abs)(x:PO):Option X:=af (a.po x) fx
theorem Abs.fo_ok{I:Inv}{a:Abs}{σ:St}(S:Sim I c a env σ){x:PO}{e:X}(H:a.fo x=some e):pl (x.ev σ.fr)=true/\e.ev env=some (aM (x.ev σ.fr)):=by
 simp only[Abs.fo,ab]at H;obtain⟨av,h1,h2⟩:=H;exact kZ (Abs.po_ok S h1) h2
def Abs.fos(a:Abs):List PO->Option X
 |[]=>some .nl
 |x::xs=>af (a.fo x) λe=>af (a.fos xs) λl=>some (.cn e l)
theorem Abs.fos_ok{I:Inv}{a:Abs}{σ:St}(S:Sim I c a env σ):∀{xs:List PO}{e:X},a.fos xs=some e->bV (ka (PO.ev σ.fr) xs)=true/\e.ev env=some (.tup (az (ka (PO.ev σ.fr) xs)))
 |[],e,H=>by cases H;exact⟨rfl,rfl⟩
 |x::xs,e,H=>by
  simp only[Abs.fos,ab]at H;obtain⟨y,hy,l,hl,he⟩:=H;cases he;have h1:=Abs.fo_ok S hy;have h2:=Abs.fos_ok S hl;exact⟨by simp only[ka,bV,h1.1,h2.1,NZ],by simp only[X.ev,h1.2,h2.2,ac,ka,az]⟩
def Abs.pos(a:Abs):List PO->Option (List AV)
 |[]=>some []
 |x::xs=>af (a.po x) λe=>af (a.pos xs) λl=>some (e::l)
theorem Abs.pos_ok{I:Inv}{a:Abs}{σ:St}(S:Sim I c a env σ):∀{xs:List PO}{as:List AV},a.pos xs=some as->RelL c σ.h env as (ka (PO.ev σ.fr) xs)
 |[],as,H=>by cases H;trivial
 |x::xs,as,H=>by
  simp only[Abs.pos,ab]at H;obtain⟨y,hy,l,hl,he⟩:=H;cases he;exact⟨Abs.po_ok S hy,Abs.pos_ok S hl⟩
end
def oa:Option Nat->X->Bool
 |none,.int .. |none,.boo _|none,.str _|none,.lst _|none,.bin .. |none,.toInt .. |none,.eqs .. |none,.eqb .. |none,.len _|none,.lenS _|none,.app .. |none,.ia .. |none,.fa .. |none,.b2s _=>true
 |sz,.fld sz' _ _=>sz==sz'
 |sz,.ld sz' _ _=>sz==sz'
 |sz,.ite _ a b=>oa sz a&&oa sz b
 |sz,.chk sz' _=>sz==sz'
 |_,_=>false
theorem Cq{op:BinOp}{k k':IntKind}{a b:Int}{x:PV}(h:a9 op k a k' b=some x):x.fits none=true:=by
 unfold a9 at h;split at h
 ·split at h
  ·cases h
  ·cases h;rfl
 ·split at h
  ·cases h
  ·cases h;rfl
 ·split at h
  ·cases h
  ·split at h<;>first|(split at h<;>first|(cases h;rfl)|(cases h;done))|(cases h;rfl)|(cases h;done)
theorem DN{op:BinOp}{v w x:PV}(h:bin op v w=some x):x.fits none=true:=by
 unfold bin at h;split at h
 ·exact Cq h
 ·split at h<;>first|(cases h;rfl)|(split at h<;>first|(cases h;rfl)|(cases h;done))|(cases h;done)
 ·cases h
theorem tT{sz:Nat}{v i x:PV}(h:au sz v i=some x):x.fits none=true:=by
 unfold au at h;split at h
 ·split at h
  ·split at h
   ·cases h;rfl
   ·cases h
  ·split at h
   ·split at h
    ·split at h
     ·cases h;rfl
     ·cases h
    ·cases h
   ·cases h
  ·cases h
 ·cases h
theorem CM{neg:Bool}{ks:List Bool}{v w x:PV}(h:pR neg ks v w=some x):x.fits none=true:=by
 unfold pR at h;split at h
 ·split at h
  ·cases h;rfl
  ·cases h
 ·cases h
theorem Fg{env:Env}:∀{e:X}{sz:Option Nat}{x:PV},oa sz e=true->e.ev env=some x->x.fits sz=true:=by
 intro e;induction e<;>intro sz x hf hx
 case ite c a b ihc iha ihb=>
  have hf':oa sz a=true/\oa sz b=true:=by cases sz<;>simpa[oa]using hf
  simp only[X.ev,ab]at hx;obtain⟨y,_,hx⟩:=hx;split at hx
  ·exact iha hf'.1 hx
  ·exact ihb hf'.2 hx
  ·cases hx
 case fld sz' a o iha=>
  have hf':sz=sz':=by cases sz<;>simpa[oa]using hf
  subst hf';simp only[X.ev,ab]at hx;obtain⟨y,_,hx⟩:=hx;unfold sh at hx;split at hx
  ·exact(kn hx).2
  ·cases hx
 case ld sz' a o iha=>
  have hf':sz=sz':=by cases sz<;>simpa[oa]using hf
  subst hf';simp only[X.ev,ab]at hx;obtain⟨y,_,hx⟩:=hx;unfold BB at hx;split at hx
  ·exact(kn hx).2
  ·cases hx
 case chk sz' a iha=>
  have hf':sz=sz':=by cases sz<;>simpa[oa]using hf
  subst hf';simp only[X.ev,ab]at hx;obtain⟨y,_,hx⟩:=hx;unfold Cp at hx;split at hx
  ·rename_i hc;cases hx;exact hc.1
  ·cases hx
 all_goals cases sz<;>simp only[oa,NL]at hf
 all_goals simp only[X.ev,ab,No]at hx
 all_goals first
  |(subst hx;rfl)
  |(obtain⟨y,_,z,_,hx⟩:=hx;first|exact DN hx|skip)
  |(obtain⟨y,_,hx⟩:=hx)
 case lst=>subst hx;rfl
 case toInt=>unfold ku at hx;split at hx<;>cases hx;rfl
 case eqs=>exact CM hx
 case eqb=>unfold eqb at hx;split at hx<;>cases hx;rfl
 case len=>unfold dp at hx;split at hx<;>cases hx;rfl
 case lenS=>unfold mK at hx;split at hx<;>cases hx;rfl
 case ia=>exact tT hx
 case fa=>
  unfold ba at hx;split at hx<;>cases hx<;>rfl
 case app=>
  unfold jl at hx;split at hx<;>try(cases hx;done)
  all_goals(split at hx<;>cases hx;rfl)
 case b2s=>
  unfold Dg at hx;split at hx
  ·simp only[NY]at hx;obtain⟨l,_,rfl⟩:=hx;rfl
  ·cases hx
def qb(sz:Option Nat)(e:X):List X:=if oa sz e then[]else[.chk sz e]
def cellsOf(sz:Option Nat)(a:AV):Option (List AV×List X):=
 match sz,a with
 |none,.F e=>some ([.F e],e::qb none e)
 |none,.N e=>some ([.N e],[])
 |none,.O fs w wr s e=>some ([.O fs w wr s e],[])
 |none,.P b o=>some ([.P b o],[])
 |none,.C f cs=>some ([.C f cs],[])
 |none,.L fs sz cs=>some ([.L fs sz cs],[])
 |some n,.F e=>some ((List.range n).map λj=>.F (.fld none e j),e::qb (some n) e)
 |some n,.A cs=>if cs.length=n then some (cs,[])else none
 |_,_=>none
theorem bX{env:Env}:∀{l m:List X},am env (l++m)=(am env l&&am env m)
 |[],m=>by simp[am]
 |x::l,m=>by simp[am,bX (l:=l),Bool.and_assoc]
theorem eR{env:Env}:∀{l:List X},am env l=true↔∀x∈l,(x.ev env).isSome=true
 |[]=>by simp[am]
 |x::l=>by simp[am,eR (l:=l)]
theorem pg{env:Env}{sz:Option Nat}{e:X}{v:PV}(hv:e.ev env=some (aM v))(hg:am env (qb sz e)=true)(hp:pl v=true):v.fits sz=true/\ai v.cells=true:=by
 unfold qb at hg;split at hg
 ·rename_i hf;have:=Fg hf hv;rw[nV]at this;exact⟨this,qz hp⟩
 ·simp only[am,Oi,X.ev,hv,ac,Option.isSome_iff_exists]at hg;obtain⟨x,hx⟩:=hg;have:=IU hx;exact⟨this.1,this.2.1⟩
theorem RelL.len{c:Cx}{h:Heap}{env:Env}:∀{as:List AV}{vs:List PV},RelL c h env as vs->as.length=vs.length
 |[],[],_=>rfl
 |a::as,v::vs,R=>by simp[RelL.len R.2]
 |[],_::_,R=>by cases R
 |_::_,[],R=>by cases R
theorem RelL.get{c:Cx}{h:Heap}{env:Env}:∀{as:List AV}{vs:List PV},RelL c h env as vs->∀{i:Nat}{a:AV},as[i]?=some a->∃v,vs[i]?=some v/\Rel c h env a v
 |a::as,v::vs,R,0,b,H=>by simp only[Nz,No]at H⊢;subst H;exact⟨v,rfl,R.1⟩
 |a::as,v::vs,R,i+1,b,H=>by simp only[Oo]at H⊢;exact RelL.get R.2 H
 |[],vs,_,i,b,H=>by simp at H
 |_::_,[],R,_,_,_=>by cases R
theorem RelL.of{c:Cx}{h:Heap}{env:Env}:∀{as:List AV}{vs:List PV},as.length=vs.length->(∀(i:Nat)(a:AV)(v:PV),as[i]?=some a->vs[i]?=some v->Rel c h env a v)->RelL c h env as vs
 |[],[],_,_=>trivial
 |a::as,v::vs,hl,H=>⟨H 0 a v rfl rfl,RelL.of (by simpa using hl) λi a' v' h1 h2=>H (i+1) a' v' (by simpa using h1) (by simpa using h2)⟩
 |[],_::_,hl,_=>by simp at hl
 |_::_,[],hl,_=>by simp at hl
theorem RelL.app{c:Cx}{h:Heap}{env:Env}:∀{as bs:List AV}{vs ws:List PV},RelL c h env as vs->RelL c h env bs ws->RelL c h env (as++bs) (vs++ws)
 |[],bs,[],ws,_,H=>H
 |a::as,bs,v::vs,ws,R,H=>⟨R.1,RelL.app R.2 H⟩
 |[],_,_::_,_,R,_=>by cases R
 |_::_,_,[],_,R,_=>by cases R
theorem RelL.drop{c:Cx}{h:Heap}{env:Env}:∀{as:List AV}{vs:List PV}(n:Nat),RelL c h env as vs->RelL c h env (as.drop n) (vs.drop n)
 |as,vs,0,R=>R
 |[],[],n+1,R=>trivial
 |a::as,v::vs,n+1,R=>RelL.drop n R.2
 |[],_::_,_+1,R=>by cases R
 |_::_,[],_+1,R=>by cases R
theorem RelL.take{c:Cx}{h:Heap}{env:Env}:∀{as:List AV}{vs:List PV}(n:Nat),RelL c h env as vs->RelL c h env (as.take n) (vs.take n)
 |as,vs,0,R=>trivial
 |[],[],n+1,R=>trivial
 |a::as,v::vs,n+1,R=>⟨R.1,RelL.take n R.2⟩
 |[],_::_,_+1,R=>by cases R
 |_::_,[],_+1,R=>by cases R
theorem mR{c:Cx}{h:Heap}{env:Env}{sz:Option Nat}{a:AV}{v:PV}{cs:List AV}{ns:List X}(R:Rel c h env a v)(H:cellsOf sz a=some (cs,ns))(hg:am env ns=true):
  v.fits sz=true/\ai v.cells=true/\RelL c h env cs v.cells:=by
 have one:∀{w:PV},w.isCell=true->w.cells=[w]/\w.fits none=true/\ai w.cells=true:=by
  intro w hw;cases w<;>first|(simp[PV.isCell]at hw;done)|exact⟨rfl,rfl,rfl⟩
 unfold cellsOf at H;split at H<;>try(cases H;done)
 ·rename_i e;cases H;simp only[am,Np]at hg;obtain⟨h1,h2⟩:=pg R.2 hg.2 R.1;refine⟨h1,h2,?_⟩;have:v.cells=[v]:=by cases v<;>simp_all [PV.fits,PV.cells]
  rw[this];exact⟨R,trivial⟩
 ·cases H;have:v.isCell=true:=by rcases R.1 with rfl|rfl<;>rfl
  obtain⟨h1,h2,h3⟩:=one this;exact⟨h2,h3,by rw[h1];exact⟨R,trivial⟩⟩
 ·cases H;have:v.isCell=true:=by
   obtain⟨_,x,T,_⟩:=R;rcases T with⟨rfl|rfl,_⟩|⟨r,ver,off,len,room,c0,b,rfl,_⟩<;>rfl
  obtain⟨h1,h2,h3⟩:=one this;exact⟨h2,h3,by rw[h1];exact⟨R,trivial⟩⟩
 ·cases H;have:v.isCell=true:=by simp only[Rel]at R;subst R;rfl
  obtain⟨h1,h2,h3⟩:=one this;exact⟨h2,h3,by rw[h1];exact⟨R,trivial⟩⟩
 ·cases H;have:v.isCell=true:=by obtain⟨vs,rfl,_⟩:=R;rfl
  obtain⟨h1,h2,h3⟩:=one this;exact⟨h2,h3,by rw[h1];exact⟨R,trivial⟩⟩
 ·cases H;have:v.isCell=true:=by obtain⟨r,ver,vs,rfl,_⟩:=R;rfl
  obtain⟨h1,h2,h3⟩:=one this;exact⟨h2,h3,by rw[h1];exact⟨R,trivial⟩⟩
 ·rename_i n e;cases H;simp only[am,Np]at hg;obtain⟨h1,h2⟩:=pg R.2 hg.2 R.1;refine⟨h1,h2,?_⟩;obtain⟨vs,rfl,hl⟩:∃vs,v=.agg vs/\vs.length=n:=by
   cases v<;>simp_all [PV.fits]
  have hp:=R.1;simp only[pl,Np]at hp;refine RelL.of (by simp[PV.cells,hl]) λi a' v' ha hv=>?_;simp only[NE,NY]at ha;obtain⟨j,hj,rfl⟩:=ha;have hlt:=getElem?_lt hj;rw[Ns hlt]at hj;simp only[List.getElem_range,No]at hj;subst hj;simp only[PV.cells]at hv h2;refine⟨qB hp.2 hv,?_⟩;have hcell:=cj h2 hv;have:(aM v').fits none=true:=by
   rw[nV];cases v'<;>simp_all [PV.isCell,PV.fits]
  simp only[X.ev,R.2,ac,aM,sh,lL,db,n9,hv,NM,this,Oa]
 ·split at H
  ·rename_i n cs' hl;cases H;obtain⟨vs,rfl,h2,h3⟩:=R;exact⟨by simp[PV.fits,<-hl,h3.len],h2,h3⟩
  ·cases H
abbrev PR:=Option (AV×List X×List Nat)
def fq(e:X):PR:=some (.F e,[e],[])
def Abs.bnd(a:Abs):Option PO->Option X
 |none=>some .nl
 |some p=>a.fo p
def Abs.parts(a:Abs):List AV->List (Nat×Option Nat×PO)->Option (List AV×List X)
 |cs,[]=>some (cs,[])
 | cs,(off,sz,x)::ps=>af (a.po x) λav=>af (cellsOf sz av) λln=>
   if off+ln.1.length<=cs.length then af (a.parts (cs.take off++ln.1++cs.drop (off+ln.1.length)) ps) λr=>some (r.1,ln.2++r.2)else none
def co(a:Abs):IOp->PR
 |.mov x=>af (a.po x) λav=>some (av,[],[])
 |.pick c x y=>af (a.fo c) λc'=>af (a.po x) λxv=>af (L9 c' true xv) λx'=>af (a.po y) λyv=>af (L9 c' false yv) λy'=>fq (.ite c' x' y')
 |.build zero parts=>if ai zero then af (tG zero) λz=>af (a.parts z parts) λr=>some (.A r.1,r.2,[])else none
 | .load sz x=>af (a.po x) λxv=>match xv with
   | .P b o=>af (a.box b) λbx=>match sz with
     |none=>af bx.cs[o]? λav=>match av with|.D=>none|av=>some (av,[],bx.fs)
     |some n=>if o+n<=bx.cs.length then some (.A ((bx.cs.drop o).take n),[],bx.fs)else none
   |.F e=>fq (.ld sz e 0)
   |.EP fs _ _ s e i o=>some (.F (.ld sz (.ia s e i) o),[.ld sz (.ia s e i) o],fs)
   |_=>none
 | .nilchk x=>af (a.po x) λxv=>match xv with
   |.P b o=>some (.P b o,[],[])
   |.F e=>some (.F e,[.nck e],[])
   |.EP fs w wr s e i o=>some (.EP fs w wr s e i o,[],[])
   |.C f cs=>some (.C f cs,[],[])
   |.Q fs e=>some (.Q fs e,[],[])
   |_=>none
 |.bin op x y=>af (a.fo x) λx'=>af (a.fo y) λy'=>fq (.bin op x' y')
 |.eqs neg ks x y=>af (a.fo x) λx'=>af (a.fo y) λy'=>fq (.eqs neg ks x' y')
 |.eqb neg x y=>af (a.fo x) λx'=>af (a.fo y) λy'=>fq (.eqb neg x' y')
 |.eqn k neg x y=>af (a.fo x) λx'=>af (a.fo y) λy'=>fq (.eqn k neg x' y')
 |.un op x=>af (a.fo x) λx'=>fq (.un op x')
 |.toInt k x=>af (a.fo x) λx'=>fq (.toInt k x')
 | .b2s x=>af (a.po x) λxv=>match xv with
   |.O fs _ _ _ e=>some (.F (.b2s e),[.b2s e],fs)
   |xv=>af (fx xv) λe=>fq (.b2s e)
 | .slice sz x lo hi mx=>af (a.bnd lo) λl=>af (a.bnd hi) λh=>af (a.bnd mx) λm=>af (a.po x) λxv=>match xv with
   |.N e=>some (.N (.slice sz e l h m),[.slice sz e l h m],[])
   |xv=>af (fx xv) λe=>if(l=.nl∨l=.int .i64 0)/\h=.int .i64 0/\m=.int .i64 0/\sz≠0 then some (.N (.slice sz e l h m),[.slice sz e l h m],[])else fq (.slice sz e l h m)
 | .fieldAddr x off=>af (a.po x) λxv=>match xv with
   |.P b o=>some (.P b (o+off),[],[])
   |.F e=>fq (.fa e off)
   |.EP fs w wr s e i o=>some (.EP fs w wr s e i (o+off),[],[])
   |_=>none
 | .field sz x off=>af (a.po x) λxv=>match xv with
   | .A cs=>(match sz with
     |none=>af cs[off]? λav=>match av with|.D=>none|av=>some (av,[],[])
     |some n=>if off+n<=cs.length then some (.A ((cs.drop off).take n),[],[])else none)
   |xv=>af (fx xv) λe=>fq (.fld sz e off)
 | .indexAddr sz x i=>af (a.fo i) λi'=>af (a.po x) λxv=>match xv with
   |.O fs w wr s e=>if s=sz then some (.EP fs w wr s e i' 0,[.ia sz e i'],[])else none
   |xv=>af (fx xv) λe=>fq (.ia sz e i')
 |.idxArr n sz x i=>af (a.fo x) λx'=>af (a.fo i) λi'=>fq (.iaa n sz x' i')
 | .extract x i=>af (a.po x) λxv=>match xv with
   |.T cs=>af cs[i]? λav=>match av with|.D=>none|av=>some (av,[],[])
   |_=>none
 |.mkfn f caps=>if caps.isEmpty then fq (.fn f .nl)else af (a.pos caps) λcs=>some (.C f cs,[],[])
 | .len x=>af (a.po x) λxv=>match xv with
   |.O _ _ _ _ e=>fq (.len e)
   |xv=>af (fx xv) λe=>fq (.len e)
 |.lenS x=>af (a.fo x) λe=>fq (.lenS e)
 |.mm b xs=>af (a.fos xs) λl=>fq (.mm b l)
 | .same x=>af (a.po x) λxv=>match xv with
   |.O fs w true s e=>if s=1 then some (.O fs w true s e,[.pos e],fs)else none
   |_=>none
 |_=>none
def Il(c:Cx)(fs:List Nat)(R:List ao):Prop:=∀r∈R,r≠ .dead/\c.nm r∈fs
theorem cE(c:Cx)(fs:List Nat):Il c fs []:=λ_ h=>by cases h
theorem br{h:Heap}{r:ao}{e:eN}(hg:h.get r=some e):r≠ .dead:=by rintro rfl;simp[Heap.get]at hg
section
variable{I:Inv}{c:Cx}{a:Abs}{env:Env}{σ:St}
theorem Abs.bnd_ok(S:Sim I c a env σ){x:Option PO}{e:X}{y:PV}{o:Option PV}(H:a.bnd x=some e)(hy:e.ev env=some y)(ho:kE y=some o):th (PO.ev σ.fr) x=o:=by
 cases x with
 |none=>
  cases H;simp only[X.ev,No]at hy;subst hy;simp only[kE,No]at ho;exact ho
 | some p=>
  have:=Abs.fo_ok S H;rw[this.2]at hy;cases hy;simp only[th];rcases GB ho with⟨h1,_⟩|⟨k,n,h1,h2⟩
  ·obtain⟨l,h3,_⟩:=Bf h1;rw[h3]at this;simp[pl]at this
  ·rw[h2,dU h1];simp[aM]
theorem Abs.parts_ok(S:Sim I c a env σ):∀{ps:List (Nat×Option Nat×PO)}{cs:List AV}{vs:List PV}{r:List AV×List X},a.parts cs ps=some r->RelL c σ.h env cs vs->ai vs=true->am env r.2=true->
  ∃ws,kw vs (kJ (PO.ev σ.fr) ps)=some ws/\RelL c σ.h env r.1 ws/\ai ws=true
 |[],cs,vs,r,H,R,ho,hg=>by cases H;exact⟨vs,rfl,R,ho⟩
 | (off,sz,x)::ps,cs,vs,r,H,R,ho,hg=>by
  simp only[Abs.parts,ab]at H;obtain⟨av,h1,ln,h2,H⟩:=H;split at H
  ·rename_i hle;simp only[ab]at H;obtain⟨r',h3,h4⟩:=H;cases h4;simp only[bX,Np]at hg;obtain⟨k1,k2,k3⟩:=mR (Abs.po_ok S h1) h2 hg.1;have hl:=k3.len;obtain⟨ws,q1,q2,q3⟩:=Abs.parts_ok S (vs:=vs.take off++(x.ev σ.fr).cells++vs.drop (off+(x.ev σ.fr).cells.length)) h3 (((R.take off).app k3).app (by rw[<-hl];exact R.drop _))
    (by simp only[nC,eU ho,k2,dY ho,NZ]) hg.2
   refine⟨ws,?_,q2,q3⟩;simp only[kJ,kw];rw[Nt ⟨k1,by rw[<-hl,<-R.len];exact hle⟩];exact q1
  ·cases H
def PureOk(c:Cx)(h:Heap)(env:Env)(m:HM PV)(r:AV×List X×List Nat):Prop:=
 ∃v R,m.runT h=some (v,h,R,[])/\Rel c h env r.1 v/\Il c r.2.2 R
theorem PureOk.ret{m:HM PV}{e:X}{v:PV}{r:AV×List X×List Nat}(H:fq e=some r)(hm:m=.ret v)(hp:pl v=true)(he:e.ev env=some (aM v)){h:Heap}:PureOk c h env m r:=by
 cases H;subst hm;exact⟨v,[],rfl,⟨hp,he⟩,cE _ _⟩
theorem PureOk.im{o:Option PV}{m:HM PV}{e:X}{x:PV}{r:AV×List X×List Nat}(H:fq e=some r)(hm:m=HM.ofO o)(he:e.ev env=some x)(hi:Cg o x){h:Heap}:PureOk c h env m r:=by
 obtain⟨v,hv,hp,hn⟩:=hi;exact PureOk.ret H (by rw[hm,hv];rfl) hp (by rw[he,hn])
theorem it{e:X}{r:AV×List X×List Nat}(H:fq e=some r)(hg:am env r.2.1=true):∃x,e.ev env=some x:=by
 cases H;simp only[am,Oi]at hg;exact Option.isSome_iff_exists.1 hg
theorem TokAt.b2s{Pr:ao->Prop}{h:Heap}{sz:Nat}{r:ao}{ver off len room:Nat}{c0:Bool}{b:Blk}{v x:PV}(T:TokAt Pr h sz r ver off len room c0 b v x):
  ∃R,(elems v).runT h=some ((b.es.drop off).take len,h,R,[])/\∀r'∈R,r'=r:=by
 obtain⟨rfl,_,hg,hs,ho,_,_,_,_⟩:=T;simp only[elems];split
 ·rename_i h0;subst h0;exact⟨[],by simp[HM.runT],λ_ h=>by cases h⟩
 ·refine⟨[r],?_,λr' h=>by simpa using h⟩;have h2:(if off+len<=b.es.length/\b.sz=sz then HM.ret (List.take len (List.drop off b.es))else HM.fail).runT h=some ((b.es.drop off).take len,h,[],[]):=by
   rw[Nt ⟨ho,hs⟩];rfl
  exact HM.runT_bind_of (aS hg) h2
theorem y7{v:PV}(h:p6 v):elems v=.ret []:=by rcases h with rfl|rfl<;>rfl
theorem TokOk.elems{Pr:ao->Prop}{h:Heap}{sz:Nat}{v x:PV}(T:TokOk Pr h sz v x):∃es R,(elems v).runT h=some (es,h,R,[])/\bV es=true/\x=.lst (az es) false/\(∀e∈es,e.cells.length=sz)/\∀r∈R,r≠ .dead/\Pr r:=by
 rcases T with⟨h1,h2⟩|⟨r,ver,off,len,room,c0,b,T⟩
 ·exact⟨[],[],by rw[y7 h1];rfl,rfl,h2,(λ_ h=>by cases h),(λ_ h=>by cases h)⟩
 ·obtain⟨R,h1,h2⟩:=T.b2s;obtain⟨rfl,hp,hg,hs,ho,_,hpl,hc,hx⟩:=T;refine⟨_,R,h1,cT (cG hpl _) _,hx,λe he=>hc e (OD (OE he)),λr' hr=>?_⟩;rw[h2 r' hr];exact⟨br hg,hp⟩
theorem xd(RO:Nat->List Bool)(C:cg)(S:Sim I c a env σ){op:IOp}{r:AV×List X×List Nat}(H:co a op=some r)(hg:am env r.2.1=true):PureOk c σ.h env (ib RO C (PO.ev σ.fr) op) r:=by
 cases op with
 |mov x=>
  simp only[co,ab]at H;obtain⟨av,h1,h2⟩:=H;cases h2;exact⟨_,[],rfl,Abs.po_ok S h1,cE _ _⟩
 | pick cc x y=>
  simp only[co,ab]at H;obtain⟨c',h1,xv,h2,x',h3,yv,h4,y',h5,H⟩:=H;obtain⟨z,hz⟩:=it H hg;have hc:=Abs.fo_ok S h1;simp only[X.ev,ab]at hz;obtain⟨w,hw,hz⟩:=hz;have hw':=hw;rw[hc.2]at hw;simp only[No]at hw;split at hz
  ·have:=fI hw;have hx:=Et hw' (Abs.po_ok S h2) h3;refine PureOk.ret H (v:=x.ev σ.fr) ?_ hx.1 ?_
   ·simp only[ib,this,ud]
   ·simp only[X.ev,hw',ac];exact hx.2
  ·have:=fI hw;have hx:=Et hw' (Abs.po_ok S h4) h5;refine PureOk.ret H (v:=y.ev σ.fr) ?_ hx.1 ?_
   ·simp only[ib,this,ud]
   ·simp only[X.ev,hw',ac];exact hx.2
  ·cases hz
 | build zero parts=>
  simp only[co]at H;split at H
  ·rename_i hz;simp only[ab]at H;obtain⟨z,h1,q,h2,h3⟩:=H;cases h3;obtain⟨ws,k1,k2,k3⟩:=Abs.parts_ok S h2 (qF c σ.h env h1) hz hg;exact⟨.agg ws,[],by simp only[ib,sH,k1];rfl,⟨ws,rfl,k3,k2⟩,cE _ _⟩
  ·cases H
 | load sz x=>
  simp only[co,ab]at H;obtain⟨xv,h1,H⟩:=H;have R:=Abs.po_ok S h1;split at H
  ·rename_i b o;simp only[ab]at H;obtain⟨bx,hb,H⟩:=H;obtain⟨hid,n,e,ro,hn,hget,hro,hok,hR⟩:=Abs.box_ok S hb;simp only[Rel]at R;rw[hid]at hn hget;have hl:∀{v:PV},db e.cells o sz=some v->(ib RO C (PO.ev σ.fr) (.load sz x)).runT σ.h=some (v,σ.h,[(c.be b).1],[]):=by
    intro v hv;simp only[ib,R,jn];refine HM.runT_bind_of (R:=[(c.be b).1]) (R2:=[]) (W:=[]) (W2:=[]) (aS hget) ?_;simp[hv,HM.ofO,HM.runT]
   have hrd:Il c bx.fs [(c.be b).1]:=λr hr=>by
    simp only[NJ]at hr;subst hr;exact⟨br hget,hn⟩
   split at H
   ·simp only[ab]at H;obtain⟨av,hav,H⟩:=H;obtain⟨v,hv,hR'⟩:=hR.get hav;split at H
    ·cases H
    ·cases H;exact⟨v,_,hl hv,hR',hrd⟩
   ·split at H
    ·rename_i m hm;cases H;rw[hR.len]at hm;refine⟨.agg ((e.cells.drop o).take m),_,hl (by simp only[db,Nt hm]),⟨_,rfl,eU (dY hok _) _,(hR.drop o).take m⟩,hrd⟩
    ·cases H
  ·rename_i e;obtain⟨z,hz⟩:=it H hg;have hz':=hz;simp only[X.ev,ab]at hz;obtain⟨y,hy,hz⟩:=hz;rw[R.2]at hy;cases hy;obtain⟨l,w,k1,k2,k3,k4⟩:=Lj R.1 hz;refine PureOk.ret H (v:=w) ?_ k3 (by rw[hz',k4]);simp only[ib,k1,jn,k2];rfl
  ·rename_i fs w wr s e i o;cases H;simp only[am,Oi]at hg;obtain⟨z,hz⟩:=Option.isSome_iff_exists.1 hg;have hz':=hz;simp only[Rel,AZ]at R;obtain⟨r,ver,off,len,room,c0,b,x',k,n,T,he,hw,hi,hn0,hn1,hv⟩:=R;obtain⟨hT,hnm,hget,hs,ho,hr,hpl,hc,hx'⟩:=T;simp only[X.ev,he,hi,ac,hx',ab]at hz;obtain⟨y,hy,hz⟩:=hz;have hlen:(az (List.take len (List.drop off b.es))).length=len:=by
    rw[aN,NP,Oj];omega
   simp only[au,hlen]at hy;rw[Nt ⟨hn0,hn1⟩]at hy;have hnn:n.toNat<len:=by omega
   have hidx:(List.take len (List.drop off b.es))[n.toNat]?=b.es[off+n.toNat]?:=by
    rw[N7,Nt hnn,N8]
   rw[n9,hidx]at hy;cases hel:b.es[off+n.toNat]? with
   |none=>rw[hel]at hy;cases hy
   | some el=>
    rw[hel]at hy;simp only[NM]at hy;split at hy
    ·cases hy;have hpe:=qB hpl hel;simp only[BB,iE]at hz;obtain⟨w',k1,k2,k3⟩:=ul (ol hpe) (qz hpe) (kn hz).1;refine⟨w',[r],?_,⟨k2,by rw[hz',k3]⟩,λr' hr'=>?_⟩
     ·simp only[ib,hv,jn];refine HM.runT_bind_of (R:=[r]) (R2:=[]) (W:=[]) (W2:=[]) (aS hget) ?_;simp[hel,k1,HM.ofO,HM.runT]
     ·simp only[NJ]at hr';subst hr';exact⟨br hget,hnm⟩
    ·cases hy
  ·cases H
 | nilchk x=>
  simp only[co,ab]at H;obtain⟨xv,h1,H⟩:=H;have R:=Abs.po_ok S h1;split at H
  ·cases H;refine⟨x.ev σ.fr,[],?_,R,cE _ _⟩;simp only[Rel]at R;simp only[ib,R,jb];rfl
  ·rename_i e;cases H;simp only[am,Oi]at hg;obtain⟨z,hz⟩:=Option.isSome_iff_exists.1 hg;simp only[X.ev,R.2,ac]at hz;have:=Jf R.1 hz;exact⟨x.ev σ.fr,[],by simp only[ib,this.1];rfl,R,cE _ _⟩
  ·cases H;refine⟨x.ev σ.fr,[],?_,R,cE _ _⟩;simp only[Rel,AZ]at R;obtain⟨r,ver,off,len,room,c0,b,x',k,n,T,he,hw,hi,hn0,hn1,hv⟩:=R;simp only[ib,hv,jb];rfl
  ·cases H;refine⟨x.ev σ.fr,[],?_,R,cE _ _⟩;obtain⟨vs,hv,_⟩:=R;simp only[ib,hv,jb];rfl
  ·cases H;refine⟨x.ev σ.fr,[],?_,R,cE _ _⟩;obtain⟨f,vs,xs,hv,_⟩:=R;simp only[ib,hv,jb];rfl
  ·cases H
 |bin op x y=>
  simp only[co,ab]at H;obtain⟨x',h1,y',h2,H⟩:=H;obtain⟨z,hz⟩:=it H hg;have hx:=Abs.fo_ok S h1;have hy:=Abs.fo_ok S h2;refine PureOk.im H rfl hz (H6 ?_);simpa only[X.ev,hx.2,hy.2,ac]using hz
 |eqs neg ks x y=>
  simp only[co,ab]at H;obtain⟨x',h1,y',h2,H⟩:=H;obtain⟨z,hz⟩:=it H hg;have hx:=Abs.fo_ok S h1;have hy:=Abs.fo_ok S h2;have:=IT (v:=x.ev σ.fr) (w:=y.ev σ.fr) (by simpa only[X.ev,hx.2,hy.2,ac]using hz);exact PureOk.ret H this.1 this.2.1 (by rw[hz,this.2.2])
 |eqb neg x y=>
  simp only[co,ab]at H;obtain⟨x',h1,y',h2,H⟩:=H;obtain⟨z,hz⟩:=it H hg;have hx:=Abs.fo_ok S h1;have hy:=Abs.fo_ok S h2;refine PureOk.im H rfl hz (IJ ?_);simpa only[X.ev,hx.2,hy.2,ac]using hz
 | eqn k neg x y=>
  simp only[co,ab]at H;obtain⟨x',h1,y',h2,H⟩:=H;obtain⟨z,hz⟩:=it H hg;have hx:=Abs.fo_ok S h1;have hy:=Abs.fo_ok S h2;have hz':=hz;simp only[X.ev,hx.2,hy.2,ac]at hz;split at hz
  ·cases hz
  ·rename_i hk;exact PureOk.im H rfl hz' (IX hx.1 hy.1 hk hz)
 |un op x=>
  simp only[co,ab]at H;obtain⟨x',h1,H⟩:=H;obtain⟨z,hz⟩:=it H hg;have hx:=Abs.fo_ok S h1;refine PureOk.im H rfl hz (Kf ?_);simpa only[X.ev,hx.2,ac]using hz
 |toInt k x=>
  simp only[co,ab]at H;obtain⟨x',h1,H⟩:=H;obtain⟨z,hz⟩:=it H hg;have hx:=Abs.fo_ok S h1;have:=Dn (v:=x.ev σ.fr) (by simpa only[X.ev,hx.2,ac]using hz);exact PureOk.ret H this.1 this.2.1 (by rw[hz,this.2.2])
 | b2s x=>
  simp only[co,ab]at H;obtain⟨xv,h1,H⟩:=H;have R:=Abs.po_ok S h1;split at H
  ·rename_i fs w wr s e;cases H;simp only[am,Oi]at hg;obtain⟨z,hz⟩:=Option.isSome_iff_exists.1 hg;have hz':=hz;obtain⟨hv,x',T,he,_⟩:=R;obtain⟨es,Rr,k1,k2,k3,_,k4⟩:=T.elems;simp only[X.ev,he,ac,k3,Dg,NY]at hz;obtain⟨l,hl,rfl⟩:=hz;refine⟨.str l,Rr++[],?_,⟨rfl,by rw[hz'];rfl⟩,by rw[NT];exact k4⟩;have hns:(x.ev σ.fr).isStr=false:=by
    rcases T with⟨hq|hq,_⟩|⟨r,ver,off,len,room,c0,b,hq,_⟩<;>rw[hq]<;>rfl
   simp only[ib,vr,hns,NL,Oc];refine HM.runT_bind_of (R2:=[]) (W:=[]) (W2:=[]) k1 ?_;rw[pi hl];rfl
  ·simp only[ab]at H;obtain⟨e,h2,H⟩:=H;obtain⟨z,hz⟩:=it H hg;have hx:=kZ R h2;have:=H5 (v:=x.ev σ.fr) (by simpa only[X.ev,hx.2,ac]using hz);exact PureOk.ret H this.1 this.2.1 (by rw[hz,this.2.2])
 | slice sz x lo hi mx=>
  simp only[co,ab]at H;obtain⟨l,hl,h',hh,m,hm,xv,h1,H⟩:=H;have R:=Abs.po_ok S h1;have key:∀{e:X}{z:PV},pl (x.ev σ.fr)=true->e.ev env=some (aM (x.ev σ.fr))->(X.slice sz e l h' m).ev env=some z->Cg (cJ sz (x.ev σ.fr) (th (PO.ev σ.fr) lo) (th (PO.ev σ.fr) hi) (th (PO.ev σ.fr) mx)) z:=by
   intro e z hp he hz;simp only[X.ev,he,ac,ab]at hz;obtain⟨lv,hlv,hv,hhv,mv,hmv,hz⟩:=hz;have hz':=hz;unfold dK at hz;cases e1:kE lv<;>rw[e1]at hz<;>try(cases hz;done)
   cases e2:kE hv<;>rw[e2]at hz<;>try(cases hz;done)
   cases e3:kE mv<;>rw[e3]at hz<;>try(cases hz;done)
   rw[Abs.bnd_ok S hl hlv e1,Abs.bnd_ok S hh hhv e2,Abs.bnd_ok S hm hmv e3];exact yP hp e1 e2 e3 hz'
  split at H
  ·rename_i e;cases H;simp only[am,Oi]at hg;obtain⟨z,hz⟩:=Option.isSome_iff_exists.1 hg;have hp:=gQ R.1;obtain⟨v,k1,k2,k3⟩:=key hp.1 (by rw[hp.2];exact R.2) hz;have hnil:p6 v/\aM v=.lst [] false:=by
    rcases R.1 with hq|hq
    ·rw[hq]at k1;simp only[cJ]at k1;split at k1
     ·simp only[fV]at k1;split at k1
      ·cases k1
      ·unfold jW at k1;split at k1
       ·split at k1
        ·cases k1;exact⟨.inl rfl,rfl⟩
        ·cases k1
       ·cases k1
     ·cases k1
    ·rw[ hq]at k1;simp only[cJ]at k1;split at k1
     ·simp only[fV]at k1;split at k1
      ·cases k1
      ·rename_i hmx;unfold cA at k1;split at k1
       ·rename_i q1 q2 q3;split at k1
        ·rename_i hb;simp only[N9]at hb;cases k1;refine⟨.inr ?_,by simp[aM,az]⟩;split
         ·simp;omega
         ·simp
        ·cases k1
       ·cases k1
     ·cases k1
   refine⟨v,[],?_,⟨hnil.1,?_⟩,cE _ _⟩
   ·simp only[ib,k1];rfl
   ·rw[hz,<-k3,hnil.2]
  ·simp only[ab]at H;obtain⟨e,h2,H⟩:=H;have hx:=kZ R h2;split at H
   ·rename_i hzero;cases H;simp only[am,Oi]at hg;obtain⟨z,hz⟩:=Option.isSome_iff_exists.1 hg;obtain⟨v,k1,k2,k3⟩:=key hx.1 hx.2 hz;obtain⟨z1,z2,z3,z4⟩:=hzero;have e1:th (PO.ev σ.fr) lo=none∨th (PO.ev σ.fr) lo=some (.int .i64 0):=by
     rcases z1 with rfl|rfl
     ·exact .inl (Abs.bnd_ok S hl rfl rfl)
     ·exact .inr (Abs.bnd_ok S hl rfl rfl)
    have e2:th (PO.ev σ.fr) hi=some (.int .i64 0):=by subst z2;exact Abs.bnd_ok S hh rfl rfl
    have e3:th (PO.ev σ.fr) mx=some (.int .i64 0):=by subst z3;exact Abs.bnd_ok S hm rfl rfl
    rw[e2,e3]at k1;have hlo:aG 0 (th (PO.ev σ.fr) lo)=some 0:=by rcases e1 with e1|e1<;>rw[e1]<;>rfl
    have hnil:p6 v/\aM v=.lst [] false:=by
     simp only[cJ]at k1;split at k1
     ·rename_i hs;have hns:(x.ev σ.fr).isStr=false:=by
       cases hq:(x.ev σ.fr).isStr with
       |false=>rfl
       |true=>rw[hq]at hs;exact absurd (by simpa using hs.symm) z4
      unfold fV at k1;simp only[OP,Option.isNone_some,Bool.and_false,NL,Oc]at k1;split at k1
      ·unfold jW at k1;split at k1
       ·split at k1
        ·cases k1;exact⟨.inl rfl,rfl⟩
        ·cases k1
       ·cases k1
      ·rename_i hq;rw[hq]at hns;simp[PV.isStr]at hns
      ·rename_i es c0 hq;unfold cA at k1;have e4:aG es.length (some (PV.int .i64 0))=some 0:=rfl;rw[hlo,e4]at k1;simp only at k1;split at k1
       ·cases k1;exact⟨.inr (by simp),by simp[aM,az]⟩
       ·cases k1
      ·rename_i hq;rw[hq]at hx;simp[pl]at hx
      ·cases k1
     ·cases k1
    refine⟨v,[],?_,⟨hnil.1,?_⟩,cE _ _⟩
    ·simp only[ib,e2,e3,k1];rfl
    ·rw[hz,<-k3,hnil.2]
   ·obtain⟨z,hz⟩:=it H hg;exact PureOk.im H rfl hz (key hx.1 hx.2 hz)
 | fieldAddr x off=>
  simp only[co,ab]at H;obtain⟨xv,h1,H⟩:=H;have R:=Abs.po_ok S h1;split at H
  ·cases H;simp only[Rel]at R;exact⟨_,[],by simp only[ib,R,ba,HM.ofO];rfl,rfl,cE _ _⟩
  ·rename_i e;obtain⟨z,hz⟩:=it H hg;exact PureOk.im H rfl hz (HO R.1 (by simpa only[X.ev,R.2,ac]using hz))
  ·cases H;simp only[Rel,AZ]at R;obtain⟨r,ver,o,len,room,c0,b,x',k,n,T,he,hw,hi,hn0,hn1,hv⟩:=R;exact⟨_,[],by simp only[ib,hv,ba,HM.ofO];rfl,⟨r,ver,o,len,room,c0,b,x',k,n,T,he,hw,hi,hn0,hn1,rfl⟩,cE _ _⟩
  ·cases H
 | field sz x off=>
  simp only[co,ab]at H;obtain⟨xv,h1,H⟩:=H;have R:=Abs.po_ok S h1;split at H
  ·obtain⟨vs,hv,hok,hR⟩:=R;split at H
   ·simp only[ab]at H;obtain⟨av,hav,H⟩:=H;obtain⟨v,hv',hR'⟩:=hR.get hav;split at H
    ·cases H
    ·cases H;exact⟨v,[],by simp only[ib,hv,mq,db,hv'];rfl,hR',cE _ _⟩
   ·split at H
    ·rename_i m hm;cases H;rw[hR.len]at hm;exact⟨.agg ((vs.drop off).take m),[],by simp only[ib,hv,mq,db,Nt hm];rfl,⟨_,rfl,eU (dY hok _) _,(hR.drop off).take m⟩,cE _ _⟩
    ·cases H
  ·simp only[ab]at H;obtain⟨e,h2,H⟩:=H;have hx:=kZ R h2;obtain⟨z,hz⟩:=it H hg;obtain⟨w,k1,k2,k3⟩:=Iv hx.1 (by simpa only[X.ev,hx.2,ac]using hz);exact PureOk.ret H k1 k2 (by rw[hz,k3])
 | indexAddr sz x i=>
  simp only[co,ab]at H;obtain⟨i',hi,xv,h1,H⟩:=H;have R:=Abs.po_ok S h1;have hi':=Abs.fo_ok S hi;split at H
  ·rename_i fs w wr s e;split at H
   ·rename_i hs;subst hs;cases H;simp only[am,Oi]at hg;obtain⟨z,hz⟩:=Option.isSome_iff_exists.1 hg;obtain⟨hv,x',T,he,hwr⟩:=R;simp only[X.ev,he,hi'.2,ac]at hz;rcases T with⟨_,hx'⟩|⟨r,ver,off,len,room,c0,b,T⟩
    ·subst hx';cases hq:aM (i.ev σ.fr)<;>rw[hq]at hz<;>simp[au]at hz
    ·have T':=T;obtain⟨hT,hnm,hget,hs',ho,hr,hpl,hc,hx'⟩:=T;cases hq:aM (i.ev σ.fr)<;>rw[hq]at hz<;>try(simp[au]at hz;done)
     rename_i k n;have hi2:=dU hq;have hlen:(az (List.take len (List.drop off b.es))).length=len:=by
      rw[aN,NP,Oj];omega
     rw[hx']at hz;simp only[au,hlen]at hz;split at hz
     ·rename_i hb;refine⟨.ptr r ver (off+n.toNat) 0,[],?_,⟨r,ver,off,len,room,c0,b,x',k,n,by rw[<-hv];exact T',he,λh=>by rw[<-hv];exact hwr h,by rw[hi'.2,hq],hb.1,hb.2,rfl⟩,cE _ _⟩;simp only[ib,hT,hi2,au];rw[Nt ⟨trivial,hb.1,hb.2⟩];rfl
     ·cases hz
   ·cases H
  ·simp only[ab]at H;obtain⟨e,h2,H⟩:=H;have hx:=kZ R h2;obtain⟨z,hz⟩:=it H hg;exact PureOk.im H rfl hz (Lg hx.1 (by simpa only[X.ev,hx.2,hi'.2,ac]using hz))
 |idxArr n sz x i=>
  simp only[co,ab]at H;obtain⟨x',h1,y',h2,H⟩:=H;obtain⟨z,hz⟩:=it H hg;have hx:=Abs.fo_ok S h1;have hy:=Abs.fo_ok S h2;refine PureOk.im H rfl hz (Iz hx.1 ?_);simpa only[X.ev,hx.2,hy.2,ac]using hz
 | extract x i=>
  simp only[co,ab]at H;obtain⟨xv,h1,H⟩:=H;have R:=Abs.po_ok S h1;split at H
  ·simp only[ab]at H;obtain⟨av,hav,H⟩:=H;obtain⟨vs,hv,hR⟩:=R;obtain⟨v,hv',hR'⟩:=hR.get hav;split at H
   ·cases H
   ·cases H;exact⟨v,[],by simp only[ib,hv,oQ,hv'];rfl,hR',cE _ _⟩
  ·cases H
 | mkfn f caps=>
  simp only[co]at H;split at H
  ·rename_i hc;simp only[Ov]at hc;subst hc;exact PureOk.ret H (v:=.fn f []) rfl rfl rfl
  ·simp only[ab]at H;obtain⟨cs,h1,h2⟩:=H;cases h2;exact⟨_,[],rfl,⟨_,rfl,Abs.pos_ok S h1⟩,cE _ _⟩
 | len x=>
  simp only[co,ab]at H;obtain⟨xv,h1,H⟩:=H;have R:=Abs.po_ok S h1;split at H
  ·rename_i fs w wr s e;obtain⟨z,hz⟩:=it H hg;obtain⟨hv,x',T,he,_⟩:=R;have hz':=hz;simp only[X.ev,he,ac]at hz;rcases T with⟨hn,hx'⟩|⟨r,ver,off,len,room,c0,b,hT,hnm,hget,hs',ho,hr,hpl,hc,hx'⟩
   ·subst hx';simp only[dp,No]at hz;subst hz;refine PureOk.ret H (v:=.int .i64 0) ?_ rfl (by rw[hz'];rfl);rcases hn with hq|hq<;>simp only[ib,hq,vU,HM.ofO,N9]<;>rfl
   ·subst hx';have hlen:(az (List.take len (List.drop off b.es))).length=len:=by
     rw[aN,NP,Oj];omega
    simp only[dp,No,hlen]at hz;subst hz;refine PureOk.ret H (v:=.int .i64 len) ?_ rfl (by rw[hz'];rfl);simp only[ib,hT,vU,HM.ofO]
  ·simp only[ab]at H;obtain⟨e,h2,H⟩:=H;have hx:=kZ R h2;obtain⟨z,hz⟩:=it H hg;exact PureOk.im H rfl hz (IC (by simpa only[X.ev,hx.2,ac]using hz))
 |lenS x=>
  simp only[co,ab]at H;obtain⟨x',h1,H⟩:=H;obtain⟨z,hz⟩:=it H hg;have hx:=Abs.fo_ok S h1;refine PureOk.im H rfl hz (Hd ?_);simpa only[X.ev,hx.2,ac]using hz
 | mm b xs=>
  simp only[co,ab]at H;obtain⟨l,h1,H⟩:=H;obtain⟨z,hz⟩:=it H hg;have hx:=Abs.fos_ok S h1;have hz':=hz;simp only[X.ev,hx.2,ac,bP]at hz;rcases JE hx.1 hz with⟨k1,k2,k3⟩|⟨v,k1,k2,k3⟩
  ·exact PureOk.ret H k1 k2 (by rw[hz',k3])
  ·have hpv:pl v=true:=by have:=hx.1;rw[k1]at this;simp only[bV,Oi]at this;exact this
   exact PureOk.ret H (v:=v) k3 hpv (by rw[hz',k2])
 | same x=>
  simp only[co,ab]at H;obtain⟨xv,h1,H⟩:=H;have R:=Abs.po_ok S h1;split at H
  ·rename_i fs w s e;split at H
   case isFalse=>cases H
   rename_i hs1;cases H;simp only[am,Oi]at hg;obtain⟨z,hz⟩:=Option.isSome_iff_exists.1 hg;have R':=R;obtain⟨hv,x',T,he,hwr⟩:=R;simp only[X.ev,he,ac]at hz;rcases T with⟨hn,hx'⟩|⟨r,ver,off,len,room,c0,b,hT,hnm,hget,hs',ho,hr,hpl,hc,hx'⟩
   ·subst hx';simp[EH]at hz
   ·have hlen:(az (List.take len (List.drop off b.es))).length=len:=by
     rw[aN,NP,Oj];omega
    have hpos:0<len:=by
     rw[hx']at hz;cases hq:az (List.take len (List.drop off b.es))with
     |nil=>rw[hq]at hz;simp[EH]at hz
     |cons y ys=>rw[hq]at hlen;simp at hlen;omega
    have hro:b.ro=false:=by
     rcases hwr rfl with hn|⟨r',ver',sz',off',len',room',b',hq,hq2,hq3,_⟩
     ·rcases hn with hn|hn<;>rw[hn]at hT<;>cases hT
     ·rw[hq]at hT;cases hT;rw[hget]at hq2;cases hq2;exact hq3
    refine⟨x.ev σ.fr,[r],?_,R',λr' hr'=>?_⟩
    ·simp only[ib,hT,xB,Nt (And.intro hpos hs1)];refine HM.runT_bind_of (R:=[r]) (R2:=[]) (W:=[]) (W2:=[]) (aS hget) ?_;rw[Nt hro];rfl
    ·simp only[NJ]at hr';subst hr';exact⟨br hget,hnm⟩
  ·cases H
 |_=>simp[co]at H
end
def sn(st:Nat->Nat)(n:Nat):Nat:=if n %2=0 then 2*st (n/2)else n
def Inv.sr(I:Inv):ao->Nat
 |.l s=>2*I.st s
 |.a i=>2*I.al i+1
 |.dead=>0
theorem gS{I:Inv}{c:Cx}(N:Nm I c){r:ao}(hr:r≠ .dead):sn I.st (c.nm r)=I.sr r:=by
 cases r with
 |a i=>
  rw[N.a i];unfold sn;rw[Nw (by omega)];rfl
 |l s=>
  obtain⟨j,h1,h2⟩:=N.l s;rw[h1];unfold sn;rw[Nt (by omega),show 2*j/2=j by omega,h2];rfl
 |dead=>exact absurd rfl hr
def mB(kp S:List Nat):Bool:=kp.all λk=> !S.contains k
def wW(st:Nat->Nat)(S N:List Nat)(n:Nat):Bool:=S.contains (sn st n)||N.contains n
def u7(d:Option Nat)(w:Nat):Bool:=d==some w
def Abs.kill(st:Nat->Nat)(S N:List Nat)(d:Option Nat)(a:Abs):Abs:=a.keep (wW st S N) (u7 d) (λ_=>false)
def AV.kill(st:Nat->Nat)(S N:List Nat)(d:Option Nat)(a:AV):AV:=a.keep (wW st S N) (u7 d) (λ_=>false)
abbrev Mut(st:Nat->Nat)(S N:List Nat)(d:Option Nat)(c c':Cx)(h h':Heap)(env:Env):Prop:=A8 (wW st S N) (u7 d) (λ_=>false) c c' h h' env env
theorem ee{st:Nat->Nat}{S N:List Nat}{n:Nat}:wW st S N n=false↔sn st n∉S/\n∉N:=by simp[wW]
theorem Mut.of{st:Nat->Nat}{S N:List Nat}{d:Option Nat}{c c':Cx}{h h':Heap}{env:Env}(h1:∀r,sn st (c.nm r)∉S->c.nm r∉N->h'.get r=h.get r/\c'.nm r=c.nm r)
  (h2:∀w,d≠some w->c'.nu w=c.nu w/\c'.be w=c.be w):Mut st S N d c c' h h' env where
 n r hr:=h1 r (ee.1 hr).1 (ee.1 hr).2
 i w hw:=h2 w (by intro he;subst he;simp[u7]at hw)
 v _ _:=rfl
def FlOk(I:Inv)(h h':Heap):Prop:=∀i ver b,h'.get (.a i)=some ⟨ver,some b⟩->(∃ver' b',h.get (.a i)=some ⟨ver',some b'⟩/\b'.es=b.es)∨bV b.es=true∨I.fl (I.al i)=false
theorem FlOk.put_l(I:Inv)(h:Heap)(s:Nat)(e:eN):FlOk I h (h.put (.l s) e):=λi ver b hg=>.inl ⟨ver,b,by rw[<-hg];exact(Heap.get_put_other (by intro h;cases h)).symm,rfl⟩
theorem FlOk.refl(I:Inv)(h:Heap):FlOk I h h:=λ_i ver b hg=>.inl ⟨ver,b,hg,rfl⟩
theorem FlOk.trans{I:Inv}{h h1 h2:Heap}(A:FlOk I h h1)(B:FlOk I h1 h2):FlOk I h h2:=λi ver b hg=>by
 rcases B i ver b hg with⟨v,b',k,e⟩|k
 ·rcases A i v b' k with⟨v2,b2,k2,e2⟩|k2|k2
  ·exact .inl ⟨v2,b2,k2,e2.trans e⟩
  ·exact .inr (.inl (by rw[<-e];exact k2))
  ·exact .inr (.inr k2)
 ·exact .inr k
theorem Sim.mutate{I:Inv}{c c':Cx}{a:Abs}{env:Env}{fr:List PV}{h h':Heap}{S N:List Nat}{d:Option Nat}(Sm:Sim I c a env ⟨fr,h⟩)(M:Mut I.st S N d c c' h h' env)(hn:Nm I c')
  (hL:h'.L.length=h.L.length)(hA:h'.A.length=h.A.length)(hodd:∀k∈I.kp,k %2=1)(hk:mB I.kp (S++N)=true)(hf:FlOk I h h'):Sim I c' (a.kill I.st S N d) env ⟨fr,h'⟩:=by
 refine Sim.keep M Sm hn (by rw[hL];exact Sm.hl) (by rw[hA];exact Sm.ha) (λr hr=>?_) λi ver b hfl hg=>?_
 rotate_left
 ·rcases hf i ver b hg with⟨ver',b',h1,h2⟩|h1|h1
  ·rw[<-h2];exact Sm.fl i ver' b' hfl h1
  ·exact h1
  ·rw[hfl]at h1;cases h1
 have hod:=hodd _ hr;cases r with
 |l s=>obtain⟨j,h1,_⟩:=hn.l s;omega
 |dead=>exact .inl rfl
 | a i=>
  have e:c'.nm (.a i)=c.nm (.a i):=by rw[hn.a i,Sm.nm.a i]
  have hnot:wW I.st S N (c.nm (.a i))=false:=by
   rw[<-e];have h0:=List.all_eq_true.1 hk _ hr;simp only[Od,OT,NV,N4,not_or]at h0;have h1:sn I.st (c'.nm (.a i))=c'.nm (.a i):=by unfold sn;rw[Nw (by omega)]
   exact ee.2 ⟨by rw[h1];exact h0.1,h0.2⟩
  have:=M.n (.a i) hnot;rw[this.1];exact Sm.kp (.a i) (by rw[<-e];exact hr)
theorem bl(h:Heap)(r:ao)(e:eN):(h.put r e).L.length=h.L.length/\(h.put r e).A.length=h.A.length:=by
 have:=Heap.put_lens h r e;exact⟨this.2,this.1⟩
def Cx.new(c:Cx)(s d:Nat)(ver:Nat)(v:PV):Cx where
 nm r:=if r=.l s then 2*s else c.nm r
 nu w:=if w=d then v else c.nu w
 be w:=if w=d then(.l s,ver)else c.be w
theorem Nm.new{I:Inv}{c:Cx}(N:Nm I c)(s d ver:Nat)(v:PV):Nm I (c.new s d ver v) where
 l t:=by
  by_cases ht:t=s
  ·subst ht;exact⟨t,by simp[Cx.new],rfl⟩
  ·simpa[Cx.new,ht]using N.l t
 a i:=by simpa[Cx.new]using N.a i
theorem wl{I:Inv}{c:Cx}{a:Abs}{env:Env}{fr:List PV}{h:Heap}(Sm:Sim I c a env ⟨fr,h⟩){s d:Nat}(b:eN)(v:PV):Mut I.st [2*I.st s] [] (some d) c (c.new s d b.ver v) h (h.put (.l s) b) env:=by
 refine Mut.of (λr hr _=>?_) λw hw=>?_
 ·have hne:r≠ .l s:=by
   rintro rfl
   apply hr;rw[gS Sm.nm (by intro h;cases h)];simp[Inv.sr]
  exact⟨Heap.get_put_other hne,by simp[Cx.new,hne]⟩
 ·have:w≠d:=λe=>hw (by rw[e]);simp[Cx.new,this]
theorem jh{s:Nat}{b:Blk}{h:Heap}{e:eN}(hg:h.get (.l s)=some e):(ek s b).runT h=some (e.ver+1,h.put (.l s) ⟨e.ver+1,some b⟩,[.l s],[.l s]):=by
 simp[ek,HM.runT,hg]
theorem j9{h:Heap}{s n:Nat}(hL:h.L.length=n)(hs:s<n):∃e,h.get (.l s)=some e:=by
 simp only[Heap.get];exact⟨_,Ns (by omega)⟩
structure sI where
 av:AV
 a:Abs
 ns:List X
 rd:List Nat
 wr:List Nat
def cM(I:Inv)(S:List Nat)(l:List ao):Prop:=∀r∈l,r≠ .dead/\I.sr r∈S
def jj(I:Inv)(c:Cx)(_a:Abs)(env:Env)(σ:St)(d:Option Nat)(m:HM PV)(r:sI):Prop:=
 ∃v h' R W c',m.runT σ.h=some (v,h',R,W)/\Sim I c' r.a env ⟨σ.fr,h'⟩/\Rel c' h' env r.av v/\cM I r.rd R/\cM I r.wr W/\(∀i,c'.nm (.a i)=c.nm (.a i))/\(∀w,d≠some w->c'.be w=c.be w)/\FlOk I σ.h h'
theorem wQ{c:Cx}{s d ver:Nat}{v:PV}:∀w,some d≠some w->(c.new s d ver v).be w=c.be w:=λw hw=>by
 have:w≠d:=λe=>hw (by rw[e]);simp[Cx.new,this]
theorem kK{I:Inv}{c:Cx}{a:Abs}{env:Env}{σ:St}(S:Sim I c a env σ)(hodd:∀k∈I.kp,k %2=1){s d:Nat}(hs:s<I.ns)(hk:mB I.kp [2*I.st s]=true){sz:Nat}{es:List PV}{e:X}
  (hp:bV es=true)(hc:∀x∈es,x.cells.length=sz)(he:e.ev env=some (.lst (az es) false)){m:HM PV}
  (hm:m=(ek s ⟨sz,es,false⟩).bind λv=>.ret (.tok (.l s) v sz 0 es.length es.length false)){ns:List X}:
  jj I c a env σ (some d) m ⟨.O [2*s] d true sz e,a.kill I.st [2*I.st s] [] (some d),ns,[2*I.st s],[2*I.st s]⟩:=by
 obtain⟨e0,hg⟩:=j9 S.hl hs;have hg':(σ.h.put (.l s) ⟨e0.ver+1,some ⟨sz,es,false⟩⟩).get (.l s)=some ⟨e0.ver+1,some ⟨sz,es,false⟩⟩:=Heap.get_put_same hg (by intro i h;cases h);have S':Sim I c a env ⟨σ.fr,σ.h⟩:=S;have hT:cM I [2*I.st s] [.l s]:=λr hr=>by
  simp only[NJ]at hr;subst hr;exact⟨(by intro h;cases h),by simp[Inv.sr]⟩
 refine⟨.tok (.l s) (e0.ver+1) sz 0 es.length es.length false,σ.h.put (.l s) ⟨e0.ver+1,some ⟨sz,es,false⟩⟩,[.l s],[.l s],c.new s d (e0.ver+1) (.tok (.l s) (e0.ver+1) sz 0 es.length es.length false),?_,?_,?_,hT,hT,?_,wQ,.put_l _ _ _ _⟩
 ·subst hm;have:=HM.runT_bind_of (f:=λv=>HM.ret (PV.tok (.l s) v sz 0 es.length es.length false)) (R2:=[]) (W2:=[]) (jh (b:=⟨sz,es,false⟩) hg) rfl;simpa using this
 ·exact S'.mutate (wl S' ⟨e0.ver+1,some ⟨sz,es,false⟩⟩ (PV.tok (.l s) (e0.ver+1) sz 0 es.length es.length false)) (S.nm.new _ _ _ _) (bl _ _ _).1 (bl _ _ _).2 hodd hk (.put_l _ _ _ _)
 ·refine⟨by simp[Cx.new],.lst (az es) false,.inr ⟨.l s,e0.ver+1,0,es.length,es.length,false,⟨sz,es,false⟩,rfl,by simp[Cx.new],hg',rfl,by simp,by simp,hp,hc,by simp⟩,he,λ_=>?_⟩;exact .inr ⟨.l s,e0.ver+1,sz,0,es.length,es.length,⟨sz,es,false⟩,rfl,hg',rfl,by simp⟩
 ·intro i;simp[Cx.new]
def Abs.fits(a:Abs)(sz:Option Nat):List PO->Option (X×List X)
 |[]=>some (.nl,[])
 |x::xs=>af (a.fo x) λe=>af (a.fits sz xs) λl=>some (.cn e l.1,qb sz e++l.2)
theorem xN{v:PV}{sz:Option Nat}(h:v.fits sz=true):v.cells.length=sz.getD 1:=by
 cases sz<;>cases v<;>simp_all [PV.fits,PV.cells]
theorem Abs.fits_ok{I:Inv}{c:Cx}{a:Abs}{env:Env}{σ:St}(S:Sim I c a env σ){sz:Option Nat}:∀{xs:List PO}{l:X×List X},a.fits sz xs=some l->am env l.2=true->
  bV (ka (PO.ev σ.fr) xs)=true/\l.1.ev env=some (.tup (az (ka (PO.ev σ.fr) xs)))/\fU sz (ka (PO.ev σ.fr) xs)=true/\∀x∈ka (PO.ev σ.fr) xs,x.cells.length=sz.getD 1
 |[],l,H,_=>by cases H;exact⟨rfl,rfl,rfl,λ_ h=>by cases h⟩
 |x::xs,l,H,hg=>by
  simp only[Abs.fits,ab]at H;obtain⟨e,h1,l',h2,h3⟩:=H;cases h3;simp only[bX,Np]at hg;have q1:=Abs.fo_ok S h1;obtain⟨k1,k2,k3,k4⟩:=Abs.fits_ok S h2 hg.2;have q2:=pg q1.2 hg.1 q1.1;refine⟨by simp only[ka,bV,q1.1,k1,NZ],by simp only[X.ev,q1.2,k2,ac,ka,az],by simp only[ka,fU,q2.1,q2.2,k3,NZ],λy hy=>?_⟩;simp only[ka,OQ]at hy;rcases hy with rfl|hy
  ·exact xN q2.1
  ·exact k4 y hy
def oD(st:Nat->Nat)(kp:List Nat)(ns:Nat)(a:Abs)(d:Nat)(s sz:Nat)(e:X)(needs:List X):Option sI:=
 if s<ns/\mB kp [2*st s]then some ⟨.O [2*s] d true sz e,a.kill st [2*st s] [] (some d),needs,[2*st s],[2*st s]⟩else none
def mj(st:Nat->Nat)(kp:List Nat)(ns:Nat)(a:Abs)(d:Nat)(sz:Option Nat)(parts:List PO)(s:Nat):Option sI:=
 af (a.fits sz parts) λl=>oD st kp ns a d s (sz.getD 1) (.lst l.1) l.2
theorem ti{I:Inv}{c:Cx}{a:Abs}{env:Env}{σ:St}(S:Sim I c a env σ)(hodd:∀k∈I.kp,k %2=1){d:Nat}{sz:Option Nat}{parts:List PO}{s:Nat}{r:sI}
  (H:mj I.st I.kp I.ns a d sz parts s=some r)(hg:am env r.ns=true):jj I c a env σ (some d) (cZ sz (ka (PO.ev σ.fr) parts) s) r:=by
 simp only[mj,ab,oD]at H;obtain⟨l,h1,H⟩:=H;split at H
 ·rename_i hc;cases H;obtain⟨k1,k2,k3,k4⟩:=Abs.fits_ok S h1 hg;refine kK S hodd hc.1 hc.2 k1 k4 (by simp only[X.ev,k2,ac,bP]) ?_;simp only[cZ,k3,Oa]
 ·cases H
def Fm(st:Nat->Nat)(kp:List Nat)(ns:Nat)(a:Abs)(d:Nat)(x:PO)(s:Nat):Option sI:=
 af (a.fo x) λe=>oD st kp ns a d s 1 (.s2b e) [.s2b e]
theorem GV{I:Inv}{c:Cx}{a:Abs}{env:Env}{σ:St}(S:Sim I c a env σ)(hodd:∀k∈I.kp,k %2=1){d:Nat}{x:PO}{s:Nat}{r:sI}
  (H:Fm I.st I.kp I.ns a d x s=some r)(hg:am env r.ns=true):jj I c a env σ (some d) (Fi (x.ev σ.fr) s) r:=by
 simp only[Fm,ab,oD]at H;obtain⟨e,h1,H⟩:=H;split at H
 ·rename_i hc;cases H;have hx:=Abs.fo_ok S h1;simp only[am,Oi]at hg;obtain⟨z,hz⟩:=Option.isSome_iff_exists.1 hg;have hz':=hz;simp only[X.ev,hx.2,ac]at hz;obtain⟨l,k1,k2,k3⟩:=IL hz;have hpl:bV (l.map λb=>PV.int .u8 b.toNat)=true:=gK.2 λy hy=>by obtain⟨b,_,rfl⟩:=List.mem_map.1 hy;rfl
  have hnr:az (l.map λb=>PV.int .u8 b.toNat)=l.map λb=>PV.int .u8 b.toNat:=by rw[fH,List.map_map];rfl
  refine kK S hodd hc.1 hc.2 hpl (λy hy=>by obtain⟨b,_,rfl⟩:=List.mem_map.1 hy;rfl) (by rw[hz',k3,hnr]) ?_;simp only[k1,Fi,k2,Oa,Ob]
 ·cases H
def qT(st:Nat->Nat)(kp:List Nat)(ns:Nat)(a:Abs)(d:Nat)(sz:Nat)(z:PV)(n:PO)(s:Nat):Option sI:=
 af (se z) λze=>af (a.fo n) λe=>oD st kp ns a d s sz (.mks sz ze e) [.mks sz ze e]
theorem yC{I:Inv}{c:Cx}{a:Abs}{env:Env}{σ:St}(S:Sim I c a env σ)(hodd:∀k∈I.kp,k %2=1){d sz:Nat}{z:PV}{n:PO}{s:Nat}{r:sI}
  (H:qT I.st I.kp I.ns a d sz z n s=some r)(hg:am env r.ns=true):jj I c a env σ (some d) (jS sz z (n.ev σ.fr) s) r:=by
 simp only[qT,ab,oD]at H;obtain⟨ze,h0,e,h1,H⟩:=H;split at H
 ·rename_i hc;cases H;have hx:=Abs.fo_ok S h1;have hz0:=wF env h0;simp only[am,Oi]at hg;obtain⟨y,hy⟩:=Option.isSome_iff_exists.1 hg;have hy':=hy;simp only[X.ev,hx.2,hz0.2,ac,JH]at hy;split at hy
  ·rename_i k m hm;have hn:=dU hm;split at hy
   ·rename_i hb;cases hy;have hrep:∀y∈List.replicate m.toNat z,y=z:=λy hy=>(List.mem_replicate.1 hy).2;rw[fL,iE,da]at hb;refine kK S hodd hc.1 hc.2 (es:=List.replicate m.toNat z) (gK.2 λy hy=>by rw[hrep y hy];exact hz0.1) (λy hy=>by rw[hrep y hy];exact hb.2.2.1) (by rw[hy',fH,List.map_replicate]) ?_;simp only[hn,jS,Ph];rw[Nt hb]
   ·cases hy
  ·cases hy
 ·cases H
def E4(st:Nat->Nat)(kp:List Nat)(ns:Nat)(a:Abs)(d:Nat)(sz:Option Nat)(x:PO)(s:Nat):Option sI:=
 af (a.po x) λxv=>af (cellsOf sz xv) λcn=>
  if s<ns/\mB kp [2*st s]then
   some ⟨.P d 0,⟨(a.kill st [2*st s] [] (some d)).t,⟨d,false,[2*s],cn.1.map (AV.kill st [2*st s] [] (some d))⟩::(a.kill st [2*st s] [] (some d)).b⟩,cn.2,[2*st s],[2*st s]⟩else none
theorem FU{I:Inv}{c:Cx}{a:Abs}{env:Env}{σ:St}(S:Sim I c a env σ)(hodd:∀k∈I.kp,k %2=1){d:Nat}{sz:Option Nat}{x:PO}{s:Nat}{r:sI}
  (H:E4 I.st I.kp I.ns a d sz x s=some r)(hg:am env r.ns=true):jj I c a env σ (some d) (vJ sz (x.ev σ.fr) s) r:=by
 simp only[E4,ab]at H;obtain⟨xv,h1,cn,h2,H⟩:=H;split at H
 ·rename_i hc;cases H;obtain⟨k1,k2,k3⟩:=mR (Abs.po_ok S h1) h2 hg;obtain⟨e0,hge⟩:=j9 S.hl hc.1;generalize hx:x.ev σ.fr=v at*;have hg':(σ.h.put (.l s) ⟨e0.ver+1,some ⟨v.cells.length,[v],false⟩⟩).get (.l s)=some ⟨e0.ver+1,some ⟨v.cells.length,[v],false⟩⟩:=Heap.get_put_same hge (by intro i h;cases h);have S':Sim I c a env ⟨σ.fr,σ.h⟩:=S;have hT:cM I [2*I.st s] [.l s]:=λr hr=>by
   simp only[NJ]at hr;subst hr;exact⟨(by intro h;cases h),by simp[Inv.sr]⟩
  have M:=wl S' (s:=s) (d:=d) ⟨e0.ver+1,some ⟨v.cells.length,[v],false⟩⟩ .junk;have S1:=S'.mutate M (S.nm.new _ _ _ _) (bl _ _ _).1 (bl _ _ _).2 hodd hc.2 (.put_l _ _ _ _);refine⟨.ptr (.l s) (e0.ver+1) 0 0,σ.h.put (.l s) ⟨e0.ver+1,some ⟨v.cells.length,[v],false⟩⟩,[.l s],[.l s],c.new s d (e0.ver+1) .junk,?_,⟨S1.fr,S1.tm,λy hy=>?_,S1.nm,S1.hl,S1.ha,S1.kp,S1.fl⟩,?_,hT,hT,?_,wQ,.put_l _ _ _ _⟩
  ·simp only[vJ];rw[Nt ⟨k1,k2⟩];have:=HM.runT_bind_of (f:=λv=>HM.ret (PV.ptr (.l s) v 0 0)) (R2:=[]) (W2:=[]) (jh (b:=⟨v.cells.length,[v],false⟩) hge) rfl;simpa using this
  ·rcases List.mem_cons.1 hy with rfl|hy
   ·refine⟨v.cells.length,v,false,by simp[Cx.new],?_,λ_=>rfl,k2,k3.keep M⟩;simp only[Cx.new,Oa];exact hg'
   ·exact S1.bx y hy
  ·simp[Rel,Cx.new]
  ·intro i;simp[Cx.new]
 ·cases H
def A3(fl:Nat->Bool)(fs:List Nat):Bool:=fs.all λn=>n %2==0|| !fl (n/2)
def tK(st:Nat->Nat)(fl:Nat->Bool)(kp:List Nat)(a:Abs)(sz:Option Nat)(b o:Nat)(y:PO):Option sI:=
 af (a.box b) λbx=>af (a.po y) λyv=>af (cellsOf sz yv) λln=>
  if bx.ro=false/\o+ln.1.length<=bx.cs.length/\mB kp bx.fs/\A3 fl bx.fs then
   some ⟨.D,⟨(a.kill st [] bx.fs none).t,⟨b,false,bx.fs,(bx.cs.take o++ln.1++bx.cs.drop (o+ln.1.length)).map (AV.kill st [] bx.fs none)⟩::(a.kill st [] bx.fs none).b⟩,ln.2,bx.fs.map (sn st),bx.fs.map (sn st)⟩else none
theorem p7{e:PV}{cs:List PV}(ho:ai e.cells=true)(hl:cs.length=e.cells.length)(hc:ai cs=true):(e.withCells cs).cells=cs:=by
 cases e with
 |agg es=>rfl
 |_=>
  simp only[PV.cells,NW,N9]at hl;obtain⟨x,rfl⟩:=List.length_eq_one_iff.1 hl;simp only[PV.withCells,List.headD_cons];simp only[ai,Oi]at hc;cases x<;>first|rfl|(simp[PV.isCell]at hc;done)
theorem rR{I:Inv}{c:Cx}{a:Abs}{env:Env}{fr:List PV}{h:Heap}(S:Sim I c a env ⟨fr,h⟩)(hodd:∀k∈I.kp,k %2=1){sz:Option Nat}{b o:Nat}{bx:BX}{ln:List AV}{v:PV}(h1:a.box b=some bx)
  (k1:v.fits sz=true)(k2:ai v.cells=true)(k3:RelL c h env ln v.cells)(hc1:bx.ro=false)(hc2:o+ln.length<=bx.cs.length)(hc3:mB I.kp bx.fs=true)(hc4:A3 I.fl bx.fs=true):
  ∃h',(fc sz (.ptr (c.be b).1 (c.be b).2 0 o) v).runT h=some (.junk,h',[(c.be b).1],[(c.be b).1])/\Sim I c ⟨(a.kill I.st [] bx.fs none).t,⟨b,false,bx.fs,(bx.cs.take o++ln++bx.cs.drop (o+ln.length)).map (AV.kill I.st [] bx.fs none)⟩::(a.kill I.st [] bx.fs none).b⟩ env ⟨fr,h'⟩/\
   cM I (bx.fs.map (sn I.st)) [(c.be b).1]/\FlOk I h h':=by
 obtain⟨hid,n,e,ro,hn,hget,hro,hok,hR⟩:=Abs.box_ok S h1;rw[hid]at hn hget;have hro':=hro hc1;subst hro';have hlen:=k3.len;have hle:o+v.cells.length<=e.cells.length:=by rw[<-hlen,<-hR.len];exact hc2
 have hcl:(e.cells.take o++v.cells++e.cells.drop (o+v.cells.length)).length=e.cells.length:=by
  simp only[NR,NP,Oj];omega
 have hoc:ai (e.cells.take o++v.cells++e.cells.drop (o+v.cells.length))=true:=by
  simp only[nC,eU hok,k2,dY hok,NZ]
 have hwc:=p7 hok hcl hoc;generalize hnb:e.withCells (e.cells.take o++v.cells++e.cells.drop (o+v.cells.length))=e' at*;have hver:∀i,(c.be b).1=.a i->(⟨(c.be b).2,some ⟨n,[e'],false⟩⟩:eN).ver=0:=λi hi=>by
  rw[hi]at hget;have h0:=Heap.ver_a hget;exact h0
 have hg':=Heap.get_put_same (e':=⟨(c.be b).2,some ⟨n,[e'],false⟩⟩) hget hver;have hnd:=br hget;have hsr:I.sr (c.be b).1∈bx.fs.map (sn I.st):=by
  rw[<-gS S.nm hnd];exact Of hn
 have hT:cM I (bx.fs.map (sn I.st)) [(c.be b).1]:=λr hr=>by
  simp only[NJ]at hr;subst hr;exact⟨hnd,hsr⟩
 have M:Mut I.st [] bx.fs none c c h (h.put (c.be b).1 ⟨(c.be b).2,some ⟨n,[e'],false⟩⟩) env:=by
  refine Mut.of (λr _ hr=>⟨Heap.get_put_other ?_,rfl⟩) λw _=>⟨rfl,rfl⟩
  rintro rfl
  exact hr hn
 have hfl:FlOk I h (h.put (c.be b).1 ⟨(c.be b).2,some ⟨n,[e'],false⟩⟩):=λi ver b' hgi=>by
  by_cases hi:ao.a i=(c.be b).1
  ·right;right;rw[<-hi,S.nm.a i]at hn;have:=List.all_eq_true.1 hc4 _ hn;rw[show(2*I.al i+1)/2=I.al i by omega]at this;have h2:((2*I.al i+1) %2==0)=false:=by simp
   rw[h2]at this;simpa using this
  ·exact .inl ⟨ver,b',by rw[<-hgi];exact(Heap.get_put_other hi).symm,rfl⟩
 have S1:=S.mutate M S.nm (bl _ _ _).1 (bl _ _ _).2 hodd hc3 hfl;refine⟨h.put (c.be b).1 ⟨(c.be b).2,some ⟨n,[e'],false⟩⟩,?_,⟨S1.fr,S1.tm,λz hz=>?_,S1.nm,S1.hl,S1.ha,S1.kp,S1.fl⟩,hT,hfl⟩
 ·simp only[fc];refine HM.runT_bind_of (R:=[(c.be b).1]) (R2:=[]) (W:=[]) (W2:=[(c.be b).1]) (aS hget) ?_;simp only[Nz];rw[Nt ⟨k1,k2,hle,trivial⟩];simp only[HM.runT,hget,List.set_cons_zero,hnb]
 ·rcases List.mem_cons.1 hz with rfl|hz
  ·refine⟨n,e',false,hn,hg',λ_=>rfl,by rw[hwc];exact hoc,?_⟩;rw[hwc];refine RelL.keep M (((hR.take o).app k3).app ?_);rw[hlen];exact hR.drop _
  ·exact S1.bx z hz
theorem zY{I:Inv}{c:Cx}{a:Abs}{env:Env}{σ:St}(S:Sim I c a env σ)(hodd:∀k∈I.kp,k %2=1){d:Option Nat}{sz:Option Nat}{b o:Nat}{y:PO}{r:sI}{xv:PV}(hx:Rel c σ.h env (.P b o) xv)
  (H:tK I.st I.fl I.kp a sz b o y=some r)(hg:am env r.ns=true):jj I c a env σ d (fc sz xv (y.ev σ.fr)) r:=by
 simp only[tK,ab]at H;obtain⟨bx,h1,yv,h2,ln,h3,H⟩:=H;split at H
 ·rename_i hc;cases H;obtain⟨k1,k2,k3⟩:=mR (Abs.po_ok S h2) h3 hg;simp only[Rel]at hx;obtain⟨h',g1,g2,g3,g4⟩:=rR (S:Sim I c a env ⟨σ.fr,σ.h⟩) hodd h1 k1 k2 k3 hc.1 hc.2.1 hc.2.2.1 hc.2.2.2;exact⟨.junk,h',_,_,c,by rw[hx];exact g1,g2,trivial,g3,g3,λ_=>rfl,λ_ _=>rfl,g4⟩
 ·cases H
mutual
def Bv(st:Nat->Nat)(S N:List Nat)(w:Nat)(new:AV):AV->AV
 |.O fs w' wr sz e=>if w'=w then new else AV.kill st S N none (.O fs w' wr sz e)
 |.A cs=>.A (Ca st S N w new cs)
 |a=>AV.kill st S N none a
def Ca(st:Nat->Nat)(S N:List Nat)(w:Nat)(new:AV):List AV->List AV
 |[]=>[]
 |a::as=>Bv st S N w new a::Ca st S N w new as
end
theorem Rel.keep1{nf idf vf:Nat->Bool}{c c':Cx}{h h':Heap}{env env':Env}(M:A8 nf idf vf c c' h h' env env'){a:AV}{v:PV}(R:Rel c h env a v):Rel c' h' env' (a.keep nf idf vf) v:=by
 simp only[AV.keep];split
 ·rename_i ho;exact Rel.frame M ho R
 ·trivial
section
variable{st:Nat->Nat}{S N:List Nat}{c c':Cx}{h h':Heap}{env:Env}{w:Nat}{new:AV}
mutual
theorem Rel.reup(M:Mut st S N none c c' h h' env)(hn:Rel c' h' env new (c.nu w)):∀{a:AV}{v:PV},Rel c h env a v->Rel c' h' env (Bv st S N w new a) v
 |.O fs w' wr sz e,v,R=>by
  simp only[Bv];split
  ·rename_i hw;subst hw;rw[R.1];exact hn
  ·exact Rel.keep1 M R
 |.A cs,v,R=>by
  obtain⟨vs,h1,h2,h3⟩:=R;exact⟨vs,h1,h2,RelL.reup M hn h3⟩
 |.D,v,R=>Rel.keep1 M R
 |.F e,v,R=>Rel.keep1 M R
 |.N e,v,R=>Rel.keep1 M R
 |.Q ..,v,R=>Rel.keep1 M R
 |.P ..,v,R=>Rel.keep1 M R
 |.EP ..,v,R=>Rel.keep1 M R
 |.C ..,v,R=>Rel.keep1 M R
 |.L ..,v,R=>Rel.keep1 M R
 |.T ..,v,R=>Rel.keep1 M R
 |.G ..,v,R=>Rel.keep1 M R
theorem RelL.reup(M:Mut st S N none c c' h h' env)(hn:Rel c' h' env new (c.nu w)):∀{as:List AV}{vs:List PV},RelL c h env as vs->RelL c' h' env (Ca st S N w new as) vs
 |[],[],_=>trivial
 |a::as,v::vs,R=>⟨Rel.reup M hn R.1,RelL.reup M hn R.2⟩
 |[],_::_,R=>by cases R
 |_::_,[],R=>by cases R
end
end
def Abs.reup(st:Nat->Nat)(S N:List Nat)(w:Nat)(new:AV)(a:Abs):Abs:=
 ⟨a.t.map λp=>(p.1,Bv st S N w new p.2),(a.b.filter λx=>x.fs.all λn=> !wW st S N n).map λx=>⟨x.id,x.ro,x.fs,Ca st S N w new x.cs⟩⟩
theorem Sim.reup{I:Inv}{c c':Cx}{a:Abs}{env:Env}{fr:List PV}{h h':Heap}{S N:List Nat}{w:Nat}{new:AV}(Sm:Sim I c a env ⟨fr,h⟩)(M:Mut I.st S N none c c' h h' env)(hn:Nm I c')
  (hL:h'.L.length=h.L.length)(hA:h'.A.length=h.A.length)(hodd:∀k∈I.kp,k %2=1)(hk:mB I.kp (S++N)=true)(hf:FlOk I h h')(hnew:Rel c' h' env new (c.nu w)):Sim I c' (a.reup I.st S N w new) env ⟨fr,h'⟩:=by
 have S1:=Sm.mutate M hn hL hA hodd hk hf;refine⟨S1.fr,λp hp=>?_,λx hx=>?_,S1.nm,S1.hl,S1.ha,S1.kp,S1.fl⟩
 ·obtain⟨q,hq,rfl⟩:=List.mem_map.1 hp;exact Rel.reup M hnew (Sm.tm q hq)
 ·obtain⟨y,hy,rfl⟩:=List.mem_map.1 hx;obtain⟨h1,h2⟩:=List.mem_filter.1 hy;obtain⟨n,e,ro,k1,k2,k3,k4,k5⟩:=Sm.bx y h1;have hb:=(M.i y.id (by simp[u7])).2;have hr:=M.n (c.be y.id).1 (fD (nf:=wW I.st S N) h2 k1);refine⟨n,e,ro,?_,?_,k3,k4,RelL.reup M hnew k5⟩
  ·simp only[hb,hr.2];exact k1
  ·simp only[hb,hr.1];exact k2
theorem uR(e:PV)(cs:List PV):aM (e.withCells cs)=(aM e).withCells (az cs):=by
 cases e<;>cases cs<;>simp[PV.withCells,aM,az]
theorem DP(l:List PV)(i:Nat)(v:PV):az (l.set i v)=(az l).set i (aM v):=by simp only[fH,List.map_set]
def tR(st:Nat->Nat)(kp:List Nat)(a:Abs)(szo:Option Nat)(fs:List Nat)(w sz:Nat)(e i:X)(o:Nat)(y:PO):Option sI:=
 af (a.fo y) λy'=>
  if mB kp fs then
   some ⟨.D,a.reup st [] fs w (.O fs w true sz (.upd szo e i o y')),[.upd szo e i o y'],fs.map (sn st),fs.map (sn st)⟩else none
theorem Ak{I:Inv}{c:Cx}{a:Abs}{env:Env}{σ:St}(S:Sim I c a env σ)(hodd:∀k∈I.kp,k %2=1){d:Option Nat}{szo:Option Nat}{fs:List Nat}{w sz:Nat}{e i:X}{o:Nat}{y:PO}{r:sI}{xv:PV}
  (hx:Rel c σ.h env (.EP fs w true sz e i o) xv)
  (H:tR I.st I.kp a szo fs w sz e i o y=some r)(hg:am env r.ns=true):jj I c a env σ d (fc szo xv (y.ev σ.fr)) r:=by
 simp only[tR,ab]at H;obtain⟨y',h1,H⟩:=H;split at H
 ·rename_i hk;cases H;have hy:=Abs.fo_ok S h1;simp only[Rel,AZ]at hx;obtain⟨q,ver,off,len,room,c0,b,x',k,n,T,he,hw,hi,hn0,hn1,hv⟩:=hx;obtain⟨hT,hnm,hget,hs,ho,hr,hpl,hc,hx'⟩:=T;have hwr:b.ro=false/\off+room<=b.es.length/\c0=false:=by
   rcases hw trivial with hn|⟨r',ver',sz',off',len',room',b',hq,hq2,hq3,hq4⟩
   ·rcases hn with hn|hn<;>rw[hn]at hT<;>cases hT
   ·rw[hq]at hT;cases hT;rw[hget]at hq2;cases hq2;exact⟨hq3,hq4,rfl⟩
  obtain⟨w1,w2,w3⟩:=hwr;subst w3;generalize y.ev σ.fr=yv at*;simp only[am,Oi]at hg;obtain⟨z,hz⟩:=Option.isSome_iff_exists.1 hg;have hz':=hz;have hlen:(az (List.take len (List.drop off b.es))).length=len:=by
   rw[aN,NP,Oj];omega
  simp only[X.ev,he,hi,hy.2,ac,hx',z9,hlen]at hz;rw[Nt ⟨hn0,hn1⟩]at hz;have hnn:n.toNat<len:=by omega
  have hidx:(List.take len (List.drop off b.es))[n.toNat]?=b.es[off+n.toNat]?:=by
   rw[N7,Nt hnn,N8]
  rw[n9,hidx]at hz;cases hel:b.es[off+n.toNat]? with
  |none=>rw[hel]at hz;cases hz
  | some el=>
   rw[hel]at hz;simp only[NM]at hz;split at hz
   ·rename_i hcond;rw[nV,iE,da,aN,fL]at hcond;obtain⟨f1,f2,f3⟩:=hcond;have hpe:=qB hpl hel;have hoe:=qz hpe;generalize hcs:el.cells.take o++yv.cells++el.cells.drop (o+yv.cells.length)=cs at*;have hcl:cs.length=el.cells.length:=by
     rw[<-hcs];simp only[NR,NP,Oj];omega
    have hoc:ai cs=true:=by
     rw[<-hcs];simp only[nC,eU hoe,f2,dY hoe,NZ]
    have hpc:bV cs=true:=by
     rw[<-hcs];simp only[jz,cT (ol hpe),ol hy.1,cG (ol hpe),NZ]
    have hwc:=p7 hoe hcl hoc;have hpw:pl (el.withCells cs)=true:=by
     cases el with
     |agg es=>simp only[PV.withCells,pl,hoc,hpc,NZ]
     |_=>
      simp only[PV.withCells];simp only[PV.cells,NW,N9]at hcl;obtain⟨x,rfl⟩:=List.length_eq_one_iff.1 hcl;simp only[bV,Oi]at hpc;exact hpc
    have hlt:=getElem?_lt hel;have hver:∀j,q=.a j->(⟨ver,some ⟨b.sz,b.es.set (off+n.toNat) (el.withCells cs),false⟩⟩:eN).ver=0:=λj hj=>by
     rw[hj]at hget;have h0:=Heap.ver_a hget;exact h0
    have hg':=Heap.get_put_same (e':=⟨ver,some ⟨b.sz,b.es.set (off+n.toNat) (el.withCells cs),false⟩⟩) hget hver;have S':Sim I c a env ⟨σ.fr,σ.h⟩:=S;have hnd:=br hget;have hTr:cM I (fs.map (sn I.st)) [q]:=λr hr=>by
     simp only[NJ]at hr;subst hr;exact⟨hnd,by rw[<-gS S.nm hnd];exact Of hnm⟩
    have M:Mut I.st [] fs none c c σ.h (σ.h.put q ⟨ver,some ⟨b.sz,b.es.set (off+n.toNat) (el.withCells cs),false⟩⟩) env:=by
     refine Mut.of (λr _ hr=>⟨Heap.get_put_other ?_,rfl⟩) λw _=>⟨rfl,rfl⟩
     rintro rfl
     exact hr hnm
    have hpl':bV (b.es.set (off+n.toNat) (el.withCells cs))=true:=gK.2 λx hx=>by
     rcases O6 hx with h|h
     ·exact gK.1 hpl x h
     ·rw[h];exact hpw
    have hc':∀x∈b.es.set (off+n.toNat) (el.withCells cs),x.cells.length=sz:=λx hx=>by
     rcases O6 hx with h|h
     ·exact hc x h
     ·rw[h,hwc,hcl];exact hc el (ND hel)
    have hview:((b.es.set (off+n.toNat) (el.withCells cs)).drop off).take len=((b.es.drop off).take len).set n.toNat (el.withCells cs):=by
     apply List.ext_getElem?;intro j;simp only[N7,N8,List.getElem?_set,NP,Oj];by_cases hj:j<len
     ·by_cases hjn:n.toNat=j
      ·subst hjn;rw[Nt hj,Nt rfl,Nt rfl,Nt hlt,Nt (by omega)]
      ·rw[Nt hj,Nw (by omega),Nw hjn,Nt hj]
     ·rw[Nw hj];by_cases hjn:n.toNat=j
      ·omega
      ·rw[Nw hjn,Nw hj]
    have hnew:Rel c (σ.h.put q ⟨ver,some ⟨b.sz,b.es.set (off+n.toNat) (el.withCells cs),false⟩⟩) env (.O fs w true sz (.upd szo e i o y')) (c.nu w):=by
     refine⟨rfl,z,.inr ⟨q,ver,off,len,room,false,_,hT,hnm,hg',hs,by rw[List.length_set];exact ho,hr,hpl',hc',?_⟩,hz',λ_=>.inr ⟨q,ver,sz,off,len,room,_,hT,hg',rfl,by simp only[List.length_set];exact w2⟩⟩;cases hz;rw[hview,DP,uR];congr 4;rw[<-hcs];simp only[lX,jU,iK,iE,aN]
    have hfl:FlOk I σ.h (σ.h.put q ⟨ver,some ⟨b.sz,b.es.set (off+n.toNat) (el.withCells cs),false⟩⟩):=λi ver' b' hgi=>by
     by_cases hi:ao.a i=q
     ·right;left;rw[hi,hg']at hgi;simp only[No,eN.mk.injEq]at hgi;rw[<-hgi.2];exact hpl'
     ·exact .inl ⟨ver',b',by rw[<-hgi];exact(Heap.get_put_other hi).symm,rfl⟩
    refine⟨.junk,_,[q],[q],c,?_,S'.reup M S.nm (bl _ _ _).1 (bl _ _ _).2 hodd hk hfl hnew,trivial,hTr,hTr,λ_=>rfl,λ_ _=>rfl,hfl⟩;simp only[hv,fc];refine HM.runT_bind_of (R:=[q]) (R2:=[]) (W:=[]) (W2:=[q]) (aS hget) ?_;simp only[hel];rw[Nt ⟨f1,f2,f3,w1⟩];simp only[HM.runT,hget,hcs]
   ·cases hz
 ·cases H
theorem C7{sz:Nat}{v v':PV}{lo hi mx:Option PV}(hv:p6 v)(h:cJ sz v lo hi mx=some v'):p6 v':=by
 rcases hv with rfl|rfl
 ·simp only[cJ]at h;split at h
  ·simp only[fV]at h;split at h
   ·cases h
   ·unfold jW at h;split at h
    ·split at h
     ·cases h;exact .inl rfl
     ·cases h
    ·cases h
  ·cases h
 ·simp only[cJ]at h;split at h
  ·simp only[fV]at h;split at h
   ·cases h
   ·unfold cA at h;split at h
    ·split at h
     ·rename_i hb;simp only[N9]at hb;cases h;refine .inr ?_;split
      ·simp;omega
      ·simp
     ·cases h
    ·cases h
  ·cases h
def ui(st:Nat->Nat)(a:Abs)(d:Nat)(sz:Nat)(fs:List Nat)(wr:Bool)(s:Nat)(e:X)(lo hi mx:Option PO):Option sI:=
 af (a.bnd lo) λl=>af (a.bnd hi) λh=>af (a.bnd mx) λm=>
  if s=sz/\sz≠0 then some ⟨.O fs d (wr&&mx.isNone) sz (.slice sz e l h m),a.kill st [] [] (some d),[.slice sz e l h m],[],[]⟩else none
def Cx.view(c:Cx)(d:Nat)(v:PV):Cx:=⟨c.nm,λw=>if w=d then v else c.nu w,c.be⟩
theorem y9{st:Nat->Nat}{S N:List Nat}{c:Cx}{h:Heap}{env:Env}(d:Nat)(v:PV):Mut st S N (some d) c (c.view d v) h h env:=
 Mut.of (λr _ _=>⟨rfl,rfl⟩) λw hw=>by
  have:w≠d:=λe=>hw (by rw[e]);simp[Cx.view,this]
theorem Ag{ρ:PO->PV}{x:Option PO}:(th ρ x).isNone=x.isNone:=by cases x<;>rfl
theorem zM{I:Inv}{c:Cx}{a:Abs}{env:Env}{σ:St}(S:Sim I c a env σ)(hodd:∀k∈I.kp,k %2=1){d sz:Nat}{fs:List Nat}{w:Nat}{wr:Bool}{s:Nat}{e:X}{lo hi mx:Option PO}{r:sI}{xv:PV}
  (hx:Rel c σ.h env (.O fs w wr s e) xv)(H:ui I.st a d sz fs wr s e lo hi mx=some r)(hg:am env r.ns=true):
  jj I c a env σ (some d) (HM.ofO (cJ sz xv (th (PO.ev σ.fr) lo) (th (PO.ev σ.fr) hi) (th (PO.ev σ.fr) mx))) r:=by
 simp only[ui,ab]at H;obtain⟨l,hl,h',hh,m,hm,H⟩:=H;split at H
 ·rename_i hs;obtain⟨rfl,hs0⟩:=hs;cases H;simp only[am,Oi]at hg;obtain⟨z,hz⟩:=Option.isSome_iff_exists.1 hg;have hz':=hz;obtain⟨hxv,x',T,he,hw⟩:=hx;simp only[X.ev,he,ac,ab]at hz;obtain⟨lv,hlv,hv,hhv,mv,hmv,hz⟩:=hz;have hz2:=hz;unfold dK at hz;cases e1:kE lv<;>rw[e1]at hz<;>try(cases hz;done)
  cases e2:kE hv<;>rw[e2]at hz<;>try(cases hz;done)
  cases e3:kE mv<;>rw[e3]at hz<;>try(cases hz;done)
  rename_i lo' hi' mx';have b1:=Abs.bnd_ok S hl hlv e1;have b2:=Abs.bnd_ok S hh hhv e2;have b3:=Abs.bnd_ok S hm hmv e3;rw[b1,b2,b3];have hmn:mx.isNone=mx'.isNone:=by rw[<-b3,Ag]
  have S':Sim I c a env ⟨σ.fr,σ.h⟩:=S;have fin:∀{v:PV},cJ s xv lo' hi' mx'=some v->TokOk (λr=>c.nm r∈fs) σ.h s v z->((wr&&mx.isNone)=true->WrOk σ.h v)->
    jj I c a env σ (some d) (HM.ofO (cJ s xv lo' hi' mx')) ⟨.O fs d (wr&&mx.isNone) s (.slice s e l h' m),a.kill I.st [] [] (some d),[.slice s e l h' m],[],[]⟩:=by
   intro v q1 q2 q3;refine⟨v,σ.h,[],[],c.view d v,by rw[q1];rfl,S'.mutate (y9 d v) ⟨S.nm.l,S.nm.a⟩ rfl rfl hodd (by simp[mB]) (.refl _ _),⟨by simp[Cx.view],z,q2,hz',q3⟩,(λ_ h=>by cases h),(λ_ h=>by cases h),λ_=>rfl,λ_ _=>rfl,.refl _ _⟩
  rcases T with⟨hn,hx'⟩|⟨q,ver,off,len,room,c0,b,hT,hnm,hget,hsz,ho,hr,hpl,hc,hx'⟩
  ·have hp:=gQ hn;rw[hx',<-hp.2]at hz2;obtain⟨v,k1,k2,k3⟩:=yP hp.1 e1 e2 e3 hz2;have hv:=C7 hn k1;exact fin k1 (.inl ⟨hv,by rw[<-k3,(gQ hv).2]⟩) λ_=>.inl hv
  ·rw[ hx']at hz;simp only at hz;split at hz
   ·cases hz
   ·rename_i hcc;simp only[not_or,Bool.not_eq_true]at hcc;have hlen:(az (List.take len (List.drop off b.es))).length=len:=by
     rw[aN,NP,Oj];omega
    simp only[cA,hlen,NY]at hz;obtain⟨y,hy,hyz⟩:=hz;cases f1:aG 0 lo'<;>rw[f1]at hy<;>try(cases hy;done)
    cases f2:aG len hi'<;>rw[f2]at hy<;>try(cases hy;done)
    cases f3:aG len mx'<;>rw[f3]at hy<;>try(cases hy;done)
    rename_i ln hn2 mn;simp only at hy;split at hy
    ·rename_i hb;cases hy;obtain⟨g1,g2,g3,_⟩:=hb;have hsl:(s==0)=false:=by simpa using hs0
     have hrm:∃m',aG room mx'=some m'/\hn2<=m'/\m'<=room/\(mx'=none->m'=room):=by
      cases mx' with
      |none=>exact⟨room,rfl,by simp only[aG,No]at f3;omega,Ny _,λ_=>rfl⟩
      |some mv'=>exact⟨mn,by simpa[aG]using f3,g2,by omega,λh=>by cases h⟩
     obtain⟨m',r1,r2,r3,r4⟩:=hrm;refine fin (v:=.tok q ver s (off+ln) (hn2-ln) (m'-ln) (if mx'.isSome then m'==ln else c0)) ?_ (.inr ⟨q,ver,off+ln,hn2-ln,m'-ln,_,b,rfl,hnm,hget,hsz,by omega,by omega,hpl,hc,?_⟩) λhww=>?_
     ·simp only[cJ,hT,PV.isStr,hsl,Oa,fV,hcc.2,NL,Oc,uN,f1,f2,r1];rw[Nt ⟨g1,r2,r3⟩]
     ·rw[<-hyz];simp only[aM,jU,iK,fe];congr 1;rw[List.drop_take,List.take_take,Ps];congr 1;omega
     ·simp only[Np]at hww;rw[hmn]at hww;have hmx:mx'=none:=by simpa using hww.2
      subst hmx;have:=r4 rfl;subst this;rcases hw hww.1 with hn|⟨r',ver',sz',off',len',room',b',hq,hq2,hq3,hq4⟩
      ·rcases hn with hn|hn<;>rw[hn]at hT<;>cases hT
      ·rw[hq]at hT;cases hT;rw[hget]at hq2;cases hq2;exact .inr ⟨q,ver,s,_,_,_,b,rfl,hget,hq3,by omega⟩
    ·cases hy
 ·cases H
def IM(st:Nat->Nat)(S:List Nat):Nat->Bool:=λn=>S.contains (sn st n)
def KC(st:Nat->Nat)(N:List Nat)(as:List AV):Bool:=AV.okL (wW st [] N) (u7 none) (λ_=>false) as
def BR(fs:List Nat):Bool:=fs.all λn=>n %2==0
def LD(st:Nat->Nat):AV->Option (X×List Nat)
 |.F e=>some (e,[])
 |.N e=>some (e,[])
 |.O fs _ _ _ e=>if BR fs then some (e,fs)else none
 |_=>none
def Hf(st:Nat->Nat):List AV->Option (X×List Nat)
 |[]=>some (.nl,[])
 |a::as=>af (LD st a) λp=>if KC st p.2 as then af (Hf st as) λq=>some (.cn p.1 q.1,p.2++q.2)else none
def Ma(st:Nat->Nat):AV->Option (X×List Nat)
 |.A cs=>af (Hf st cs) λp=>some (.agg p.1,p.2)
 |a=>LD st a
def EY(st:Nat->Nat):List AV->Option (X×List Nat)
 |[]=>some (.nl,[])
 |a::as=>af (Ma st a) λp=>if KC st p.2 as then af (EY st as) λq=>some (.cn p.1 q.1,p.2++q.2)else none
structure Took (I:Inv) (c:Cx) (N:List Nat) (h h':Heap) (R W:List ao):Prop where
 same:∀r,c.nm r∉N->h'.get r=h.get r
 ll:h'.L.length=h.L.length
 la:h'.A.length=h.A.length
 rd:cM I (N.map (sn I.st)) R
 wr:cM I (N.map (sn I.st)) W
 fl:FlOk I h h'
theorem eX{I:Inv}{S T:List Nat}{l:List ao}(h:cM I S l)(hs:∀x∈S,x∈T):cM I T l:=λr hr=>⟨(h r hr).1,hs _ (h r hr).2⟩
theorem kx{I:Inv}{S:List Nat}{l m:List ao}(h:cM I S l)(k:cM I S m):cM I S (l++m):=λr hr=>by
 rcases List.mem_append.1 hr with hr|hr
 ·exact h r hr
 ·exact k r hr
theorem Took.refl(I:Inv)(c:Cx)(S:List Nat)(h:Heap):Took I c S h h [] []:=⟨λ_ _=>rfl,rfl,rfl,λ_ h=>(by cases h),λ_ h=>(by cases h),.refl _ _⟩
theorem Took.trans{I:Inv}{c:Cx}{S T:List Nat}{h h1 h2:Heap}{R W R' W':List ao}(A:Took I c S h h1 R W)(B:Took I c T h1 h2 R' W'):Took I c (S++T) h h2 (R++R') (W++W') where
 same r hr:=by
  simp only[OT,not_or]at hr;rw[B.same r hr.2,A.same r hr.1]
 ll:=by rw[B.ll,A.ll]
 la:=by rw[B.la,A.la]
 rd:=by rw[OO];exact kx (eX A.rd λ_ h=>Nu _ h) (eX B.rd λ_ h=>Nr _ h)
 wr:=by rw[OO];exact kx (eX A.wr λ_ h=>Nu _ h) (eX B.wr λ_ h=>Nr _ h)
 fl:=A.fl.trans B.fl
theorem Took.mut{I:Inv}{c:Cx}{S:List Nat}{h h':Heap}{R W:List ao}(A:Took I c S h h' R W)(env:Env)(d:Option Nat):Mut I.st [] S d c c h h' env:=
 Mut.of (λr _ hr=>⟨A.same r hr,rfl⟩) λ_ _=>⟨rfl,rfl⟩
section
variable{I:Inv}{c:Cx}{env:Env}
theorem tE{N:Nm I c}{r:ao}(h:c.nm r %2=0)(hr:r≠ .dead):∃s,r=.l s:=by
 cases r with
 |a i=>rw[N.a i]at h;omega
 |l s=>exact⟨s,rfl⟩
 |dead=>exact absurd rfl hr
theorem kN(n s ver sz off len room:Nat)(c0:Bool):bc (n+1) (.tok (.l s) ver sz off len room c0)=if len=0 then .ret (.lst [] c0)else
  (elems (.tok (.l s) ver sz off len 0 c0)).bind λes=>(HM.mapM (bc n) es).bind λes'=>(bN (.l s) ver).bind λ_=>.set (.l s) ⟨ver,none⟩ (.ret (.lst es' c0)):=rfl
theorem zA(N:Nm I c){h:Heap}{a:AV}{v:PV}{p:X×List Nat}(R:Rel c h env a v)(H:LD I.st a=some p)(n:Nat):
  ∃v' h' Rr W,(bc (n+3) v).runT h=some (v',h',Rr,W)/\pl v'=true/\p.1.ev env=some (aM v')/\Took I c p.2 h h' Rr W/\(v.isCell=true->v'.isCell=true)/\v'.cells.length=v.cells.length/\(∀sz,v.cells.length=sz->v'.cells.length=sz):=by
 unfold LD at H;split at H
 ·cases H;exact⟨v,h,[],[],by rw[kY R.1];rfl,R.1,R.2,Took.refl ..,λh=>h,rfl,λ_ h=>h⟩
 ·cases H;have hp:=gQ R.1;exact⟨v,h,[],[],by rw[kY hp.1];rfl,hp.1,by rw[hp.2];exact R.2,Took.refl ..,λh=>h,rfl,λ_ h=>h⟩
 ·split at H
  ·rename_i fs w wr sz e hev;cases H;obtain⟨hv,x,T,he,_⟩:=R;rcases T with⟨hn,hx⟩|⟨r,ver,off,len,room,c0,b,hT,hnm,hget,hs,ho,hr,hpl,hc,hx⟩
   ·have hp:=gQ hn;exact⟨v,h,[],[],by rw[kY hp.1];rfl,hp.1,by rw[hp.2,<-hx];exact he,Took.refl ..,λh=>h,rfl,λ_ h=>h⟩
   ·have hnd:=br hget;obtain⟨s,rfl⟩:=tE (N:=N) (by have:=List.all_eq_true.1 hev _ hnm;simpa using this) hnd;have hview:=cT (cG hpl off) len;have hmap:=qh hview (n+0);by_cases h0:len=0
    ·subst h0;refine⟨.lst [] c0,h,[],[],?_,rfl,by rw[he,hx];simp[aM,az],Took.refl ..,λ_=>rfl,by rw[hT];rfl,λsz h=>by rw[<-h,hT];rfl⟩;rw[hT,kN,Nt rfl];rfl
    ·refine⟨.lst (List.take len (List.drop off b.es)) c0,h.put (.l s) ⟨ver,none⟩,[.l s]++([]++[.l s]),[]++([]++[.l s]),?_,hview,by rw[he,hx];simp[aM],⟨λr hr'=>?_,(bl _ _ _).1,(bl _ _ _).2,λr hr'=>?_,λr hr'=>?_,.put_l _ _ _ _⟩,λ_=>rfl,by rw[hT];rfl,λsz h=>by rw[<-h,hT];rfl⟩
     ·rw[hT,kN,Nw h0];have he1:(elems (.tok (.l s) ver sz off len 0 c0)).runT h=some (List.take len (List.drop off b.es),h,[.l s],[]):=by
       simp only[elems,Nw h0];refine HM.runT_bind_of (R:=[.l s]) (R2:=[]) (W:=[]) (W2:=[]) (aS hget) ?_;rw[Nt ⟨ho,hs⟩];rfl
      refine HM.runT_bind_of he1 ?_;rw[hmap];simp only[HM.bind];rw[HM.runT_bind,aS hget];simp only[HM.runT,hget];rfl
     ·have hne:r≠ .l s:=by
       rintro rfl
       exact hr' hnm
      exact Heap.get_put_other hne
     all_goals
      have:r=.l s:=by simpa using hr'
      subst this;exact⟨hnd,by rw[<-gS N hnd];exact Of hnm⟩
  ·cases H
 ·cases H
theorem sA{I:Inv}{c:Cx}{env:Env}{S:List Nat}{h h':Heap}{Rr W:List ao}(T:Took I c S h h' Rr W){as:List AV}{vs:List PV}(ho:KC I.st S as=true)(R:RelL c h env as vs):RelL c h' env as vs:=
 RelL.frame (T.mut env none) ho R
theorem Be(N:Nm I c)(n:Nat):∀{as:List AV}{vs:List PV}{h:Heap}{p:X×List Nat},RelL c h env as vs->Hf I.st as=some p->
  ∃vs' h' Rr W,(HM.mapM (bc (n+3)) vs).runT h=some (vs',h',Rr,W)/\bV vs'=true/\p.1.ev env=some (.tup (az vs'))/\Took I c p.2 h h' Rr W/\(ai vs=true->ai vs'=true)/\vs'.length=vs.length
 |[],[],h,p,R,H=>by
  cases H;exact⟨[],h,[],[],rfl,rfl,rfl,Took.refl ..,λh=>h,rfl⟩
 | a::as,v::vs,h,p,R,H=>by
  simp only[Hf,ab]at H;obtain⟨p1,h1,H⟩:=H;split at H
  ·rename_i ho;simp only[ab]at H;obtain⟨q,h2,h3⟩:=H;cases h3;obtain⟨v',g,R1,W1,k1,k2,k3,k4,k5,k6,_⟩:=zA N R.1 h1 n;obtain⟨vs',g',R2,W2,l1,l2,l3,l4,l5,l6⟩:=Be N n (sA k4 ho R.2) h2;refine⟨v'::vs',g',R1++(R2++[]),W1++(W2++[]),?_,by simp only[bV,k2,l2,NZ],by simp only[X.ev,k3,l3,ac,az],?_,λhc=>?_,by simp[l6]⟩
   ·rw[HM.mapM];refine HM.runT_bind_of k1 ?_;exact HM.runT_bind_of l1 rfl
   ·rw[NT,NT];exact k4.trans l4
   ·simp only[ai,Np]at hc⊢;exact⟨k5 hc.1,l5 hc.2⟩
  ·cases H
 |[],_::_,_,_,R,_=>by cases R
 |_::_,[],_,_,R,_=>by cases R
theorem EE(N:Nm I c){h:Heap}{a:AV}{v:PV}{p:X×List Nat}(R:Rel c h env a v)(H:Ma I.st a=some p)(n:Nat):
  ∃v' h' Rr W,(bc (n+4) v).runT h=some (v',h',Rr,W)/\pl v'=true/\p.1.ev env=some (aM v')/\Took I c p.2 h h' Rr W/\v'.cells.length=v.cells.length:=by
 unfold Ma at H;split at H
 ·rename_i cs;simp only[ab]at H;obtain⟨q,h1,h2⟩:=H;cases h2;obtain⟨vs,rfl,hok,hR⟩:=R;obtain⟨vs',g,R1,W1,k1,k2,k3,k4,k5,k6⟩:=Be N n hR h1;refine⟨.agg vs',g,R1++[],W1++[],HM.runT_bind_of k1 rfl,by simp only[pl,k5 hok,k2,NZ],?_,by rw[NT,NT];exact k4,by simp[PV.cells,k6]⟩;simp only[X.ev,k3,ac,bP,da,k5 hok,Oa,aM]
 ·obtain⟨v',g,R1,W1,k1,k2,k3,k4,k5,k6,_⟩:=zA N R H (n+1);exact⟨v',g,R1,W1,k1,k2,k3,k4,k6⟩
theorem xw(N:Nm I c)(n:Nat):∀{as:List AV}{vs:List PV}{h:Heap}{p:X×List Nat},RelL c h env as vs->EY I.st as=some p->
  ∃vs' h' Rr W,(HM.mapM (bc (n+4)) vs).runT h=some (vs',h',Rr,W)/\bV vs'=true/\p.1.ev env=some (.tup (az vs'))/\Took I c p.2 h h' Rr W/\vs'.length=vs.length/\(∀sz,bO sz vs=true->bO sz vs'=true)
 |[],[],h,p,R,H=>by
  cases H;exact⟨[],h,[],[],rfl,rfl,rfl,Took.refl ..,rfl,λ_ h=>h⟩
 | a::as,v::vs,h,p,R,H=>by
  simp only[EY,ab]at H;obtain⟨p1,h1,H⟩:=H;split at H
  ·rename_i ho;simp only[ab]at H;obtain⟨q,h2,h3⟩:=H;cases h3;obtain⟨v',g,R1,W1,k1,k2,k3,k4,k5⟩:=EE N R.1 h1 n;obtain⟨vs',g',R2,W2,l1,l2,l3,l4,l5,l6⟩:=xw N n (sA k4 ho R.2) h2;refine⟨v'::vs',g',R1++(R2++[]),W1++(W2++[]),?_,by simp only[bV,k2,l2,NZ],by simp only[X.ev,k3,l3,ac,az],?_,by simp[l5],λsz hs=>?_⟩
   ·rw[HM.mapM];refine HM.runT_bind_of k1 ?_;exact HM.runT_bind_of l1 rfl
   ·rw[NT,NT];exact k4.trans l4
   ·simp only[bO,Np,NX]at hs⊢;exact⟨by rw[k5];exact hs.1,l6 sz hs.2⟩
  ·cases H
 |[],_::_,_,_,R,_=>by cases R
 |_::_,[],_,_,R,_=>by cases R
end
def Abs.fitsL(a:Abs)(sz:Option Nat):List PO->Option (List AV×List X)
 |[]=>some ([],[])
 |x::xs=>af (a.po x) λav=>af (cellsOf sz av) λcn=>af (a.fitsL sz xs) λl=>some (av::l.1,cn.2++l.2)
theorem Abs.fitsL_ok{I:Inv}{c:Cx}{a:Abs}{env:Env}{σ:St}(S:Sim I c a env σ){sz:Option Nat}:∀{xs:List PO}{l:List AV×List X},a.fitsL sz xs=some l->am env l.2=true->
  RelL c σ.h env l.1 (ka (PO.ev σ.fr) xs)/\fU sz (ka (PO.ev σ.fr) xs)=true/\bO (sz.getD 1) (ka (PO.ev σ.fr) xs)=true
 |[],l,H,_=>by cases H;exact⟨trivial,rfl,rfl⟩
 |x::xs,l,H,hg=>by
  simp only[Abs.fitsL,ab]at H;obtain⟨av,h1,cn,h2,l',h3,h4⟩:=H;cases h4;simp only[bX,Np]at hg;obtain⟨q1,q2,q3⟩:=mR (Abs.po_ok S h1) h2 hg.1;obtain⟨k1,k2,k3⟩:=Abs.fitsL_ok S h3 hg.2;exact⟨⟨Abs.po_ok S h1,k1⟩,by simp only[ka,fU,q1,q2,k2,NZ],by simp only[ka,bO,xN q1,Nq,k3,NZ]⟩
def tH(st:Nat->Nat)(kp:List Nat)(ns:Nat)(a:Abs)(d:Nat)(sz:Option Nat)(parts:List PO)(s:Nat):Option sI:=
 af (a.fitsL sz parts) λl=>if s<ns/\mB kp [2*st s]/\AV.okL (wW st [2*st s] []) (u7 (some d)) (λ_=>false) l.1 then
  some ⟨.L [2*s] (sz.getD 1) l.1,a.kill st [2*st s] [] (some d),l.2,[2*st s],[2*st s]⟩else none
theorem zI{I:Inv}{c:Cx}{a:Abs}{env:Env}{σ:St}(S:Sim I c a env σ)(hodd:∀k∈I.kp,k %2=1){d:Nat}{sz:Option Nat}{parts:List PO}{s:Nat}{r:sI}
  (H:tH I.st I.kp I.ns a d sz parts s=some r)(hg:am env r.ns=true):jj I c a env σ (some d) (cZ sz (ka (PO.ev σ.fr) parts) s) r:=by
 simp only[tH,ab]at H;obtain⟨l,h1,H⟩:=H;split at H
 ·rename_i hc;cases H;obtain⟨k1,k2,k3⟩:=Abs.fitsL_ok S h1 hg;generalize hvs:ka (PO.ev σ.fr) parts=vs at*;obtain⟨e0,hge⟩:=j9 S.hl hc.1;have hg':(σ.h.put (.l s) ⟨e0.ver+1,some ⟨sz.getD 1,vs,false⟩⟩).get (.l s)=some ⟨e0.ver+1,some ⟨sz.getD 1,vs,false⟩⟩:=Heap.get_put_same hge (by intro i h;cases h);have S':Sim I c a env ⟨σ.fr,σ.h⟩:=S;have hT:cM I [2*I.st s] [.l s]:=λr hr=>by
   simp only[NJ]at hr;subst hr;exact⟨(by intro h;cases h),by simp[Inv.sr]⟩
  have M:=wl S' (s:=s) (d:=d) ⟨e0.ver+1,some ⟨sz.getD 1,vs,false⟩⟩ .junk;refine⟨.tok (.l s) (e0.ver+1) (sz.getD 1) 0 vs.length vs.length false,σ.h.put (.l s) ⟨e0.ver+1,some ⟨sz.getD 1,vs,false⟩⟩,[.l s]++[],[.l s]++[],c.new s d (e0.ver+1) .junk,?_,
   S'.mutate M (S.nm.new _ _ _ _) (bl _ _ _).1 (bl _ _ _).2 hodd hc.2.1 (.put_l _ _ _ _),⟨.l s,e0.ver+1,vs,rfl,by simp[Cx.new],hg',k3,RelL.frame M hc.2.2 k1⟩,hT,hT,by intro i;simp[Cx.new],wQ,.put_l _ _ _ _⟩
  simp only[cZ,k2,Oa];exact HM.runT_bind_of (jh (b:=⟨sz.getD 1,vs,false⟩) hge) rfl
 ·cases H
def sD(sz:Nat)(x:PV)(vs:List PV)(s:Nat):HM PV:=
 if vs.isEmpty then(match x with|.nils=>.ret .nils|.lst es c0=>.ret (.lst es c0)|.tok r ver z off len room c0=>.ret (.tok r ver z off len room c0)|_=>.fail)
 else match x with
  |.nils=>ed sz [] vs s
  |.lst es c0=>if c0/\es.isEmpty then ed sz [] vs s else .fail
  |.tok r ver z off len room c0=>if c0 then(if len=0 then ed sz [] vs s else .fail)else if z=sz then gj sz r ver off len room vs s else .fail
  |_=>.fail
theorem xX(sz:Nat)(x y:PV)(s:Nat):i6 sz x y s=(elems y).bind λvs0=>if bO sz vs0 then(HM.mapM (bc 9) vs0).bind λvs=>sD sz x vs s else .fail:=rfl
theorem oB{sz:Nat}:∀{vs:List PV},bO sz vs=true->∀x∈vs,x.cells.length=sz
 |[],_,x,h=>by cases h
 |v::vs,hs,x,h=>by
  simp only[bO,Np,NX]at hs;rcases List.mem_cons.1 h with rfl|h
  ·exact hs.1
  ·exact oB hs.2 x h
structure JV (c:Cx) (h:Heap) (fs:List Nat) (sz:Nat) (v:PV) (xs:List PV):Prop where
 t:TokOk (λr=>c.nm r∈fs) h sz v (.lst xs false)
 w:WrOk h v
structure DJ (I:Inv) (c:Cx) (h:Heap) (env:Env) (d s:Nat) (fs:List Nat) (sz:Nat) (m:HM PV) (xs:List PV) (v:PV) (h':Heap) (R W:List ao) (c':Cx):Prop where
 run:m.runT h=some (v,h',R,W)
 nu:c'.nu d=v
 t:TokOk (λr=>c'.nm r∈2*s::fs) h' sz v (.lst xs false)
 w:WrOk h' v
 mu:Mut I.st [2*I.st s] fs (some d) c c' h h' env
 nm:Nm I c'
 ll:h'.L.length=h.L.length
 la:h'.A.length=h.A.length
 rd:cM I (2*I.st s::fs.map (sn I.st)) R
 wr:cM I (2*I.st s::fs.map (sn I.st)) W
 al:∀i,c'.nm (.a i)=c.nm (.a i)
 be:∀w,some d≠some w->c'.be w=c.be w
 fl:FlOk I h h'
section
variable{I:Inv}{c:Cx}{env:Env}
theorem w6(N:Nm I c){h:Heap}{d s:Nat}{fs:List Nat}{sz:Nat}{vs xs:List PV}{n:Nat}(hs:s<I.ns)(hL:h.L.length=I.ns)(hp:bV (xs++vs)=true)(hc:∀x∈xs++vs,x.cells.length=sz)(hn:xs.length=n){m:HM PV}
  (hm:m=(ek s ⟨sz,xs++vs,false⟩).bind λv=>.ret (.tok (.l s) v sz 0 (n+vs.length) (n+vs.length) false)):
  ∃v h' R W c',DJ I c h env d s fs sz m (az (xs++vs)) v h' R W c':=by
 subst hn;obtain⟨e0,hge⟩:=j9 hL hs;have hlen:(xs++vs).length=xs.length+vs.length:=NR;have hg':(h.put (.l s) ⟨e0.ver+1,some ⟨sz,xs++vs,false⟩⟩).get (.l s)=some ⟨e0.ver+1,some ⟨sz,xs++vs,false⟩⟩:=Heap.get_put_same hge (by intro i h;cases h);have hT:cM I (2*I.st s::fs.map (sn I.st)) ([.l s]++[]):=λr hr=>by
  simp only[NT,NJ]at hr;subst hr;exact⟨(by intro h;cases h),by simp[Inv.sr]⟩
 refine⟨.tok (.l s) (e0.ver+1) sz 0 (xs.length+vs.length) (xs.length+vs.length) false,h.put (.l s) ⟨e0.ver+1,some ⟨sz,xs++vs,false⟩⟩,[.l s]++[],[.l s]++[],c.new s d (e0.ver+1) (.tok (.l s) (e0.ver+1) sz 0 (xs.length+vs.length) (xs.length+vs.length) false),?_,by simp[Cx.new],?_,?_,?_,N.new _ _ _ _,(bl _ _ _).1,(bl _ _ _).2,hT,hT,by intro i;simp[Cx.new],wQ,.put_l _ _ _ _⟩
 ·subst hm;exact HM.runT_bind_of (jh (b:=⟨sz,xs++vs,false⟩) hge) rfl
 ·exact .inr ⟨.l s,e0.ver+1,0,_,_,false,_,rfl,by simp[Cx.new],hg',rfl,by rw[hlen];omega,Ny _,hp,hc,by rw[Pt,<-hlen,OX]⟩
 ·exact .inr ⟨.l s,e0.ver+1,sz,0,_,_,_,rfl,hg',rfl,by rw[hlen];omega⟩
 ·refine Mut.of (λr hr _=>?_) λw hw=>?_
  ·have hne:r≠ .l s:=by
    rintro rfl
    apply hr;rw[gS N (by intro h;cases h)];simp[Inv.sr]
   exact⟨Heap.get_put_other hne,by simp[Cx.new,hne]⟩
  ·have:w≠d:=λe=>hw (by rw[e]);simp[Cx.new,this]
theorem z7(N:Nm I c){h:Heap}{d s:Nat}{fs:List Nat}{sz:Nat}{v:PV}{xs vs:List PV}(A:JV c h fs sz v xs)(hs:s<I.ns)(hL:h.L.length=I.ns)(hp:bV vs=true)(hc:∀x∈vs,x.cells.length=sz)(hmax:xs.length+vs.length<bB):
  ∃v' h' R W c',DJ I c h env d s fs sz (sD sz v vs s) (xs++az vs) v' h' R W c':=by
 obtain⟨T,Wr⟩:=A;by_cases hem:vs.isEmpty=true
 ·have hvs:vs=[]:=List.isEmpty_iff.1 hem;subst hvs;refine⟨v,h,[],[],c.view d v,?_,by simp[Cx.view],?_,Wr,y9 d v,⟨N.l,N.a⟩,rfl,rfl,λ_ h=>(by cases h),λ_ h=>(by cases h),λ_=>rfl,λ_ _=>rfl,.refl _ _⟩
  ·have:sD sz v [] s=.ret v:=by
    rcases T with⟨hn|hn,_⟩|⟨r,ver,off,len,room,c0,b,hT,_⟩
    ·rw[hn];rfl
    ·rw[hn];rfl
    ·rw[hT];rfl
   rw[this];rfl
  ·simp only[az,NT];rcases T with T|⟨r,ver,off,len,room,c0,b,hT,hnm,T⟩
   ·exact .inl T
   ·exact .inr ⟨r,ver,off,len,room,c0,b,hT,Nv _ hnm,T⟩
 ·have hnil:∀{m:HM PV},xs=[]->m=ed sz [] vs s->∃v' h' R W c',DJ I c h env d s fs sz m (xs++az vs) v' h' R W c':=by
   intro m hx hm;subst hx;obtain⟨v',h',R,W,c',k⟩:=w6 (env:=env) (d:=d) (fs:=fs) (m:=m) N hs hL (xs:=[]) (vs:=vs) (n:=0) (sz:=sz) (by simpa using hp) (by simpa using hc) rfl (by
    rw[hm];simp only[ed,N9,NB];rw[Nt (by simpa using hmax)])
   exact⟨v',h',R,W,c',by simpa using k⟩
  simp only[sD,hem,NL,Oc];rcases T with⟨hn,hx⟩|⟨r,ver,off,len,room,c0,b,hT,hnm,hget,hsz,ho,hr,hpl,hcc,hx⟩
  ·simp only[PV.lst.injEq,Pj]at hx;rcases hn with hn|hn
   ·rw[hn];exact hnil hx rfl
   ·rw[hn];exact hnil hx rfl
  ·simp only[PV.lst.injEq,Pj]at hx;have hwr:b.ro=false/\off+room<=b.es.length/\c0=false:=by
    rcases Wr with hn|⟨r',ver',sz',off',len',room',b',hq,hq2,hq3,hq4⟩
    ·rcases hn with hn|hn<;>rw[hn]at hT<;>cases hT
    ·rw[hq]at hT;cases hT;rw[hget]at hq2;cases hq2;exact⟨hq3,hq4,rfl⟩
   obtain⟨w1,w2,rfl⟩:=hwr;have hxl:xs.length=len:=by rw[hx,aN,NP,Oj];omega
   rw[hT];simp only[NL,Oc,Oa];have hview:=cT (cG hpl off) len;have hvc:∀x∈(b.es.drop off).take len,x.cells.length=sz:=λx hx=>hcc x (OD (OE hx));have hvl:((b.es.drop off).take len).length=len:=by rw[NP,Oj];omega
   have hnd:=br hget;have hsr:I.sr r∈2*I.st s::fs.map (sn I.st):=by
    rw[<-gS N hnd];exact Nv _ (Of hnm)
   have hTr:cM I (2*I.st s::fs.map (sn I.st)) [r]:=λq hq=>by
    simp only[NJ]at hq;subst hq;exact⟨hnd,hsr⟩
   have hguard:b.sz=sz/\b.ro=false/\off+len<=b.es.length/\len+vs.length<bB:=⟨hsz,w1,ho,by omega⟩;by_cases hroom:len+vs.length<=room
   ·have hver:∀i,r=.a i->(⟨ver,some ⟨sz,b.es.take (off+len)++vs++b.es.drop (off+len+vs.length),false⟩⟩:eN).ver=0:=λi hi=>by
     rw[hi]at hget;have h0:=Heap.ver_a hget;exact h0
    have hg':=Heap.get_put_same hget hver;have hln:(b.es.take (off+len)++vs++b.es.drop (off+len+vs.length)).length=b.es.length:=by
     simp only[NR,NP,Oj];omega
    have hvw:((b.es.take (off+len)++vs++b.es.drop (off+len+vs.length)).drop off).take (len+vs.length)=(b.es.drop off).take len++vs:=by
     have e1:(List.take (off+len) b.es).length=off+len:=by rw[NP];omega
     rw[Ol,List.drop_append_of_le_length (by rw[e1];omega),List.drop_take,show off+len-off=len by omega];rw[List.take_append,hvl,OG (by omega),show len+vs.length-len=vs.length by omega,List.take_append_of_le_length (Ny _),OG (Ny _)]
    refine⟨.tok r ver sz off (len+vs.length) room false,h.put r ⟨ver,some ⟨sz,b.es.take (off+len)++vs++b.es.drop (off+len+vs.length),false⟩⟩,[r]++[],[]++[r],c.view d (.tok r ver sz off (len+vs.length) room false),?_,by simp[Cx.view],?_,?_,?_,⟨N.l,N.a⟩,(bl _ _ _).1,(bl _ _ _).2,by simpa using hTr,by simpa using hTr,λ_=>rfl,λ_ _=>rfl,λi ver' b' hgi=>?_⟩
    ·unfold gj;refine HM.runT_bind_of (aS hget) ?_;rw[Nt hguard,Nt hroom,Nt (by omega)];simp only[HM.runT,hget]
    ·refine .inr ⟨r,ver,off,_,_,false,_,rfl,Nv _ hnm,hg',rfl,by rw[hln];omega,hroom,?_,?_,?_⟩
     ·simp only[jz,cT hpl,hp,cG hpl,NZ]
     ·intro x hx';rcases List.mem_append.1 hx' with hx'|hx'
      ·rcases List.mem_append.1 hx' with hx'|hx'
       ·exact hcc x (OE hx')
       ·exact hc x hx'
      ·exact hcc x (OD hx')
     ·rw[hvw,lX,<-hx]
    ·exact .inr ⟨r,ver,sz,off,_,_,_,rfl,hg',rfl,by rw[hln];omega⟩
    ·refine Mut.of (λq _ hq=>⟨Heap.get_put_other ?_,rfl⟩) λw hw=>?_
     ·rintro rfl
      exact hq hnm
     ·have:w≠d:=λe=>hw (by rw[e]);simp[Cx.view,this]
    ·by_cases hi:ao.a i=r
     ·right;left;rw[hi,hg']at hgi;simp only[No,eN.mk.injEq]at hgi;rw[<-hgi.2];simp only[jz,cT hpl,hp,cG hpl,NZ]
     ·exact .inl ⟨ver',b',by rw[<-hgi];exact(Heap.get_put_other hi).symm,rfl⟩
   ·by_cases hrs:r=.l s
    ·obtain⟨v',h',R,W,c',k⟩:=w6 (env:=env) (d:=d) (fs:=fs) (h:=h) N hs hL (xs:=(b.es.drop off).take len) (vs:=vs) (n:=len) (sz:=sz) (by simp only[jz,hview,hp,NZ])
      (λx hx'=>by
       rcases List.mem_append.1 hx' with hx'|hx'
       ·exact hvc x hx'
       ·exact hc x hx') hvl rfl
     rw[lX,<-hx]at k;refine⟨v',h',[r]++R,[]++W,c',?_,k.nu,k.t,k.w,k.mu,k.nm,k.ll,k.la,kx hTr k.rd,k.wr,k.al,k.be,k.fl⟩;unfold gj;refine HM.runT_bind_of (aS hget) ?_;rw[Nt hguard,Nw hroom,Nt hrs];exact k.run
    ·have hver:∀i,r=.a i->(⟨ver,none⟩:eN).ver=0:=λi hi=>by
      rw[hi]at hget;have h0:=Heap.ver_a hget;exact h0
     obtain⟨v',h',R,W,c',k⟩:=w6 (env:=env) (d:=d) (fs:=fs) (h:=h.put r ⟨ver,none⟩) N hs (by rw[(bl _ _ _).1];exact hL) (xs:=(b.es.drop off).take len) (vs:=vs) (n:=len) (sz:=sz) (by simp only[jz,hview,hp,NZ])
      (λx hx'=>by
       rcases List.mem_append.1 hx' with hx'|hx'
       ·exact hvc x hx'
       ·exact hc x hx') hvl rfl
     rw[lX,<-hx]at k;refine⟨v',h',[r]++R,[]++(r::W),c',?_,k.nu,k.t,k.w,?_,k.nm,by rw[k.ll,(bl _ _ _).1],by rw[k.la,(bl _ _ _).2],kx hTr k.rd,?_,k.al,k.be,?_⟩
     ·unfold gj;refine HM.runT_bind_of (aS hget) ?_;rw[Nt hguard,Nw hroom,Nw hrs];simp only[HM.runT,hget];rw[k.run]
     ·refine⟨λq hq=>?_,k.mu.i,λ_ _=>rfl⟩;have h1:=k.mu.n q hq;rw[h1.1,h1.2];refine⟨Heap.get_put_other ?_,rfl⟩
      rintro rfl
      exact(ee.1 hq).2 hnm
     ·intro q hq;rcases List.mem_cons.1 hq with rfl|hq
      ·exact⟨hnd,hsr⟩
      ·exact k.wr q hq
     ·refine FlOk.trans (λi ver' b' hgi=>?_) k.fl;by_cases hi:ao.a i=r
      ·rw[hi,Heap.get_put_same hget hver]at hgi;simp at hgi
      ·exact .inl ⟨ver',b',by rw[<-hgi];exact(Heap.get_put_other hi).symm,rfl⟩
end
end Gv
