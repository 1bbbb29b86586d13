/- A part of the proof that the law is true of all its inputs, by an interpreter that is proved sound. -/
import Derived.Test.YtfaeljmkbadgdaaGreatEc
namespace Gv
open Go (IntKind BinOp UnOp)
mutual
def aO:PV->PV
  |.nils=>.lst [] false
  |.lst es _=>.lst (aB es) false
  |.lptr cs=>.lptr (aB cs)
  |.agg cs=>.agg (aB cs)
  |.tup cs=>.tup (aB cs)
  |.fn f cs=>.fn f (aB cs)
  |v=>v
def aB:List PV->List PV
  |[]=>[]
  |x::xs=>aO x::aB xs
end
inductive X where
  |v (n:Nat)
  |int (k:IntKind) (n:Int)
  |boo (b:Bool)
  |str (s:List UInt8)
  |nilp
  |nilfn
  |nl
  |cn (a l:X)
  |agg (l:X)
  |lst (l:X)
  |lp (l:X)
  |tup (l:X)
  |fn (f:Nat) (l:X)
  |bin (op:BinOp) (a b:X)
  |un (op:UnOp) (a:X)
  |toInt (k:IntKind) (a:X)
  |eqs (neg:Bool) (ks:List Bool) (a b:X)
  |eqb (neg:Bool) (a b:X)
  |eqn (k:Nat) (neg:Bool) (a b:X)
  |len (a:X)
  |lenS (a:X)
  |fld (sz:Option Nat) (a:X) (o:Nat)
  |ld (sz:Option Nat) (a:X) (o:Nat)
  |ia (sz:Nat) (a i:X)
  |fa (a:X) (o:Nat)
  |iaa (n sz:Nat) (a i:X)
  |slice (sz:Nat) (a lo hi mx:X)
  |app (sz:Nat) (a b:X)
  |mks (sz:Nat) (z n:X)
  |ite (c a b:X)
  |gd (c:X) (p:Bool) (e:X)
  |b2s (a:X)
  |s2b (a:X)
  |mm (b:Bool) (l:X)
  |ext (a:X) (i:Nat)
  |upd (sz:Option Nat) (a i:X) (o:Nat) (e:X)
  |chk (sz:Option Nat) (e:X)
  |pos (a:X)
  |nck (a:X)
  deriving DecidableEq,Inhabited
abbrev Env:=Nat->PV
def bT:PV->Option (List PV)
  |.tup l=>some l
  |_=>none
def cB:PV->Option PV
  |.lst es _=>some (.int .i64 es.length)
  |_=>none
def mE:PV->Option (Option PV)
  |.tup []=>some none
  |.int k n=>some (some (.int k n))
  |_=>none
def gb(sz:Nat)(x lo hi mx:PV):Option PV:=
  match mE lo,mE hi,mE mx with
  | some lo,some hi,some mx=>match x with
    |.lst es _=>if sz=0∨(mx.isSome&&hi.isNone)=true then none else(dt sz es false lo hi mx).map aO
    |.str s=>if sz=0 then(if mx.isSome then none else rP s lo hi)else none
    |_=>none
  |_,_,_=>none
def nE(sz:Nat)(x y:PV):Option PV:=
  match x,y with
  |.lst xs _,.lst ys _=>if cC sz ys/\xs.length+ys.length<bG then some (.lst (xs++ys) false)else none
  |.lst xs _,.str s=>if sz=1/\xs.length+s.length<bG then some (.lst (xs++s.map λb=>PV.int .u8 b.toNat) false)else none
  |_,_=>none
def G8(sz:Nat)(z n:PV):Option PV:=
  match n with
  |.int _ n=>if 0<=n/\n<bG/\z.cells.length=sz/\aj z.cells then some (.lst (List.replicate n.toNat z) false)else none
  |_=>none
def DB:PV->Option PV
  |.lst es _=>(eN es).map PV.str
  |_=>none
def Ht:PV->Option PV
  |.str l=>if l.length<bG then some (.lst (l.map λb=>PV.int .u8 b.toNat) false)else none
  |_=>none
def BP(b:Bool):List PV->Option PV
  |[]=>none
  |y::ys=>mP b y ys
def DR( sz:Option Nat)(x i:PV)(o:Nat)(e:PV):Option PV:=
  match x,i with
  | .lst es _,.int _ n=>if 0<=n/\n<es.length then match es[n.toNat]? with
      |some y=>if e.fits sz/\aj e.cells/\o+e.cells.length<=y.cells.length
          then some (.lst (es.set n.toNat (y.withCells (y.cells.take o++e.cells++y.cells.drop (o+e.cells.length)))) false)else none
      |none=>none
    else none
  |_,_=>none
def mM(cs:List PV)(o:Nat)(sz:Option Nat):Option PV:=match dD cs o sz with|some x=>if x.fits sz then some x else none|none=>none
def Cw(sz:Option Nat)(o:Nat):PV->Option PV
  |.lptr cs=>mM cs o sz
  |_=>none
def tV(sz:Option Nat)(o:Nat):PV->Option PV
  |.agg cs=>mM cs o sz
  |_=>none
def Ef(i:Nat):PV->Option PV
  |.tup vs=>vs[i]?
  |_=>none
def FN:PV->Option PV
  |.lptr cs=>some (.lptr cs)
  |.fn f cs=>some (.fn f cs)
  |_=>none
def Ho:PV->Option PV
  |.lst (e::es) c=>some (.lst (e::es) c)
  |_=>none
def D2(sz:Option Nat)(x:PV):Option PV:=if x.fits sz/\aj x.cells then some x else none
def kR(k:IntKind):PV->Option PV
  |.int _ n=>some (.int k (k.wrap n))
  |_=>none
def ou(neg:Bool)(ks:List Bool)(x y:PV):Option PV:=
  match x,y with
  |.agg xs,.agg ys=>match aK ks xs ys with|some b=>some (.bool (if neg then !b else b))|none=>none
  |_,_=>none
def JX(f:Nat)(l:PV):Option PV:=(bT l).map (PV.fn f)
def af{α β:Type}(x:Option α)(f:α->Option β):Option β:=match x with|some a=>f a|none=>none
@[simp] theorem ac {α β:Type} (a:α) (f:α->Option β):af (some a) f=f a:=rfl
@[simp] theorem nP {α β:Type} (f:α->Option β):af (none:Option α) f=none:=rfl
def X.ev(env:Env):X->Option PV
  |.v n=>some (env n)
  |.int k n=>some (.int k n)
  |.boo b=>some (.bool b)
  |.str s=>some (.str s)
  |.nilp=>some .nilp
  |.nilfn=>some .nilfn
  |.nl=>some (.tup [])
  |.cn a l=>af (a.ev env) λx=>af (l.ev env) λy=>match y with|.tup xs=>some (.tup (x::xs))|_=>none
  |.agg l=>af (l.ev env) λy=>af (bT y) λxs=>if aj xs then some (.agg xs)else none
  |.lst l=>af (l.ev env) λy=>af (bT y) λxs=>some (.lst xs false)
  |.lp l=>af (l.ev env) λy=>af (bT y) λxs=>if aj xs then some (.lptr xs)else none
  |.tup l=>af (l.ev env) λy=>af (bT y) λxs=>some (.tup xs)
  |.fn f l=>af (l.ev env) λy=>JX f y
  |.bin op a b=>af (a.ev env) λx=>af (b.ev env) λy=>Gv.bin op x y
  |.un op a=>af (a.ev env) λx=>Gv.un op x
  |.toInt k a=>af (a.ev env) λx=>kR k x
  |.eqs neg ks a b=>af (a.ev env) λx=>af (b.ev env) λy=>ou neg ks x y
  |.eqb neg a b=>af (a.ev env) λx=>af (b.ev env) λy=>Gv.eqb neg x y
  |.eqn k neg a b=>af (a.ev env) λx=>af (b.ev env) λy=>if k=0 then none else Gv.eqn k neg x y
  |.len a=>af (a.ev env) cB
  |.lenS a=>af (a.ev env) nV
  |.fld sz a o=>af (a.ev env) (tV sz o)
  |.ld sz a o=>af (a.ev env) (Cw sz o)
  |.ia sz a i=>af (a.ev env) λx=>af (i.ev env) λy=>au sz x y
  |.fa a o=>af (a.ev env) λx=>bl x o
  |.iaa n sz a i=>af (a.ev env) λx=>af (i.ev env) λy=>jJ n sz x y
  |.slice sz a lo hi mx=>af (a.ev env) λx=>af (lo.ev env) λl=>af (hi.ev env) λh=>af (mx.ev env) λm=>gb sz x l h m
  |.app sz a b=>af (a.ev env) λx=>af (b.ev env) λy=>nE sz x y
  |.mks sz z n=>af (z.ev env) λx=>af (n.ev env) λy=>G8 sz x y
  |.ite c a b=>af (c.ev env) λy=>match y with|.bool true=>a.ev env|.bool false=>b.ev env|_=>none
  |.gd c p e=>af (c.ev env) λy=>match y with|.bool q=>if q=p then e.ev env else some (.tup [])|.tup []=>some (.tup [])|_=>none
  |.b2s a=>af (a.ev env) DB
  |.s2b a=>af (a.ev env) Ht
  |.mm b l=>af (l.ev env) λy=>af (bT y) (BP b)
  |.ext a i=>af (a.ev env) (Ef i)
  |.upd sz a i o e=>af (a.ev env) λx=>af (i.ev env) λy=>af (e.ev env) λz=>DR sz x y o z
  |.chk sz e=>af (e.ev env) (D2 sz)
  |.pos a=>af (a.ev env) Ho
  |.nck a=>af (a.ev env) FN
def X.ment(p:Nat->Bool):X->Bool
  |.v n=>p n
  |.cn a b|.bin _ a b|.eqs _ _ a b|.eqb _ a b|.eqn _ _ a b|.ia _ a b|.iaa _ _ a b|.app _ a b|.mks _ a b|.gd a _ b=>a.ment p||b.ment p
  |.agg a|.lst a|.lp a|.tup a|.fn _ a|.un _ a|.toInt _ a|.len a|.lenS a|.fld _ a _|.ld _ a _|.fa a _|.b2s a|.s2b a|.mm _ a|.ext a _|.chk _ a|.pos a|.nck a=>a.ment p
  |.slice _ a b c d=>a.ment p||b.ment p||c.ment p||d.ment p
  |.ite a b c|.upd _ a b _ c=>a.ment p||b.ment p||c.ment p
  |_=>false
theorem X.ev_ment{p:Nat->Bool}{e1 e2:Env}(h:∀n,p n=false->e1 n=e2 n):∀{x:X},x.ment p=false->x.ev e1=x.ev e2:=by
  intro x;induction x<;>intro hm<;>simp only[X.ment,Bool.or_eq_false_iff]at hm<;>simp only[X.ev]
  case v n=>rw[h n hm]
  all_goals simp_all
def dn(e:X):X->Bool
  |.cn a b=>decide (e=.cn a b)||dn e a||dn e b
  |.bin o a b=>decide (e=.bin o a b)||dn e a||dn e b
  |.eqs n k a b=>decide (e=.eqs n k a b)||dn e a||dn e b
  |.eqb n a b=>decide (e=.eqb n a b)||dn e a||dn e b
  |.eqn k n a b=>decide (e=.eqn k n a b)||dn e a||dn e b
  |.ia k a b=>decide (e=.ia k a b)||dn e a||dn e b
  |.iaa k l a b=>decide (e=.iaa k l a b)||dn e a||dn e b
  |.app k a b=>decide (e=.app k a b)||dn e a||dn e b
  |.mks k a b=>decide (e=.mks k a b)||dn e a||dn e b
  |.gd a p b=>decide (e=.gd a p b)||dn e a
  |.agg a=>decide (e=.agg a)||dn e a
  |.lst a=>decide (e=.lst a)||dn e a
  |.lp a=>decide (e=.lp a)||dn e a
  |.tup a=>decide (e=.tup a)||dn e a
  |.fn f a=>decide (e=.fn f a)||dn e a
  |.un o a=>decide (e=.un o a)||dn e a
  |.toInt k a=>decide (e=.toInt k a)||dn e a
  |.len a=>decide (e=.len a)||dn e a
  |.lenS a=>decide (e=.lenS a)||dn e a
  |.fld s a o=>decide (e=.fld s a o)||dn e a
  |.ld s a o=>decide (e=.ld s a o)||dn e a
  |.fa a o=>decide (e=.fa a o)||dn e a
  |.b2s a=>decide (e=.b2s a)||dn e a
  |.s2b a=>decide (e=.s2b a)||dn e a
  |.mm b a=>decide (e=.mm b a)||dn e a
  |.ext a i=>decide (e=.ext a i)||dn e a
  |.chk s a=>decide (e=.chk s a)||dn e a
  |.pos a=>decide (e=.pos a)||dn e a
  |.nck a=>decide (e=.nck a)||dn e a
  |.slice s a b c d=>decide (e=.slice s a b c d)||dn e a||dn e b||dn e c||dn e d
  |.ite a b c=>decide (e=.ite a b c)||dn e a
  |.upd s a b o c=>decide (e=.upd s a b o c)||dn e a||dn e b||dn e c
  |x=>decide (e=x)
theorem bP{α β:Type}{x:Option α}{f:α->Option β}(h:(af x f).isSome=true):x.isSome=true/\∃a,x=some a/\(f a).isSome=true:=by
  cases x with
  |none=>simp at h
  |some a=>exact⟨rfl,a,rfl,h⟩
theorem Ch{env:Env}{e:X}:∀{x:X},dn e x=true->(x.ev env).isSome=true->(e.ev env).isSome=true:=by
  intro x;induction x<;>intro hs hv<;>simp only[dn,Qt,PG]at hs
  case ite a b c iha ihb ihc=>
    rcases hs with rfl|hs
    ·exact hv
    ·simp only[X.ev]at hv;exact iha hs (bP hv).1
  case gd a p b iha ihb=>
    rcases hs with rfl|hs
    ·exact hv
    ·simp only[X.ev]at hv;exact iha hs (bP hv).1
  case slice s a b c d iha ihb ihc ihd=>
    rcases hs with(((rfl|hs)|hs)|hs)|hs
    ·exact hv
    all_goals
      simp only[X.ev]at hv;obtain⟨h1,x,_,h2⟩:=bP hv;obtain⟨h3,y,_,h4⟩:=bP h2;obtain⟨h5,z,_,h6⟩:=bP h4;obtain⟨h7,u,_,_⟩:=bP h6
    ·exact iha hs h1
    ·exact ihb hs h3
    ·exact ihc hs h5
    ·exact ihd hs h7
  case upd s a b o c iha ihb ihc=>
    rcases hs with((rfl|hs)|hs)|hs
    ·exact hv
    all_goals
      simp only[X.ev]at hv;obtain⟨h1,x,_,h2⟩:=bP hv;obtain⟨h3,y,_,h4⟩:=bP h2;obtain⟨h5,z,_,h6⟩:=bP h4
    ·exact iha hs h1
    ·exact ihb hs h3
    ·exact ihc hs h5
  all_goals first
    |(subst hs;exact hv)
    |( rename_i iha ihb
       rcases hs with(rfl|hs)|hs
       ·exact hv
       ·simp only[X.ev]at hv;exact iha hs (bP hv).1
       · simp only[X.ev]at hv
         obtain⟨h1,x,_,h2⟩:=bP hv;exact ihb hs (bP h2).1)
    |( rename_i iha
       rcases hs with rfl|hs
       ·exact hv
       ·simp only[X.ev]at hv;exact iha hs (bP hv).1)
inductive VS where
  |asg (needs:List X) (binds:List (Nat×X))
  |call (needs:List X) (g:Option (X×Bool)) (d:Nat) (f:Nat) (args:List X) (outs:List Nat)
  |callv (needs:List X) (g:Option (X×Bool)) (d:Nat) (f:X) (args:List X)
inductive VC where
  |skip
  |st (l:List VS)
  |seq (a b:VC)
  |cond (c:X) (a b:VC)
  |block (id:Nat) (c:VC)
  |loop (c:VC)
  |exit (id:Nat)
  |ret (r:X) (outs:List X)
inductive K where
  |F
  |O (sz:Nat) (wf:Bool)
  |Q
  |B (ro:Bool) (cs:List K)
  |A (cs:List K)
  |T (cs:List K)
structure Sig where
  ps:List K
  r:K
  scal:Bool
structure ax where
  sig:Sig
  binds:List (Nat×X)
  body:VC
abbrev bK:=Nat->List PV->Option (PV×List PV)
def Env.set(env:Env)(n:Nat)(v:PV):Env:=λi=>if i=n then v else env i
@[simp] theorem Env.set_at (env:Env) (n i:Nat) (v:PV):env.set n v i=if i=n then v else env i:=rfl
def Env.sets(env:Env):List Nat->List PV->Env
  |n::ns,v::vs=>(env.set n v).sets ns vs
  |_,_=>env
def eO(env:Env):List X->Option (List PV)
  |[]=>some []
  |x::xs=>af (x.ev env) λv=>af (eO env xs) λvs=>some (v::vs)
def bW(env:Env):List (Nat×X)->Env->Option Env
  |[],out=>some out
  |(n,x)::bs,out=>af (x.ev env) λv=>bW env bs (out.set n v)
def ao(env:Env):List X->Bool
  |[]=>true
  |x::xs=>(x.ev env).isSome&&ao env xs
def eg(env:Env):Option (X×Bool)->Option Bool
  |none=>some true
  | some (g,p)=>match g.ev env with
    |some (.bool q)=>some (q==p)
    |some (.tup [])=>some false
    |_=>none
def VS.run(C:bK)(V:Nat->List PV->List PV->Bool)(env:Env):VS->Option Env
  |.asg needs binds=>if ao env needs then bW env binds env else none
  | .call needs g d f args outs=>if ao env needs then
      match eg env g with
      |some true=>af (eO env args) λvs=>af (C f vs) λr=>if r.2.length=outs.length then some ((env.set d r.1).sets outs r.2)else none
      |some false=>some (env.set d (.tup []))
      |none=>none
    else none
  | .callv needs g d f args=>if ao env needs then
      match eg env g with
      | some true=>af (f.ev env) λfv=>match fv with
        |.fn k caps=>af (eO env args) λvs=>if V k vs caps then af (C k (vs++caps)) λr=>some (env.set d r.1)else none
        |_=>none
      |some false=>some (env.set d (.tup []))
      |none=>none
    else none
def dp(C:bK)(V:Nat->List PV->List PV->Bool)(env:Env):List VS->Option Env
  |[]=>some env
  |s::ss=>af (s.run C V env) λenv=>dp C V env ss
inductive ti where
  |norm (env:Env)
  |exit (id:Nat) (env:Env)
  |ret (r:PV) (outs:List PV)
def dS(f:Env->Option ti):Nat->Env->Option ti
  |0,_=>none
  | n+1,env=>match f env with
    |some (.norm env')=>dS f n env'
    |r=>r
def zq:Nat:=1099511627776
def aF(C:bK)(V:Nat->List PV->List PV->Bool):VC->Env->Option ti
  |.skip,env=>some (.norm env)
  |.st l,env=>match dp C V env l with|some env=>some (.norm env)|none=>none
  | .seq a b,env=>match aF C V a env with
    |some (.norm env)=>aF C V b env
    |r=>r
  | .cond c a b,env=>match c.ev env with
    |some (.bool true)=>aF C V a env
    |some (.bool false)=>aF C V b env
    |_=>none
  | .block id c,env=>match aF C V c env with
    |some (.exit i env)=>if i=id then some (.norm env)else some (.exit i env)
    |r=>r
  |.loop c,env=>dS (aF C V c) zq env
  |.exit id,env=>some (.exit id env)
  |.ret r outs,env=>af (r.ev env) λx=>af (eO env outs) λos=>some (.ret x os)
def fW:PV->Bool
  |.int .. |.bool _|.str _|.nilp|.nilfn=>true
  |.tup vs=>vs.all λ |.int .. |.bool _|.str _|.nilp|.nilfn=>true|_=>false
  |_=>false
def Env.ofArgs(vs:List PV):Env:=λi=>(vs[i]?).getD .junk
def ny:List K->Bool
  |[]=>true
  |.F::ks=>ny ks
  |_=>false
def vOk:List K->Nat->List PV->Bool
  |[],0,[]=>true
  |.F::ks,n+1,cs=>vOk ks n cs
  |.B true bs::ks,0,.lptr l::cs=>ny bs&&l.length==bs.length&&vOk ks 0 cs
  |.B true _::_,0,_::_=>false
  |.F::_,0,.lptr _::_=>false
  |.F::ks,0,_::cs=>vOk ks 0 cs
  |_,_,_=>false
def bc(VT:Nat->Option ax)(f:Nat)(vs caps:List PV):Bool:=match VT f with|some F=>vOk F.sig.ps vs.length caps&&(match F.sig.r with|.F=>F.sig.scal|_=>false)|none=>false
def Ow:K->Bool
  |.O _ _=>true
  |_=>false
def ta:PV->Bool
  |.lst es _=>es.all λ |.int .. |.bool _|.str _|.nilp|.nilfn=>true|_=>false
  |_=>false
def ak(VT:Nat->Option ax):Nat->bK
  |0,_,_=>none
  | m+1,f,vs=>match VT f with
    |none=>none
    | some F=>af (bW (Env.ofArgs vs) F.binds (Env.ofArgs vs)) λenv=>match aF (ak VT m) (bc VT) F.body env with
      |some (.ret r os)=>if F.sig.ps.length=vs.length/\(F.sig.scal=false∨fW r=true∨(Ow F.sig.r&&ta r)=true)then some (r,os)else none
      |_=>none
mutual
def pl:PV->Bool
 |.lst es _=>bX es
 |.lptr cs=>aj cs&&bX cs
 |.agg cs=>aj cs&&bX cs
 |.fn _ cs=>cs.isEmpty
 |.tup _|.tok .. |.ptr .. |.junk=>false
 |_=>true
def bX:List PV->Bool
 |[]=>true
 |x::xs=>pl x&&bX xs
end
theorem gh:∀l:List PV,aB l=l.map aO
 |[]=>rfl
 |x::xs=>by simp only[aB,PM,gh xs]
theorem it:∀{l:List PV},bX l=true↔∀x∈l,pl x=true
 |[]=>by simp[bX]
 |x::xs=>by simp[bX,it (l:=xs)]
theorem aQ(l:List PV):(aB l).length=l.length:=by rw[gh,PU]
theorem i7(v:PV):(aO v).cells=aB v.cells:=by cases v<;>simp[aO,PV.cells,aB]
theorem gm(v:PV):(aO v).cells.length=v.cells.length:=by rw[i7,aQ]
theorem Bl(v:PV):(aO v).isCell=v.isCell:=by cases v<;>rfl
theorem dE:∀l:List PV,aj (aB l)=aj l
 |[]=>rfl
 |x::xs=>by simp only[aB,aj,Bl,dE xs]
theorem oS(v:PV)(sz:Option Nat):(aO v).fits sz=v.fits sz:=by
 cases sz<;>cases v<;>simp[aO,PV.fits,aQ]
theorem oM{l:List PV}{i:Nat}:(aB l)[i]?=(l[i]?).map aO:=by rw[gh,Pk]
theorem ry{l:List PV}(h:bX l=true){i:Nat}{x:PV}(hi:l[i]?=some x):pl x=true:=it.1 h x (Pl hi)
theorem cX{l:List PV}(h:bX l=true)(n:Nat):bX (l.drop n)=true:=it.2 λx hx=>it.1 h x (Qn hx)
theorem du{l:List PV}(h:bX l=true)(n:Nat):bX (l.take n)=true:=it.2 λx hx=>it.1 h x (Qo hx)
theorem ki{l m:List PV}:bX (l++m)=(bX l&&bX m):=by
 induction l with
 |nil=>simp[bX]
 |cons x xs ih=>simp[bX,ih,Bool.and_assoc]
theorem iW(l:List PV)(n:Nat):aB (l.drop n)=(aB l).drop n:=by simp only[gh,List.map_drop]
theorem kC(l:List PV)(n:Nat):aB (l.take n)=(aB l).take n:=by simp only[gh,List.map_take]
theorem mZ(l m:List PV):aB (l++m)=aB l++aB m:=by simp only[gh,QR]
theorem jD:∀{l:List PV},aj l=true↔∀x∈l,x.isCell=true
 |[]=>by simp[aj]
 |x::xs=>by simp[aj,jD (l:=xs)]
theorem ej{l:List PV}(h:aj l=true)(n:Nat):aj (l.drop n)=true:=jD.2 λx hx=>jD.1 h x (Qn hx)
theorem fT{l:List PV}(h:aj l=true)(n:Nat):aj (l.take n)=true:=jD.2 λx hx=>jD.1 h x (Qo hx)
theorem oZ{l m:List PV}:aj (l++m)=(aj l&&aj m):=by
 induction l with
 |nil=>simp[aj]
 |cons x xs ih=>simp[aj,ih,Bool.and_assoc]
theorem ox{v:PV}(h:pl v=true):bX v.cells=true:=by
 cases v<;>simp_all [pl,PV.cells,bX]
mutual
theorem HB:∀(v:PV),aO (aO v)=aO v
 |.lst es _=>by simp only[aO,fF]
 |.lptr cs=>by simp only[aO,fF]
 |.agg cs=>by simp only[aO,fF]
 |.tup cs=>by simp only[aO,fF]
 |.fn _ cs=>by simp only[aO,fF]
 |.tok .. =>rfl
 |.ptr .. =>rfl
 |.junk=>rfl
 |.int .. =>rfl
 |.bool _=>rfl
 |.str _=>rfl
 |.nils=>rfl
 |.nilp=>rfl
 |.nilfn=>rfl
theorem fF:∀(l:List PV),aB (aB l)=aB l
 |[]=>rfl
 |x::xs=>by simp only[aB,HB,fF]
end
mutual
theorem nS:∀{v:PV},pl v=true->∀f:aq->Nat->Option (aq×Nat),ren f v=v/\kt v=[]
 |.lst es _,h,f=>⟨rfl,rfl⟩
 |.lptr cs,h,f=>⟨rfl,rfl⟩
 |.agg cs,h,f=>by
  simp only[pl,O6]at h;have:=fL h.2 f;exact⟨by simp only[ren,this.1],by simp only[kt,this.2]⟩
 |.tup cs,h,f=>by simp[pl]at h
 |.fn _ cs,h,f=>by
  simp only[pl,Qk]at h;subst h;exact⟨rfl,rfl⟩
 |.tok ..,h,_=>by simp[pl]at h
 |.ptr ..,h,_=>by simp[pl]at h
 |.junk,h,_=>by simp[pl]at h
 |.int ..,_,_=>⟨rfl,rfl⟩
 |.bool _,_,_=>⟨rfl,rfl⟩
 |.str _,_,_=>⟨rfl,rfl⟩
 |.nils,_,_=>⟨rfl,rfl⟩
 |.nilp,_,_=>⟨rfl,rfl⟩
 |.nilfn,_,_=>⟨rfl,rfl⟩
theorem fL:∀{l:List PV},bX l=true->∀f:aq->Nat->Option (aq×Nat),co f l=l/\bi l=[]
 |[],_,f=>⟨rfl,rfl⟩
 |x::xs,h,f=>by
  simp only[bX,O6]at h;have h1:=nS h.1 f;have h2:=fL h.2 f;exact⟨by simp only[co,h1.1,h2.1],by simp only[bi,h1.2,h2.2,Pi]⟩
end
theorem Dy:∀{v:PV},pl v=true->fN v=true:=by
 have key:∀{l:List PV},(∀x∈l,fN x=true)->dv l=true:=by
  intro l h;induction l with
  |nil=>rfl
  |cons x xs ih=>simp only[dv,h x (Pj ..),ih (λy hy=>h y (Pe _ hy)),PE]
 intro v;apply PV.rec (motive_1:=λv=>pl v=true->fN v=true) (motive_2:=λl=>bX l=true->dv l=true)<;>intros<;>simp_all [pl,bX,fN,dv]
theorem Bv{l:List PV}(h:bX l=true):dv l=true:=by
 induction l with
 |nil=>rfl
 |cons x xs ih=>
  simp only[bX,O6]at h;simp only[dv,Dy h.1,ih h.2,PE]
theorem xQ{v:PV}(h:pl v=true)(hc:v.isCell=true)(n:Nat):bR (n+1) v=.ret (v,[]):=by
 cases v<;>first|rfl|(simp[pl]at h;done)|(simp[PV.isCell]at hc;done)
theorem wt:∀{cs:List PV},aj cs=true->bX cs=true->∀n,qh (bR (n+1)) cs=.ret (cs,[])
 |[],_,_,n=>rfl
 |c::cs,h,hp,n=>by
  simp only[aj,bX,O6]at h hp;rw[qh,xQ hp.1 h.1];show(qh (bR (n+1)) cs).bind _=_;rw[wt h.2 hp.2];rfl
theorem np{v:PV}(h:pl v=true)(n:Nat):bR (n+2) v=.ret (v,[]):=by
 cases v with
 |agg cs=>
  simp only[pl,O6]at h;show(qh (bR (n+1)) cs).bind _=_;rw[wt h.1 h.2];rfl
 |_=>first|rfl|(simp[pl]at h;done)
theorem CI:∀{l:List PV},bX l=true->∀n,qh (bR (n+2)) l=.ret (l,[])
 |[],_,n=>rfl
 |c::cs,h,n=>by
  simp only[bX,O6]at h;rw[qh,np h.1];show(qh (bR (n+2)) cs).bind _=_;rw[CI h.2];rfl
theorem yh{v:PV}(h:pl v=true)(hc:v.isCell=true)(n:Nat):bp (n+1) v=.ret v:=by
 cases v with
 |fn f cs=>simp only[pl,Qk]at h;subst h;rfl
 |_=>first|rfl|(simp[pl]at h;done)|(simp[PV.isCell]at hc;done)
theorem wk:∀{cs:List PV},aj cs=true->bX cs=true->∀n,HM.mapM (bp (n+1)) cs=.ret cs
 |[],_,_,n=>rfl
 |c::cs,h,hp,n=>by
  simp only[aj,bX,O6]at h hp;rw[HM.mapM,yh hp.1 h.1];show(HM.mapM (bp (n+1)) cs).bind _=_;rw[wk h.2 hp.2];rfl
theorem mi{v:PV}(h:pl v=true)(n:Nat):bp (n+2) v=.ret v:=by
 cases v with
 |agg cs=>
  simp only[pl,O6]at h;show(HM.mapM (bp (n+1)) cs).bind _=_;rw[wk h.1 h.2];rfl
 |fn f cs=>simp only[pl,Qk]at h;subst h;rfl
 |_=>first|rfl|(simp[pl]at h;done)
theorem qJ:∀{l:List PV},bX l=true->∀n,HM.mapM (bp (n+2)) l=.ret l
 |[],_,n=>rfl
 |c::cs,h,n=>by
  simp only[bX,O6]at h;rw[HM.mapM,mi h.1];show(HM.mapM (bp (n+2)) cs).bind _=_;rw[qJ h.2];rfl
def DW(m:Option PV)(x:PV):Prop:=∃v,m=some v/\pl v=true/\aO v=x
theorem en{v:PV}{k:IntKind}{n:Int}(h:aO v=.int k n):v=.int k n:=by cases v<;>simp_all [aO]
theorem gu{v:PV}{b:Bool}(h:aO v=.bool b):v=.bool b:=by cases v<;>simp_all [aO]
theorem pq{v:PV}{s:List UInt8}(h:aO v=.str s):v=.str s:=by cases v<;>simp_all [aO]
theorem Ap{v:PV}(h:aO v=.nilp):v=.nilp:=by cases v<;>simp_all [aO]
theorem w6{v:PV}(h:aO v=.nilfn):v=.nilfn:=by cases v<;>simp_all [aO]
theorem yQ{v:PV}{cs:List PV}(h:aO v=.agg cs):∃l,v=.agg l/\cs=aB l:=by cases v<;>simp_all [aO]
theorem Dl{v:PV}{cs:List PV}(h:aO v=.tup cs):∃l,v=.tup l/\cs=aB l:=by cases v<;>simp_all [aO]
theorem uD{v:PV}{cs:List PV}(h:aO v=.lptr cs):∃l,v=.lptr l/\cs=aB l:=by cases v<;>simp_all [aO]
theorem Bx{v:PV}{f:Nat}{cs:List PV}(h:aO v=.fn f cs):∃l,v=.fn f l/\cs=aB l:=by cases v<;>simp_all [aO]
theorem rH{v:PV}{es:List PV}{c:Bool}(h:aO v=.lst es c):c=false/\((v=.nils/\es=[])∨∃l c0,v=.lst l c0/\es=aB l):=by cases v<;>simp_all [aO]
theorem xo{op:BinOp}{k k':IntKind}{a b:Int}{x:PV}(h:aY op k a k' b=some x):pl x=true/\aO x=x:=by
 unfold aY at h;split at h
 ·split at h
  ·cases h
  ·cases h;exact⟨rfl,rfl⟩
 ·split at h
  ·cases h
  ·cases h;exact⟨rfl,rfl⟩
 ·split at h
  ·cases h
  ·split at h<;>first|(split at h<;>first|(cases h;exact⟨rfl,rfl⟩)|(cases h;done))|(cases h;exact⟨rfl,rfl⟩)|(cases h;done)
theorem JL{op:BinOp}{v w x:PV}(h:bin op (aO v) (aO w)=some x):DW (bin op v w) x:=by
 cases hv:aO v<;>rw[hv]at h<;>try(simp[bin]at h;done)
 ·cases hw:aO w<;>rw[hw]at h<;>try(simp[bin]at h;done)
  rw[en hv,en hw];have:=xo (by simpa[bin]using h);exact⟨x,h,this.1,this.2⟩
 ·cases hw:aO w<;>rw[hw]at h<;>try(simp[bin]at h;done)
  rw[pq hv,pq hw];refine⟨x,h,?_⟩;simp only[bin]at h;split at h<;>first|(cases h;exact⟨rfl,rfl⟩)|(split at h<;>first|(cases h;exact⟨rfl,rfl⟩)|(cases h;done))|(cases h;done)
theorem Mg{op:UnOp}{v x:PV}(h:un op (aO v)=some x):DW (un op v) x:=by
 unfold un at h;split at h
 ·rename_i k n he;rw[en he];cases h;exact⟨_,rfl,rfl,rfl⟩
 ·rename_i k n he;rw[en he];have:=xo h;exact⟨x,h,this.1,this.2⟩
 ·rename_i b he;rw[gu he];cases h;exact⟨_,rfl,rfl,rfl⟩
 ·cases h
theorem Gl{k:IntKind}{v x:PV}(h:kR k (aO v)=some x):t8 k v=.ret x/\pl x=true/\aO x=x:=by
 cases hv:aO v<;>rw[hv]at h<;>try(simp[kR]at h;done)
 rw[en hv];simp only[kR,O5]at h;subst h;exact⟨rfl,rfl,rfl⟩
theorem qq:∀{ks:List Bool}{xs ys:List PV}{b:Bool},aK ks (aB xs) (aB ys)=some b->aK ks xs ys=some b
 |[],[],[],b,h=>h
 |[],x::xs,ys,b,h=>by simp[aB,aK]at h
 |[],[],y::ys,b,h=>by simp[aB,aK]at h
 |k::ks,[],ys,b,h=>by cases k<;>simp[aB,aK]at h
 |k::ks,x::xs,[],b,h=>by cases k<;>simp[aB,aK]at h
 | false::ks,x::xs,y::ys,b,h=>by
  simp only[aB]at h;cases hx:aO x<;>rw[hx]at h<;>try(simp[aK]at h;done)
  cases hy:aO y<;>rw[hy]at h<;>try(simp[aK]at h;done)
  rw[en hx,en hy];simp only[aK]at h⊢;split at h
  ·cases h
  ·rename_i hk;rw[Pd hk];cases he:aK ks (aB xs) (aB ys)with
   |none=>rw[he]at h;cases h
   |some r=>rw[he]at h;rw[qq he];exact h
 |true::ks,x::xs,y::ys,b,h=>by
  simp only[aB]at h;cases hx:aO x<;>rw[hx]at h<;>try(simp[aK]at h;done)
  cases hy:aO y<;>rw[hy]at h<;>try(simp[aK]at h;done)
  rw[gu hx,gu hy];simp only[aK]at h⊢;cases he:aK ks (aB xs) (aB ys)with
  |none=>rw[he]at h;cases h
  |some r=>rw[he]at h;rw[qq he];exact h
theorem Jp{neg:Bool}{ks:List Bool}{v w x:PV}(h:ou neg ks (aO v) (aO w)=some x):zm neg ks v w=.ret x/\pl x=true/\aO x=x:=by
 cases hv:aO v<;>rw[hv]at h<;>try(simp[ou]at h;done)
 cases hw:aO w<;>rw[hw]at h<;>try(simp[ou]at h;done)
 obtain⟨l,rfl,rfl⟩:=yQ hv;obtain⟨m,rfl,rfl⟩:=yQ hw;simp only[ou]at h;split at h
 ·rename_i b hb;cases h;refine⟨?_,rfl,rfl⟩;simp only[zm,qq hb]
 ·cases h
theorem Jm{neg:Bool}{v w x:PV}(h:eqb neg (aO v) (aO w)=some x):DW (eqb neg v w) x:=by
 cases hv:aO v<;>rw[hv]at h<;>try(simp[eqb]at h;done)
 cases hw:aO w<;>rw[hw]at h<;>try(simp[eqb]at h;done)
 rw[gu hv,gu hw];refine⟨x,h,?_⟩;simp only[eqb,O5]at h;subst h;exact⟨rfl,rfl⟩
theorem C9{v:PV}(hp:pl v=true):Br (aO v)=Br v:=by cases v<;>simp_all [aO,Br]
theorem CY{v:PV}(hp:pl v=true):B4 (aO v)=B4 v:=by cases v<;>simp_all [aO,B4]
theorem Kv{k:Nat}{neg:Bool}{v w x:PV}(hp:pl v=true)(hq:pl w=true)(hk:k≠0)(h:eqn k neg (aO v) (aO w)=some x):DW (eqn k neg v w) x:=by
 have hb:pl x=true/\aO x=x:=by
  unfold eqn at h;split at h
  all_goals(split at h<;>first|(simp only[PI]at h;obtain⟨b,_,rfl⟩:=h;exact⟨rfl,rfl⟩)|(cases h;done))
 refine⟨x,?_,hb⟩
 match k,hk with
 | 1,_=>
  simp only[eqn]at h⊢;split at h
  ·rename_i y he;rw[Ap he];simp only;rw[<-C9 hq];exact h
  ·rename_i y h0 he hn;rw[Ap he];have:v≠ .nilp:=by rintro rfl;exact hn rfl
   rw[C9 hp]at h;cases v<;>simp_all
  ·cases h
 | k+2,_=>
  simp only[eqn]at h⊢;split at h
  ·rename_i y he;rw[w6 he];simp only;rw[<-CY hq];exact h
  ·rename_i y h0 he hn;rw[w6 he];have:v≠ .nilfn:=by rintro rfl;exact hn rfl
   rw[CY hp]at h;cases v<;>simp_all
  ·cases h
theorem Kh{v x:PV}(h:cB (aO v)=some x):DW (xf v) x:=by
 cases hv:aO v<;>rw[hv]at h<;>try(simp[cB]at h;done)
 simp only[cB,O5]at h;subst h;obtain⟨_,⟨rfl,rfl⟩|⟨l,c0,rfl,rfl⟩⟩:=rH hv
 ·exact⟨_,rfl,rfl,rfl⟩
 ·refine⟨_,rfl,rfl,?_⟩;rw[aQ];rfl
theorem GS{v x:PV}(h:nV (aO v)=some x):DW (nV v) x:=by
 cases hv:aO v<;>rw[hv]at h<;>try(simp[nV]at h;done)
 rw[pq hv];refine⟨x,h,?_⟩;simp only[nV,O5]at h;subst h;exact⟨rfl,rfl⟩
theorem vu{cs:List PV}(hp:bX cs=true)(ho:aj cs=true){o:Nat}{sz:Option Nat}{x:PV}(h:dD (aB cs) o sz=some x):DW (dD cs o sz) x:=by
 cases sz with
 |none=>
  simp only[dD,oM,PI]at h⊢;obtain⟨v,hv,rfl⟩:=h;exact⟨v,hv,ry hp hv,rfl⟩
 | some n=>
  simp only[dD,aQ]at h;split at h
  ·rename_i hn;cases h;refine⟨.agg ((cs.drop o).take n),by simp only[dD,O9 hn],?_,?_⟩
   ·simp only[pl,fT (ej ho o) n,du (cX hp o) n,PE]
   ·simp only[aO,kC,iW]
  ·cases h
theorem kP{cs:List PV}{o:Nat}{sz:Option Nat}{x:PV}(h:mM cs o sz=some x):dD cs o sz=some x/\x.fits sz=true:=by
 unfold mM at h;split at h
 ·rename_i y hy;split at h
  ·rename_i hf;cases h;exact⟨hy,hf⟩
  ·cases h
 ·cases h
theorem JW{v x:PV}(hp:pl v=true){o:Nat}{sz:Option Nat}(h:tV sz o (aO v)=some x):∃w,nI sz v o=.ret w/\pl w=true/\aO w=x:=by
 cases hv:aO v<;>rw[hv]at h<;>try(simp[tV]at h;done)
 obtain⟨l,rfl,rfl⟩:=yQ hv;simp only[pl,O6]at hp;obtain⟨w,h1,h2,h3⟩:=vu hp.2 hp.1 (kP (by simpa[tV]using h)).1;exact⟨w,by simp only[nI,h1];rfl,h2,h3⟩
theorem Na{v x:PV}(hp:pl v=true){o:Nat}{sz:Option Nat}(h:Cw sz o (aO v)=some x):∃l w,v=.lptr l/\dD l o sz=some w/\pl w=true/\aO w=x:=by
 cases hv:aO v<;>rw[hv]at h<;>try(simp[Cw]at h;done)
 obtain⟨l,rfl,rfl⟩:=uD hv;simp only[pl,O6]at hp;obtain⟨w,h1,h2,h3⟩:=vu hp.2 hp.1 (kP (by simpa[Cw]using h)).1;exact⟨l,w,rfl,h1,h2,h3⟩
theorem rn{v:PV}(hp:pl v=true):aj v.cells=true:=by
 cases v<;>simp_all [pl,PV.cells,aj,PV.isCell]
theorem Me{sz:Nat}{v i x:PV}(hp:pl v=true)(h:au sz (aO v) (aO i)=some x):DW (au sz v i) x:=by
 cases hi:aO i<;>rw[hi]at h<;>try(simp[au]at h;done)
 rename_i k n;rw[en hi];cases hv:aO v<;>rw[hv]at h<;>try(simp[au]at h;done)
 ·obtain⟨_,⟨rfl,rfl⟩|⟨l,c0,rfl,rfl⟩⟩:=rH hv
  ·simp only[au,PT]at h;split at h
   ·omega
   ·cases h
  ·simp only[au,aQ]at h⊢;split at h
   ·rename_i hb;rw[O9 hb];rw[oM]at h;cases he:l[n.toNat]? with
    |none=>rw[he]at h;cases h
    | some e=>
     rw[he]at h;simp only[Py]at h;rw[gm]at h;split at h
     ·rename_i hz;cases h;simp only[O9 hz];have hpe:=ry (by simpa[pl]using hp) he;refine⟨_,rfl,?_,by simp only[aO,i7]⟩;simp only[pl,ox hpe,rn hpe,PE]
     ·cases h
   ·cases h
 ·rename_i r ver sz' off len room c0;cases v<;>simp_all [aO,pl]
theorem I2{v x:PV}(hp:pl v=true){o:Nat}(h:bl (aO v) o=some x):DW (bl v o) x:=by
 cases hv:aO v<;>rw[hv]at h<;>try(simp[bl]at h;done)
 ·cases v<;>simp_all [aO,pl]
 ·obtain⟨l,rfl,rfl⟩:=uD hv;simp only[pl,O6]at hp;simp only[bl,O5]at h;subst h;exact⟨_,rfl,by simp only[pl,ej hp.1,cX hp.2,PE],by simp only[aO,iW]⟩
theorem JV{n sz:Nat}{v i x:PV}(hp:pl v=true)(h:jJ n sz (aO v) (aO i)=some x):DW (jJ n sz v i) x:=by
 cases hi:aO i<;>rw[hi]at h<;>try(simp[jJ]at h;done)
 rw[en hi];simp only[jJ]at h⊢;split at h
 ·rename_i hb;rw[O9 hb];exact I2 hp h
 ·cases h
theorem FA(es:List PV)(sz:Nat):lW (aB es) sz=lW es sz:=by
 cases es with
 |nil=>rfl
 |cons e es=>simp only[aB,lW,gm]
theorem G2{v:PV}{o:Option PV}(h:mE v=some o):(v=.tup []/\o=none)∨∃k n,v=.int k n/\o=some v:=by
 unfold mE at h;split at h<;>simp_all
theorem AN{sz:Nat}{v lo hi mx x:PV}{l h m:Option PV}(hp:pl v=true)(hl:mE lo=some l)(hh:mE hi=some h)(hm:mE mx=some m)(hv:gb sz (aO v) lo hi mx=some x):DW (cV sz v l h m) x:=by
 unfold gb at hv;rw[hl,hh,hm]at hv;simp only at hv;split at hv
 ·rename_i es c he;split at hv
  ·cases hv
  ·rename_i hc;simp only[not_or,Rh]at hc;obtain⟨_,⟨rfl,rfl⟩|⟨es',c0,rfl,rfl⟩⟩:=rH he
   ·simp only[dt,PI]at hv;obtain⟨y,hy,rfl⟩:=hv;have hb:aL ([]:List PV).length h=aL 0 h/\aL ([]:List PV).length m=aL 0 m:=⟨rfl,rfl⟩;rw[hb.1,hb.2]at hy;simp only[cV,PV.isStr,gB,kH,hc.2];have hz:(sz==0)=false:=by simpa using hc.1
    cases h1:aL 0 l<;>rw[h1]at hy<;>try(cases hy;done)
    cases h2:aL 0 h<;>rw[h2]at hy<;>try(cases hy;done)
    cases h3:aL 0 m<;>rw[h3]at hy<;>try(cases hy;done)
    simp only at hy;split at hy
    ·rename_i hb;cases hy;simp only[PT]at hb;have:‹Nat›=0/\‹Nat›=0:=⟨by omega,by omega⟩;refine⟨.nils,?_,rfl,?_⟩
     ·rw[hz];simp;omega
     ·simp[aO,aB]
    ·cases hy
   ·simp only[dt,aQ,FA,PI]at hv;obtain⟨y,hy,rfl⟩:=hv;have hz:(sz==0)=false:=by simpa using hc.1
    simp only[cV,PV.isStr,gB,hc.2,hz,PQ];simp only[dt];cases h1:aL 0 l<;>rw[h1]at hy<;>try(cases hy;done)
    cases h2:aL es'.length h<;>rw[h2]at hy<;>try(cases hy;done)
    cases h3:aL es'.length m<;>rw[h3]at hy<;>try(cases hy;done)
    simp only at hy⊢;split at hy
    ·rename_i hb;cases hy;rw[O9 hb];refine⟨_,rfl,?_,?_⟩
     ·simp only[pl]at hp⊢;exact du (cX hp _) _
     ·simp only[aO,kC,iW,fF]
    ·cases hy
 ·rename_i s he;rw[pq he];split at hv
  ·rename_i hz;subst hz;split at hv
   ·cases hv
   ·rename_i hmx;simp only[Rh]at hmx;refine⟨x,?_,?_⟩
    ·simp only[cV,PV.isStr,O7,PQ,gB,hmx,PX,Ps,PS];exact hv
    ·unfold rP at hv;split at hv
     ·split at hv
      ·cases hv;exact⟨rfl,rfl⟩
      ·cases hv
     ·cases hv
  ·cases hv
 ·cases hv
theorem qn:∀{es:List PV}{l:List UInt8},eN (aB es)=some l->eN es=some l
 |[],l,h=>h
 | e::es,l,h=>by
  simp only[aB]at h;cases he:aO e with
  |int k n=>
   rw[he]at h;rw[en he];cases k<;>try(simp[eN]at h;done)
   simp only[eN]at h⊢;cases hb:eN (aB es)with
   |none=>rw[hb]at h;cases h
   |some r=>rw[hb]at h;rw[qn hb];exact h
  |_=>rw[he]at h;simp[eN]at h
theorem JE{v x:PV}(h:DB (aO v)=some x):xc v=.ret x/\pl x=true/\aO x=x:=by
 cases hv:aO v<;>rw[hv]at h<;>try(simp[DB]at h;done)
 simp only[DB,PI]at h;obtain⟨l,hl,rfl⟩:=h;obtain⟨_,⟨rfl,rfl⟩|⟨es,c0,rfl,rfl⟩⟩:=rH hv
 ·simp only[eN,O5]at hl;subst hl;exact⟨rfl,rfl,rfl⟩
 ·refine⟨?_,rfl,rfl⟩;simp only[xc,PV.isStr,Ps,PS,elems,HM.bind,qn hl]
theorem EJ{b:Bool}{v w x:PV}(h:x7 b v (aO w)=some x):x7 b v w=some x:=by
 cases hw:aO w<;>rw[hw]at h<;>try(cases v<;>simp[x7]at h;done)
 rw[en hw];exact h
theorem Da{b:Bool}:∀{vs:List PV}{v x:PV},mP b v (aB vs)=some x->mP b v vs=some x
 |[],v,x,h=>h
 |w::vs,v,x,h=>by
  simp only[aB,mP]at h⊢;cases h1:x7 b v (aO w)with
  |none=>rw[h1]at h;cases h
  |some z=>rw[h1]at h;rw[EJ h1];exact Da h
theorem w8{b:Bool}:∀{vs:List PV}{v x:PV},mP b v vs=some x->v=x∨∃k n,x=.int k n
 |[],v,x,h=>by simp only[mP,O5]at h;exact .inl h
 | w::vs,v,x,h=>by
  simp only[mP]at h;cases h1:x7 b v w with
  |none=>rw[h1]at h;cases h
  | some z=>
   rw[h1]at h;unfold x7 at h1;split at h1
   ·cases h1;rcases w8 h with h2|h2
    ·exact .inr ⟨_,_,h2.symm⟩
    ·exact .inr h2
   ·cases h1
theorem No{b:Bool}{vs:List PV}{x:PV}(hp:bX vs=true)(h:BP b (aB vs)=some x):D7 b vs=.ret x/\pl x=true/\aO x=x∨(∃v,vs=[v]/\x=aO v/\D7 b vs=.ret v):=by
 cases vs with
 |nil=>simp[aB,BP]at h
 | cons v vs=>
  cases vs with
  |nil=>
   right;simp only[aB,BP,mP,O5]at h;exact⟨v,rfl,h.symm,rfl⟩
  | cons w ws=>
   left;simp only[aB,BP,mP]at h;cases h1:x7 b (aO v) (aO w)with
   |none=>rw[h1]at h;cases h
   | some z=>
    rw[h1]at h;have hz:∃k n,z=.int k n:=by
     unfold x7 at h1;split at h1
     ·cases h1;exact⟨_,_,rfl⟩
     ·cases h1
    have hv:x7 b v w=some z:=by
     have:=EJ h1;cases hq:aO v<;>rw[hq]at this<;>try(simp[x7]at this;done)
     rw[en hq];exact this
    have hm:mP b z ws=some x:=Da h;obtain⟨k,n,rfl⟩:=hz;have hx:pl x=true/\aO x=x:=by
     rcases w8 hm with h2|⟨k,n,h2⟩
     ·subst h2;exact⟨rfl,rfl⟩
     ·subst h2;exact⟨rfl,rfl⟩
    refine⟨?_,hx⟩;simp only[D7,mP,hv,hm];rfl
theorem Jy{v x:PV}(hp:pl v=true)(h:FN (aO v)=some x):jx v=.ret v/\aO v=x:=by
 cases hv:aO v<;>rw[hv]at h<;>try(simp[FN]at h;done)
 ·obtain⟨l,rfl,rfl⟩:=uD hv;simp only[FN,O5]at h;exact⟨rfl,h⟩
 ·obtain⟨l,rfl,rfl⟩:=Bx hv;simp only[FN,O5]at h;exact⟨rfl,h⟩
theorem Kc{v x:PV}{sz:Option Nat}(h:D2 sz (aO v)=some x):v.fits sz=true/\aj v.cells=true/\x=aO v:=by
 unfold D2 at h;split at h
 ·rename_i hc;rw[oS,i7,dE]at hc;cases h;exact⟨hc.1,hc.2,rfl⟩
 ·cases h
theorem Kg{v x:PV}(h:Ht (aO v)=some x):∃l,v=.str l/\l.length<bG/\x=.lst (l.map λb=>PV.int .u8 b.toNat) false:=by
 cases hv:aO v<;>rw[hv]at h<;>try(simp[Ht]at h;done)
 rename_i l;simp only[Ht]at h;split at h
 ·rename_i hl;cases h;exact⟨l,pq hv,hl,rfl⟩
 ·cases h
theorem ab{α β:Type}{x:Option α}{f:α->Option β}{b:β}:af x f=some b↔∃a,x=some a/\f a=some b:=by
 cases x<;>simp
inductive AV where
 |D
 |F (e:X)
 |N (e:X)
 |O (fs:List Nat) (w:Nat) (wr:Bool) (sz:Nat) (e:X)
 |Q (fs:List Nat) (e:X)
 |P (b o:Nat)
 |EP (fs:List Nat) (w:Nat) (wr:Bool) (sz:Nat) (e i:X) (o:Nat)
 |A (cs:List AV)
 |L (fs:List Nat) (sz:Nat) (cs:List AV)
 |C (f:Nat) (cs:List AV)
 |T (cs:List AV)
 |G (g:X) (p:Bool) (a:AV)
 deriving Inhabited
structure Cx where
 nm:aq->Nat
 nu:Nat->PV
 be:Nat->aq×Nat
def qZ(v:PV):Prop:=v=.nils∨v=.lst [] true
def TokAt(Pr:aq->Prop)(h:Heap)(sz:Nat)(r:aq)(ver off len room:Nat)(c0:Bool)(b:Blk)(v x:PV):Prop:=
 v=.tok r ver sz off len room c0/\Pr r/\h.get r=some ⟨ver,some b⟩/\b.sz=sz/\off+len<=b.es.length/\len<=room/\bX b.es=true/\(∀e∈b.es,e.cells.length=sz)/\
  x=.lst (aB ((b.es.drop off).take len)) false
def TokOk(Pr:aq->Prop)(h:Heap)(sz:Nat)(v x:PV):Prop:=
 (qZ v/\x=.lst [] false)∨∃r ver off len room c0 b,TokAt Pr h sz r ver off len room c0 b v x
def WrOk(h:Heap)(v:PV):Prop:=
 qZ v∨∃r ver sz off len room b,v=.tok r ver sz off len room false/\h.get r=some ⟨ver,some b⟩/\b.ro=false/\off+room<=b.es.length
def vt:PV->Bool
 |.lptr _=>true
 |_=>false
def QL(Pr:aq->Prop)(h:Heap):List PV->List PV->Prop
 |[],[]=>True
 |v::vs,x::xs=>((pl v=true/\vt v=false/\x=aO v)∨∃r ver n e ro,v=.ptr r ver 0 0/\Pr r/\h.get r=some ⟨ver,some ⟨n,[e],ro⟩⟩/\aj e.cells=true/\bX e.cells=true/\x=.lptr (aB e.cells))/\QL Pr h vs xs
 |_,_=>False
def dJ:List PV->List aq
 |[]=>[]
 |.ptr r _ _ _::vs=>r::dJ vs
 |_::vs=>dJ vs
def Bf(c:Cx)(h:Heap)(env:Env)(fs:List Nat)(w:Nat)(wr:Bool)(sz:Nat)(e i:X)(o:Nat)(v:PV):Prop:=
 ∃r ver off len room c0 b x k n,TokAt (λr=>c.nm r∈fs) h sz r ver off len room c0 b (c.nu w) x/\e.ev env=some x/\(wr=true->WrOk h (c.nu w))/\
  i.ev env=some (.int k n)/\0<=n/\n<len/\v=.ptr r ver (off+n.toNat) o
mutual
def Rel(c:Cx)(h:Heap)(env:Env):AV->PV->Prop
 |.D,_=>True
 |.F e,v=>pl v=true/\e.ev env=some (aO v)
 |.N e,v=>qZ v/\e.ev env=some (.lst [] false)
 |.O fs w wr sz e,v=>v=c.nu w/\∃x,TokOk (λr=>c.nm r∈fs) h sz v x/\e.ev env=some x/\(wr=true->WrOk h v)
 |.Q fs e,v=>∃f vs xs,v=.fn f vs/\QL (λr=>c.nm r∈fs) h vs xs/\e.ev env=some (.fn f xs)/\vs.length<=9/\(dJ vs).Nodup
 |.P b o,v=>v=.ptr (c.be b).1 (c.be b).2 0 o
 |.EP fs w wr sz e i o,v=>Bf c h env fs w wr sz e i o v
 |.A cs,v=>∃vs,v=.agg vs/\aj vs=true/\RelL c h env cs vs
 |.L fs sz cs,v=>∃r ver vs,v=.tok r ver sz 0 vs.length vs.length false/\c.nm r∈fs/\h.get r=some ⟨ver,some ⟨sz,vs,false⟩⟩/\cC sz vs=true/\RelL c h env cs vs
 |.C f cs,v=>∃vs,v=.fn f vs/\RelL c h env cs vs
 |.T cs,v=>∃vs,v=.tup vs/\RelL c h env cs vs
 |.G g p a,v=>(g.ev env=some (.bool p)/\Rel c h env a v)∨((g.ev env=some (.bool !p)∨g.ev env=some (.tup []))/\v=.tup [])
def RelL(c:Cx)(h:Heap)(env:Env):List AV->List PV->Prop
 |[],[]=>True
 |a::as,v::vs=>Rel c h env a v/\RelL c h env as vs
 |_,_=>False
end
structure BX where
 id:Nat
 ro:Bool
 fs:List Nat
 cs:List AV
structure Abs where
 t:List (Nat×AV)
 b:List BX
structure Inv where
 nt:Nat
 ns:Nat
 m:Nat
 st:Nat->Nat
 al:Nat->Nat
 kp:List Nat
 h0:Heap
 fl:Nat->Bool
def SameRo(x y:Option fg):Prop:=x=y∨∃ver sz es,(∃r,x=some ⟨ver,some ⟨sz,es,r⟩⟩)/\∃r,y=some ⟨ver,some ⟨sz,es,r⟩⟩
def BoxOk(c:Cx)(h:Heap)(env:Env)(x:BX):Prop:=
 ∃n e ro,c.nm (c.be x.id).1∈x.fs/\h.get (c.be x.id).1=some ⟨(c.be x.id).2,some ⟨n,[e],ro⟩⟩/\(x.ro=false->ro=false)/\aj e.cells=true/\RelL c h env x.cs e.cells
structure Nm (I:Inv) (c:Cx):Prop where
 l:∀s,∃j,c.nm (.l s)=2*j/\I.st j=I.st s
 a:∀i,c.nm (.a i)=2*I.al i+1
structure Sim (I:Inv) (c:Cx) (a:Abs) (env:Env) (σ:St):Prop where
 fr:σ.fr.length=I.nt
 tm:∀p∈a.t,Rel c σ.h env p.2 (lG σ.fr p.1)
 bx:∀x∈a.b,BoxOk c σ.h env x
 nm:Nm I c
 hl:σ.h.L.length=I.ns
 ha:σ.h.A.length=I.m
 kp:∀r,c.nm r∈I.kp->SameRo (σ.h.get r) (I.h0.get r)
 fl:∀i ver b,I.fl (I.al i)=true->σ.h.get (.a i)=some ⟨ver,some b⟩->bX b.es=true
mutual
def AV.ok(nf idf vf:Nat->Bool):AV->Bool
 |.D=>true
 |.F e|.N e=> !e.ment vf
 |.O fs w _ _ e=>fs.all (λn=> !nf n)&& !idf w&& !e.ment vf
 |.Q fs e=>fs.all (λn=> !nf n)&& !e.ment vf
 |.P b _=> !idf b
 |.EP fs w _ _ e i _=>fs.all (λn=> !nf n)&& !idf w&& !e.ment vf&& !i.ment vf
 |.A cs|.C _ cs|.T cs=>AV.okL nf idf vf cs
 |.L fs _ cs=>fs.all (λn=> !nf n)&&AV.okL nf idf vf cs
 |.G g _ a=> !g.ment vf&&a.ok nf idf vf
def AV.okL(nf idf vf:Nat->Bool):List AV->Bool
 |[]=>true
 |a::as=>a.ok nf idf vf&&AV.okL nf idf vf as
end
structure Ct (nf idf vf:Nat->Bool) (c c':Cx) (h h':Heap) (env env':Env):Prop where
 n:∀r,nf (c.nm r)=false->h'.get r=h.get r/\c'.nm r=c.nm r
 i:∀w,idf w=false->c'.nu w=c.nu w/\c'.be w=c.be w
 v:∀n,vf n=false->env' n=env n
section
variable{nf idf vf:Nat->Bool}{c c':Cx}{h h':Heap}{env env':Env}
theorem fZ{fs:List Nat}{n:Nat}(hf:fs.all (λn=> !nf n)=true)(hn:n∈fs):nf n=false:=by
 have:=List.all_eq_true.1 hf n hn;simpa using this
theorem TokAt.frame(M:Ct nf idf vf c c' h h' env env'){fs:List Nat}(hf:fs.all (λn=> !nf n)=true){sz:Nat}{r:aq}{ver off len room:Nat}{c0:Bool}{b:Blk}{v x:PV}
  (T:TokAt (λr=>c.nm r∈fs) h sz r ver off len room c0 b v x):TokAt (λr=>c'.nm r∈fs) h' sz r ver off len room c0 b v x:=by
 obtain⟨h1,h2,h3,h4⟩:=T;have:=M.n r (fZ hf h2);exact⟨h1,by simp only[this.2];exact h2,by rw[this.1];exact h3,h4⟩
theorem TokOk.frame(M:Ct nf idf vf c c' h h' env env'){fs:List Nat}(hf:fs.all (λn=> !nf n)=true){sz:Nat}{v x:PV}(T:TokOk (λr=>c.nm r∈fs) h sz v x):TokOk (λr=>c'.nm r∈fs) h' sz v x:=by
 rcases T with T|⟨r,ver,off,len,room,c0,b,T⟩
 ·exact .inl T
 ·exact .inr ⟨r,ver,off,len,room,c0,b,T.frame M hf⟩
theorem WrOk.frame(M:Ct nf idf vf c c' h h' env env'){fs:List Nat}(hf:fs.all (λn=> !nf n)=true){sz:Nat}{v x:PV}(T:TokOk (λr=>c.nm r∈fs) h sz v x)(W:WrOk h v):WrOk h' v:=by
 rcases W with W|⟨r,ver,sz',off,len,room,b,rfl,h1,h2⟩
 ·exact .inl W
 ·rcases T with⟨T,_⟩|⟨r',ver',off',len',room',c0',b',hv,T2,T⟩
  ·exact .inl T
  ·cases hv;exact .inr ⟨r,ver,_,off,len,room,b,rfl,by rw[(M.n r (fZ hf T2)).1];exact h1,h2⟩
theorem QL.frame(M:Ct nf idf vf c c' h h' env env'){fs:List Nat}(hf:fs.all (λn=> !nf n)=true):∀{vs xs:List PV},QL (λr=>c.nm r∈fs) h vs xs->QL (λr=>c'.nm r∈fs) h' vs xs
 |[],[],_=>trivial
 | v::vs,x::xs,H=>by
  obtain⟨H1,H2⟩:=H;refine⟨?_,QL.frame M hf H2⟩;rcases H1 with H1|⟨r,ver,n,e,ro,h1,h2,h3,h4⟩
  ·exact .inl H1
  ·have:=M.n r (fZ hf h2);exact .inr ⟨r,ver,n,e,ro,h1,by simp only[this.2];exact h2,by rw[this.1];exact h3,h4⟩
 |[],_::_,H=>by cases H
 |_::_,[],H=>by cases H
theorem lA(M:Ct nf idf vf c c' h h' env env'){e:X}(hm:(!e.ment vf)=true):e.ev env'=e.ev env:=X.ev_ment M.v (by simpa using hm)
mutual
theorem Rel.frame(M:Ct nf idf vf c c' h h' env env'):∀{a:AV}{v:PV},a.ok nf idf vf=true->Rel c h env a v->Rel c' h' env' a v
 |.D,v,_,_=>trivial
 |.F e,v,ho,R=>by
  simp only[AV.ok]at ho;simp only[Rel]at R⊢;rw[lA M ho];exact R
 |.N e,v,ho,R=>by
  simp only[AV.ok]at ho;simp only[Rel]at R⊢;rw[lA M ho];exact R
 |.O fs w wr sz e,v,ho,R=>by
  simp only[AV.ok,O6,PC]at ho;simp only[Rel]at R⊢;obtain⟨h1,x,h2,h3,h4⟩:=R;exact⟨by rw[(M.i w ho.1.2).1];exact h1,x,h2.frame M ho.1.1,by rw[lA M (by simpa using ho.2)];exact h3,λhw=>(h4 hw).frame M ho.1.1 h2⟩
 |.Q fs e,v,ho,R=>by
  simp only[AV.ok,O6,PC]at ho;simp only[Rel]at R⊢;obtain⟨f,vs,xs,h1,h2,h3,h4⟩:=R;exact⟨f,vs,xs,h1,h2.frame M ho.1,by rw[lA M (by simpa using ho.2)];exact h3,h4⟩
 |.P b o,v,ho,R=>by
  simp only[AV.ok,PC]at ho;simp only[Rel]at R⊢;rw[(M.i b ho).2];exact R
 |.EP fs w wr sz e i o,v,ho,R=>by
  simp only[AV.ok,O6,PC]at ho;simp only[Rel,Bf]at R⊢;obtain⟨r,ver,off,len,room,c0,b,x,k,n,h1,h2,h3,h4,h5⟩:=R;refine⟨r,ver,off,len,room,c0,b,x,k,n,?_,by rw[lA M (by simpa using ho.1.2)];exact h2,λhw=>?_,by rw[lA M (by simpa using ho.2)];exact h4,h5⟩
  ·rw[(M.i w ho.1.1.2).1];exact h1.frame M ho.1.1.1
  ·rw[(M.i w ho.1.1.2).1];exact(h3 hw).frame M ho.1.1.1 (.inr ⟨_,_,_,_,_,_,_,h1⟩)
 |.A cs,v,ho,R=>by
  simp only[AV.ok]at ho;simp only[Rel]at R⊢;obtain⟨vs,h1,h2,h3⟩:=R;exact⟨vs,h1,h2,RelL.frame M ho h3⟩
 |.L fs sz cs,v,ho,R=>by
  simp only[AV.ok,O6]at ho;simp only[Rel]at R⊢;obtain⟨r,ver,vs,h1,h2,h3,h4,h5⟩:=R;have:=M.n r (fZ ho.1 h2);exact⟨r,ver,vs,h1,by rw[this.2];exact h2,by rw[this.1];exact h3,h4,RelL.frame M ho.2 h5⟩
 |.C f cs,v,ho,R=>by
  simp only[AV.ok]at ho;simp only[Rel]at R⊢;obtain⟨vs,h1,h3⟩:=R;exact⟨vs,h1,RelL.frame M ho h3⟩
 |.T cs,v,ho,R=>by
  simp only[AV.ok]at ho;simp only[Rel]at R⊢;obtain⟨vs,h1,h3⟩:=R;exact⟨vs,h1,RelL.frame M ho h3⟩
 |.G g p a,v,ho,R=>by
  simp only[AV.ok,O6]at ho;simp only[Rel]at R⊢;rw[lA M ho.1];rcases R with R|R
  ·exact .inl ⟨R.1,Rel.frame M ho.2 R.2⟩
  ·exact .inr R
theorem RelL.frame(M:Ct nf idf vf c c' h h' env env'):∀{as:List AV}{vs:List PV},AV.okL nf idf vf as=true->RelL c h env as vs->RelL c' h' env' as vs
 |[],[],_,_=>trivial
 |a::as,v::vs,ho,R=>by
  simp only[AV.okL,O6]at ho;exact⟨Rel.frame M ho.1 R.1,RelL.frame M ho.2 R.2⟩
 |[],_::_,_,R=>by cases R
 |_::_,[],_,R=>by cases R
end
def AV.keep(nf idf vf:Nat->Bool)(a:AV):AV:=if a.ok nf idf vf then a else .D
def Abs.keep(nf idf vf:Nat->Bool)(a:Abs):Abs:=
 ⟨a.t.filter λp=>p.2.ok nf idf vf,(a.b.filter λx=> !idf x.id&&x.fs.all λn=> !nf n).map λx=>⟨x.id,x.ro,x.fs,x.cs.map (AV.keep nf idf vf)⟩⟩
theorem RelL.keep(M:Ct nf idf vf c c' h h' env env'):∀{as:List AV}{vs:List PV},RelL c h env as vs->RelL c' h' env' (as.map (AV.keep nf idf vf)) vs
 |[],[],_=>trivial
 |a::as,v::vs,R=>by
  refine⟨?_,RelL.keep M R.2⟩;simp only[AV.keep];split
  ·rename_i ho;exact Rel.frame M ho R.1
  ·trivial
 |[],_::_,R=>by cases R
 |_::_,[],R=>by cases R
theorem BoxOk.keep(M:Ct nf idf vf c c' h h' env env'){x:BX}(hx:(!idf x.id&&x.fs.all λn=> !nf n)=true)(B:BoxOk c h env x):BoxOk c' h' env' ⟨x.id,x.ro,x.fs,x.cs.map (AV.keep nf idf vf)⟩:=by
 simp only[O6,PC]at hx;obtain⟨n,e,ro,h1,h2,h3,h4,h5⟩:=B;have hb:=(M.i x.id hx.1).2;have hr:=M.n (c.be x.id).1 (fZ hx.2 h1);refine⟨n,e,ro,?_,?_,h3,h4,h5.keep M⟩
 ·simp only[hb,hr.2];exact h1
 ·simp only[hb,hr.1];exact h2
theorem Sim.keep{I:Inv}{a:Abs}{fr:List PV}(M:Ct nf idf vf c c' h h' env env')(S:Sim I c a env ⟨fr,h⟩)(hn:Nm I c')(hL:h'.L.length=I.ns)(hA:h'.A.length=I.m)
  (hk:∀r,c'.nm r∈I.kp->SameRo (h'.get r) (I.h0.get r))(hf:∀i ver b,I.fl (I.al i)=true->h'.get (.a i)=some ⟨ver,some b⟩->bX b.es=true):Sim I c' (a.keep nf idf vf) env' ⟨fr,h'⟩ where
 fr:=S.fr
 tm p hp:=by
  obtain⟨h1,h2⟩:=List.mem_filter.1 hp;exact Rel.frame M h2 (S.tm p h1)
 bx x hx:=by
  obtain⟨y,hy,rfl⟩:=List.mem_map.1 hx;obtain⟨h1,h2⟩:=List.mem_filter.1 hy;exact(S.bx y h1).keep M h2
 nm:=hn
 hl:=hL
 ha:=hA
 kp:=hk
 fl:=hf
end
def Abs.get(a:Abs)(t:Nat):Option AV:=match a.t.find? (λp=>p.1==t)with|some p=>(match p.2 with|.D=>none|v=>some v)|none=>none
def Abs.set(a:Abs)(t:Nat)(v:AV):Abs:=⟨(t,v)::a.t.filter (λp=>p.1 !=t),a.b⟩
def Abs.box(a:Abs)(b:Nat):Option BX:=a.b.find? λx=>x.id==b
theorem Abs.get_rel{I:Inv}{c:Cx}{a:Abs}{env:Env}{σ:St}(S:Sim I c a env σ){t:Nat}{v:AV}(h:a.get t=some v):Rel c σ.h env v (lG σ.fr t):=by
 unfold Abs.get at h;split at h
 ·rename_i p hp;have h1:=List.find?_some hp;have h2:=S.tm p (List.mem_of_find?_eq_some hp);simp only[PF]at h1;subst h1;split at h
  ·cases h
  ·rename_i v' hd he;cases h;exact h2
 ·cases h
theorem Abs.box_ok{I:Inv}{c:Cx}{a:Abs}{env:Env}{σ:St}(S:Sim I c a env σ){b:Nat}{x:BX}(h:a.box b=some x):x.id=b/\BoxOk c σ.h env x:=by
 have h1:=List.find?_some h;exact⟨by simpa using h1,S.bx x (List.mem_of_find?_eq_some h)⟩
theorem Sim.set{I:Inv}{c:Cx}{a:Abs}{env:Env}{fr:List PV}{h:Heap}(S:Sim I c a env ⟨fr,h⟩){t:Nat}(ht:t<I.nt){av:AV}{v:PV}(R:Rel c h env av v):Sim I c (a.set t av) env ⟨upd fr t v,h⟩ where
 fr:=by rw[nw];exact S.fr
 tm p hp:=by
  rcases List.mem_cons.1 hp with rfl|hp
  ·simp only;rw[pm];have:t<fr.length:=by have:=S.fr;simp only at this;omega
   simp[this,R]
  ·obtain⟨h1,h2⟩:=List.mem_filter.1 hp;have hne:p.1≠t:=by simpa using h2
   rw[pm];simp only[show¬(p.1=t)from hne,QC,PS];have:=S.tm p h1
   first|exact this|(split<;>first|exact this|(exfalso;omega))
 bx:=S.bx
 nm:=S.nm
 hl:=S.hl
 ha:=S.ha
 kp:=S.kp
 fl:=S.fl
theorem HM.runT_bind{α β:Type}(m:HM α)(f:α->HM β)(h:Heap):
  (m.bind f).runT h=match m.runT h with
   |some (a,h1,R,W)=>(match(f a).runT h1 with|some (b,h2,R2,W2)=>some (b,h2,R++R2,W++W2)|none=>none)
   |none=>none:=by
 induction m generalizing h with
 |ret a=>
  simp only[HM.bind,HM.runT];cases(f a).runT h with
  |none=>rfl
  |some p=>rfl
 |fail=>rfl
 | get r k ih=>
  simp only[HM.bind,HM.runT];cases hg:h.get r with
  |none=>rfl
  | some e=>
   simp only[ih];cases(k e).runT h with
   |none=>rfl
   |some p=>
    obtain⟨a,h1,R,W⟩:=p;simp only;cases(f a).runT h1 with
    |none=>rfl
    |some q=>rfl
 | set r e k ih=>
  simp only[HM.bind,HM.runT];cases hg:h.get r with
  |none=>rfl
  | some e0=>
   simp only[ih];cases k.runT (h.put r e)with
   |none=>rfl
   |some p=>
    obtain⟨a,h1,R,W⟩:=p;simp only;cases(f a).runT h1 with
    |none=>rfl
    |some q=>rfl
theorem HM.runT_bind_of{α β:Type}{m:HM α}{f:α->HM β}{h h1 h2:Heap}{a:α}{b:β}{R W R2 W2:List aq}(x:m.runT h=some (a,h1,R,W))(y:(f a).runT h1=some (b,h2,R2,W2)):
  (m.bind f).runT h=some (b,h2,R++R2,W++W2):=by
 rw[HM.runT_bind,x];simp only;rw[y]
theorem aW{r:aq}{ver:Nat}{b:Blk}{h:Heap}(hg:h.get r=some ⟨ver,some b⟩):(bS r ver).runT h=some (b,h,[r],[]):=by
 simp[bS,HM.runT,hg,HM.ofO]
mutual
def tG:PV->Option X
 |.int k n=>some (.int k n)
 |.bool b=>some (.boo b)
 |.str s=>some (.str s)
 |.nilp=>some .nilp
 |.nilfn=>some .nilfn
 |.nils=>some (.lst .nl)
 |.lst es _=>(zQ es).map X.lst
 |.agg cs=>if aj cs then(zQ cs).map X.agg else none
 |.fn f []=>some (.fn f .nl)
 |_=>none
def zQ:List PV->Option X
 |[]=>some .nl
 |v::vs=>af (tG v) λx=>af (zQ vs) λl=>some (.cn x l)
end
mutual
theorem yP(env:Env):∀{v:PV}{e:X},tG v=some e->pl v=true/\e.ev env=some (aO v)
 |.int k n,e,h=>by cases h;exact⟨rfl,rfl⟩
 |.bool _,e,h=>by cases h;exact⟨rfl,rfl⟩
 |.str _,e,h=>by cases h;exact⟨rfl,rfl⟩
 |.nilp,e,h=>by cases h;exact⟨rfl,rfl⟩
 |.nilfn,e,h=>by cases h;exact⟨rfl,rfl⟩
 |.nils,e,h=>by cases h;exact⟨rfl,rfl⟩
 |.lst es c,e,h=>by
  simp only[tG,PI]at h;obtain⟨l,hl,rfl⟩:=h;have:=uM env hl;exact⟨by simp only[pl,this.1],by simp only[X.ev,this.2,ac,bT,aO]⟩
 | .agg cs,e,h=>by
  simp only[tG]at h;split at h
  ·rename_i hc;simp only[PI]at h;obtain⟨l,hl,rfl⟩:=h;have:=uM env hl;refine⟨by simp only[pl,this.1,hc,PE],by simp only[X.ev,this.2,ac,bT,aO,dE,hc,PQ]⟩
  ·cases h
 |.fn f [],e,h=>by cases h;exact⟨rfl,rfl⟩
 |.fn f (_::_),e,h=>by simp[tG]at h
 |.lptr _,e,h=>by simp[tG]at h
 |.tup _,e,h=>by simp[tG]at h
 |.tok ..,e,h=>by simp[tG]at h
 |.ptr ..,e,h=>by simp[tG]at h
 |.junk,e,h=>by simp[tG]at h
theorem uM(env:Env):∀{l:List PV}{e:X},zQ l=some e->bX l=true/\e.ev env=some (.tup (aB l))
 |[],e,h=>by cases h;exact⟨rfl,rfl⟩
 |v::vs,e,h=>by
  simp only[zQ,ab]at h;obtain⟨x,hx,l,hl,he⟩:=h;cases he;have h1:=yP env hx;have h2:=uM env hl;exact⟨by simp only[bX,h1.1,h2.1,PE],by simp only[X.ev,h1.2,h2.2,ac,aB]⟩
end
def zd:PV->Option AV
 |.nils=>some (.N (.lst .nl))
 |v=>(tG v).map AV.F
def vg:List PV->Option (List AV)
 |[]=>some []
 |v::vs=>af (zd v) λa=>af (vg vs) λas=>some (a::as)
theorem xH(c:Cx)(h:Heap)(env:Env){v:PV}{a:AV}(H:zd v=some a):Rel c h env a v:=by
 unfold zd at H;split at H
 ·cases H;exact⟨.inl rfl,rfl⟩
 ·rename_i hn;simp only[PI]at H;obtain⟨e,he,rfl⟩:=H;exact yP env he
theorem sG(c:Cx)(h:Heap)(env:Env):∀{l:List PV}{as:List AV},vg l=some as->RelL c h env as l
 |[],as,H=>by cases H;trivial
 |v::vs,as,H=>by
  simp only[vg,ab]at H;obtain⟨a,ha,l,hl,he⟩:=H;cases he;exact⟨xH c h env ha,sG c h env hl⟩
def Abs.po(a:Abs):PO->Option AV
 |.t n=>a.get n
 |.c v=>match v with
  |.agg cs=>if aj cs then(vg cs).map AV.A else none
  |v=>zd v
theorem Abs.po_ok{I:Inv}{c:Cx}{a:Abs}{env:Env}{σ:St}(S:Sim I c a env σ):∀{x:PO}{av:AV},a.po x=some av->Rel c σ.h env av (x.ev σ.fr)
 |.t n,av,H=>Abs.get_rel S H
 | .c v,av,H=>by
  simp only[Abs.po]at H;split at H
  ·split at H
   ·rename_i hc;simp only[PI]at H;obtain⟨l,hl,rfl⟩:=H;exact⟨_,rfl,hc,sG _ _ _ hl⟩
   ·cases H
  ·exact xH _ _ _ H
mutual
def fx:AV->Option X
 |.F e=>some e
 |.N e=>some e
 |.A cs=>(Lu cs).map X.agg
 |_=>none
def Lu:List AV->Option X
 |[]=>some .nl
 |a::as=>af (fx a) λx=>af (Lu as) λl=>some (.cn x l)
end
theorem iM{v:PV}(h:qZ v):pl v=true/\aO v=.lst [] false:=by rcases h with rfl|rfl<;>exact⟨rfl,rfl⟩
section
variable{c:Cx}{h:Heap}{env:Env}
mutual
theorem lJ:∀{a:AV}{v:PV}{e:X},Rel c h env a v->fx a=some e->pl v=true/\e.ev env=some (aO v)
 |.F e,v,e',R,H=>by cases H;exact R
 |.N e,v,e',R,H=>by
  cases H;have:=iM R.1;exact⟨this.1,by rw[this.2];exact R.2⟩
 |.A cs,v,e',R,H=>by
  simp only[fx,PI]at H;obtain⟨l,hl,rfl⟩:=H;obtain⟨vs,rfl,hc,hR⟩:=R;have:=A4 hR hl;exact⟨by simp only[pl,hc,this.1,PE],by simp only[X.ev,this.2,ac,bT,dE,hc,PQ,aO]⟩
 |.D,v,e',R,H=>by simp[fx]at H
 |.O ..,v,e',R,H=>by simp[fx]at H
 |.Q ..,v,e',R,H=>by simp[fx]at H
 |.P ..,v,e',R,H=>by simp[fx]at H
 |.EP ..,v,e',R,H=>by simp[fx]at H
 |.C ..,v,e',R,H=>by simp[fx]at H
 |.L ..,v,e',R,H=>by simp[fx]at H
 |.T ..,v,e',R,H=>by simp[fx]at H
 |.G ..,v,e',R,H=>by simp[fx]at H
theorem A4:∀{as:List AV}{vs:List PV}{e:X},RelL c h env as vs->Lu as=some e->bX vs=true/\e.ev env=some (.tup (aB vs))
 |[],[],e,R,H=>by cases H;exact⟨rfl,rfl⟩
 |a::as,v::vs,e,R,H=>by
  simp only[Lu,ab]at H;obtain⟨x,hx,l,hl,he⟩:=H;cases he;have h1:=lJ R.1 hx;have h2:=A4 R.2 hl;exact⟨by simp only[bX,h1.1,h2.1,PE],by simp only[X.ev,h1.2,h2.2,ac,aB]⟩
 |[],_::_,_,R,_=>by cases R
 |_::_,[],_,R,_=>by cases R
end
def NP(g:X)(p:Bool)(a:AV):Option X:=match a with
 |.G g' p' a=>if g'=g/\p'=p then fx a else none
 |a=>fx a
theorem GJ{g:X}{p:Bool}{a:AV}{v:PV}{e:X}(hg:g.ev env=some (.bool p))(R:Rel c h env a v)(H:NP g p a=some e):pl v=true/\e.ev env=some (aO v):=by
 unfold NP at H;split at H
 ·split at H
  ·rename_i he;obtain⟨rfl,rfl⟩:=he;rcases R with R|R
   ·exact lJ R.2 H
   ·rw[hg]at R;rcases R.1 with h1|h1
    ·simp at h1
    ·simp at h1
  ·cases H
 ·exact lJ R H
def Abs.fo(a:Abs)(x:PO):Option X:=af (a.po x) fx
theorem Abs.fo_ok{I:Inv}{a:Abs}{σ:St}(S:Sim I c a env σ){x:PO}{e:X}(H:a.fo x=some e):pl (x.ev σ.fr)=true/\e.ev env=some (aO (x.ev σ.fr)):=by
 simp only[Abs.fo,ab]at H;obtain⟨av,h1,h2⟩:=H;exact lJ (Abs.po_ok S h1) h2
def Abs.fos(a:Abs):List PO->Option X
 |[]=>some .nl
 |x::xs=>af (a.fo x) λe=>af (a.fos xs) λl=>some (.cn e l)
theorem Abs.fos_ok{I:Inv}{a:Abs}{σ:St}(S:Sim I c a env σ):∀{xs:List PO}{e:X},a.fos xs=some e->bX (kQ (PO.ev σ.fr) xs)=true/\e.ev env=some (.tup (aB (kQ (PO.ev σ.fr) xs)))
 |[],e,H=>by cases H;exact⟨rfl,rfl⟩
 |x::xs,e,H=>by
  simp only[Abs.fos,ab]at H;obtain⟨y,hy,l,hl,he⟩:=H;cases he;have h1:=Abs.fo_ok S hy;have h2:=Abs.fos_ok S hl;exact⟨by simp only[kQ,bX,h1.1,h2.1,PE],by simp only[X.ev,h1.2,h2.2,ac,kQ,aB]⟩
def Abs.pos(a:Abs):List PO->Option (List AV)
 |[]=>some []
 |x::xs=>af (a.po x) λe=>af (a.pos xs) λl=>some (e::l)
theorem Abs.pos_ok{I:Inv}{a:Abs}{σ:St}(S:Sim I c a env σ):∀{xs:List PO}{as:List AV},a.pos xs=some as->RelL c σ.h env as (kQ (PO.ev σ.fr) xs)
 |[],as,H=>by cases H;trivial
 |x::xs,as,H=>by
  simp only[Abs.pos,ab]at H;obtain⟨y,hy,l,hl,he⟩:=H;cases he;exact⟨Abs.po_ok S hy,Abs.pos_ok S hl⟩
end
def oY:Option Nat->X->Bool
 |none,.int .. |none,.boo _|none,.str _|none,.lst _|none,.bin .. |none,.toInt .. |none,.eqs .. |none,.eqb .. |none,.len _|none,.lenS _|none,.app .. |none,.ia .. |none,.fa .. |none,.b2s _=>true
 |sz,.fld sz' _ _=>sz==sz'
 |sz,.ld sz' _ _=>sz==sz'
 |sz,.ite _ a b=>oY sz a&&oY sz b
 |sz,.chk sz' _=>sz==sz'
 |_,_=>false
theorem D3{op:BinOp}{k k':IntKind}{a b:Int}{x:PV}(h:aY op k a k' b=some x):x.fits none=true:=by
 unfold aY at h;split at h
 ·split at h
  ·cases h
  ·cases h;rfl
 ·split at h
  ·cases h
  ·cases h;rfl
 ·split at h
  ·cases h
  ·split at h<;>first|(split at h<;>first|(cases h;rfl)|(cases h;done))|(cases h;rfl)|(cases h;done)
theorem Fe{op:BinOp}{v w x:PV}(h:bin op v w=some x):x.fits none=true:=by
 unfold bin at h;split at h
 ·exact D3 h
 ·split at h<;>first|(cases h;rfl)|(split at h<;>first|(cases h;rfl)|(cases h;done))|(cases h;done)
 ·cases h
theorem u5{sz:Nat}{v i x:PV}(h:au sz v i=some x):x.fits none=true:=by
 unfold au at h;split at h
 ·split at h
  ·split at h
   ·cases h;rfl
   ·cases h
  ·split at h
   ·split at h
    ·split at h
     ·cases h;rfl
     ·cases h
    ·cases h
   ·cases h
  ·cases h
 ·cases h
theorem El{neg:Bool}{ks:List Bool}{v w x:PV}(h:ou neg ks v w=some x):x.fits none=true:=by
 unfold ou at h;split at h
 ·split at h
  ·cases h;rfl
  ·cases h
 ·cases h
theorem Fo{env:Env}:∀{e:X}{sz:Option Nat}{x:PV},oY sz e=true->e.ev env=some x->x.fits sz=true:=by
 intro e;induction e<;>intro sz x hf hx
 case ite c a b ihc iha ihb=>
  have hf':oY sz a=true/\oY sz b=true:=by cases sz<;>simpa[oY]using hf
  simp only[X.ev,ab]at hx;obtain⟨y,_,hx⟩:=hx;split at hx
  ·exact iha hf'.1 hx
  ·exact ihb hf'.2 hx
  ·cases hx
 case fld sz' a o iha=>
  have hf':sz=sz':=by cases sz<;>simpa[oY]using hf
  subst hf';simp only[X.ev,ab]at hx;obtain⟨y,_,hx⟩:=hx;unfold tV at hx;split at hx
  ·exact(kP hx).2
  ·cases hx
 case ld sz' a o iha=>
  have hf':sz=sz':=by cases sz<;>simpa[oY]using hf
  subst hf';simp only[X.ev,ab]at hx;obtain⟨y,_,hx⟩:=hx;unfold Cw at hx;split at hx
  ·exact(kP hx).2
  ·cases hx
 case chk sz' a iha=>
  have hf':sz=sz':=by cases sz<;>simpa[oY]using hf
  subst hf';simp only[X.ev,ab]at hx;obtain⟨y,_,hx⟩:=hx;unfold D2 at hx;split at hx
  ·rename_i hc;cases hx;exact hc.1
  ·cases hx
 all_goals cases sz<;>simp only[oY,Ps]at hf
 all_goals simp only[X.ev,ab,O5]at hx
 all_goals first
  |(subst hx;rfl)
  |(obtain⟨y,_,z,_,hx⟩:=hx;first|exact Fe hx|skip)
  |(obtain⟨y,_,hx⟩:=hx)
 case lst=>subst hx;rfl
 case toInt=>unfold kR at hx;split at hx<;>cases hx;rfl
 case eqs=>exact El hx
 case eqb=>unfold eqb at hx;split at hx<;>cases hx;rfl
 case len=>unfold cB at hx;split at hx<;>cases hx;rfl
 case lenS=>unfold nV at hx;split at hx<;>cases hx;rfl
 case ia=>exact u5 hx
 case fa=>
  unfold bl at hx;split at hx<;>cases hx<;>rfl
 case app=>
  unfold nE at hx;split at hx<;>try(cases hx;done)
  all_goals(split at hx<;>cases hx;rfl)
 case b2s=>
  unfold DB at hx;split at hx
  ·simp only[PI]at hx;obtain⟨l,_,rfl⟩:=hx;rfl
  ·cases hx
def qY(sz:Option Nat)(e:X):List X:=if oY sz e then[]else[.chk sz e]
def cellsOf(sz:Option Nat)(a:AV):Option (List AV×List X):=
 match sz,a with
 |none,.F e=>some ([.F e],e::qY none e)
 |none,.N e=>some ([.N e],[])
 |none,.O fs w wr s e=>some ([.O fs w wr s e],[])
 |none,.P b o=>some ([.P b o],[])
 |none,.C f cs=>some ([.C f cs],[])
 |none,.L fs sz cs=>some ([.L fs sz cs],[])
 |some n,.F e=>some ((List.range n).map λj=>.F (.fld none e j),e::qY (some n) e)
 |some n,.A cs=>if cs.length=n then some (cs,[])else none
 |_,_=>none
theorem ce{env:Env}:∀{l m:List X},ao env (l++m)=(ao env l&&ao env m)
 |[],m=>by simp[ao]
 |x::l,m=>by simp[ao,ce (l:=l),Bool.and_assoc]
theorem eV{env:Env}:∀{l:List X},ao env l=true↔∀x∈l,(x.ev env).isSome=true
 |[]=>by simp[ao]
 |x::l=>by simp[ao,eV (l:=l)]
theorem qt{env:Env}{sz:Option Nat}{e:X}{v:PV}(hv:e.ev env=some (aO v))(hg:ao env (qY sz e)=true)(hp:pl v=true):v.fits sz=true/\aj v.cells=true:=by
 unfold qY at hg;split at hg
 ·rename_i hf;have:=Fo hf hv;rw[oS]at this;exact⟨this,rn hp⟩
 ·simp only[ao,P2,X.ev,hv,ac,Option.isSome_iff_exists]at hg;obtain⟨x,hx⟩:=hg;have:=Kc hx;exact⟨this.1,this.2.1⟩
theorem RelL.len{c:Cx}{h:Heap}{env:Env}:∀{as:List AV}{vs:List PV},RelL c h env as vs->as.length=vs.length
 |[],[],_=>rfl
 |a::as,v::vs,R=>by simp[RelL.len R.2]
 |[],_::_,R=>by cases R
 |_::_,[],R=>by cases R
theorem RelL.get{c:Cx}{h:Heap}{env:Env}:∀{as:List AV}{vs:List PV},RelL c h env as vs->∀{i:Nat}{a:AV},as[i]?=some a->∃v,vs[i]?=some v/\Rel c h env a v
 |a::as,v::vs,R,0,b,H=>by simp only[Pg,O5]at H⊢;subst H;exact⟨v,rfl,R.1⟩
 |a::as,v::vs,R,i+1,b,H=>by simp only[Qc]at H⊢;exact RelL.get R.2 H
 |[],vs,_,i,b,H=>by simp at H
 |_::_,[],R,_,_,_=>by cases R
theorem RelL.of{c:Cx}{h:Heap}{env:Env}:∀{as:List AV}{vs:List PV},as.length=vs.length->(∀(i:Nat)(a:AV)(v:PV),as[i]?=some a->vs[i]?=some v->Rel c h env a v)->RelL c h env as vs
 |[],[],_,_=>trivial
 |a::as,v::vs,hl,H=>⟨H 0 a v rfl rfl,RelL.of (by simpa using hl) λi a' v' h1 h2=>H (i+1) a' v' (by simpa using h1) (by simpa using h2)⟩
 |[],_::_,hl,_=>by simp at hl
 |_::_,[],hl,_=>by simp at hl
theorem RelL.app{c:Cx}{h:Heap}{env:Env}:∀{as bs:List AV}{vs ws:List PV},RelL c h env as vs->RelL c h env bs ws->RelL c h env (as++bs) (vs++ws)
 |[],bs,[],ws,_,H=>H
 |a::as,bs,v::vs,ws,R,H=>⟨R.1,RelL.app R.2 H⟩
 |[],_,_::_,_,R,_=>by cases R
 |_::_,_,[],_,R,_=>by cases R
theorem RelL.drop{c:Cx}{h:Heap}{env:Env}:∀{as:List AV}{vs:List PV}(n:Nat),RelL c h env as vs->RelL c h env (as.drop n) (vs.drop n)
 |as,vs,0,R=>R
 |[],[],n+1,R=>trivial
 |a::as,v::vs,n+1,R=>RelL.drop n R.2
 |[],_::_,_+1,R=>by cases R
 |_::_,[],_+1,R=>by cases R
theorem RelL.take{c:Cx}{h:Heap}{env:Env}:∀{as:List AV}{vs:List PV}(n:Nat),RelL c h env as vs->RelL c h env (as.take n) (vs.take n)
 |as,vs,0,R=>trivial
 |[],[],n+1,R=>trivial
 |a::as,v::vs,n+1,R=>⟨R.1,RelL.take n R.2⟩
 |[],_::_,_+1,R=>by cases R
 |_::_,[],_+1,R=>by cases R
theorem nM{c:Cx}{h:Heap}{env:Env}{sz:Option Nat}{a:AV}{v:PV}{cs:List AV}{ns:List X}(R:Rel c h env a v)(H:cellsOf sz a=some (cs,ns))(hg:ao env ns=true):
  v.fits sz=true/\aj v.cells=true/\RelL c h env cs v.cells:=by
 have one:∀{w:PV},w.isCell=true->w.cells=[w]/\w.fits none=true/\aj w.cells=true:=by
  intro w hw;cases w<;>first|(simp[PV.isCell]at hw;done)|exact⟨rfl,rfl,rfl⟩
 unfold cellsOf at H;split at H<;>try(cases H;done)
 ·rename_i e;cases H;simp only[ao,O6]at hg;obtain⟨h1,h2⟩:=qt R.2 hg.2 R.1;refine⟨h1,h2,?_⟩;have:v.cells=[v]:=by cases v<;>simp_all [PV.fits,PV.cells]
  rw[this];exact⟨R,trivial⟩
 ·cases H;have:v.isCell=true:=by rcases R.1 with rfl|rfl<;>rfl
  obtain⟨h1,h2,h3⟩:=one this;exact⟨h2,h3,by rw[h1];exact⟨R,trivial⟩⟩
 ·cases H;have:v.isCell=true:=by
   obtain⟨_,x,T,_⟩:=R;rcases T with⟨rfl|rfl,_⟩|⟨r,ver,off,len,room,c0,b,rfl,_⟩<;>rfl
  obtain⟨h1,h2,h3⟩:=one this;exact⟨h2,h3,by rw[h1];exact⟨R,trivial⟩⟩
 ·cases H;have:v.isCell=true:=by simp only[Rel]at R;subst R;rfl
  obtain⟨h1,h2,h3⟩:=one this;exact⟨h2,h3,by rw[h1];exact⟨R,trivial⟩⟩
 ·cases H;have:v.isCell=true:=by obtain⟨vs,rfl,_⟩:=R;rfl
  obtain⟨h1,h2,h3⟩:=one this;exact⟨h2,h3,by rw[h1];exact⟨R,trivial⟩⟩
 ·cases H;have:v.isCell=true:=by obtain⟨r,ver,vs,rfl,_⟩:=R;rfl
  obtain⟨h1,h2,h3⟩:=one this;exact⟨h2,h3,by rw[h1];exact⟨R,trivial⟩⟩
 ·rename_i n e;cases H;simp only[ao,O6]at hg;obtain⟨h1,h2⟩:=qt R.2 hg.2 R.1;refine⟨h1,h2,?_⟩;obtain⟨vs,rfl,hl⟩:∃vs,v=.agg vs/\vs.length=n:=by
   cases v<;>simp_all [PV.fits]
  have hp:=R.1;simp only[pl,O6]at hp;refine RelL.of (by simp[PV.cells,hl]) λi a' v' ha hv=>?_;simp only[Pk,PI]at ha;obtain⟨j,hj,rfl⟩:=ha;have hlt:=getElem?_lt hj;rw[Pa hlt]at hj;simp only[List.getElem_range,O5]at hj;subst hj;simp only[PV.cells]at hv h2;refine⟨ry hp.2 hv,?_⟩;have hcell:=cI h2 hv;have:(aO v').fits none=true:=by
   rw[oS];cases v'<;>simp_all [PV.isCell,PV.fits]
  simp only[X.ev,R.2,ac,aO,tV,mM,dD,oM,hv,Py,this,PQ]
 ·split at H
  ·rename_i n cs' hl;cases H;obtain⟨vs,rfl,h2,h3⟩:=R;exact⟨by simp[PV.fits,<-hl,h3.len],h2,h3⟩
  ·cases H
abbrev PR:=Option (AV×List X×List Nat)
def fY(e:X):PR:=some (.F e,[e],[])
def Abs.bnd(a:Abs):Option PO->Option X
 |none=>some .nl
 |some p=>a.fo p
def Abs.parts(a:Abs):List AV->List (Nat×Option Nat×PO)->Option (List AV×List X)
 |cs,[]=>some (cs,[])
 | cs,(off,sz,x)::ps=>af (a.po x) λav=>af (cellsOf sz av) λln=>
   if off+ln.1.length<=cs.length then af (a.parts (cs.take off++ln.1++cs.drop (off+ln.1.length)) ps) λr=>some (r.1,ln.2++r.2)else none
def cJ(a:Abs):IOp->PR
 |.mov x=>af (a.po x) λav=>some (av,[],[])
 |.pick c x y=>af (a.fo c) λc'=>af (a.po x) λxv=>af (NP c' true xv) λx'=>af (a.po y) λyv=>af (NP c' false yv) λy'=>fY (.ite c' x' y')
 |.build zero parts=>if aj zero then af (vg zero) λz=>af (a.parts z parts) λr=>some (.A r.1,r.2,[])else none
 | .load sz x=>af (a.po x) λxv=>match xv with
   | .P b o=>af (a.box b) λbx=>match sz with
     |none=>af bx.cs[o]? λav=>match av with|.D=>none|av=>some (av,[],bx.fs)
     |some n=>if o+n<=bx.cs.length then some (.A ((bx.cs.drop o).take n),[],bx.fs)else none
   |.F e=>fY (.ld sz e 0)
   |.EP fs _ _ s e i o=>some (.F (.ld sz (.ia s e i) o),[.ld sz (.ia s e i) o],fs)
   |_=>none
 | .nilchk x=>af (a.po x) λxv=>match xv with
   |.P b o=>some (.P b o,[],[])
   |.F e=>some (.F e,[.nck e],[])
   |.EP fs w wr s e i o=>some (.EP fs w wr s e i o,[],[])
   |.C f cs=>some (.C f cs,[],[])
   |.Q fs e=>some (.Q fs e,[],[])
   |_=>none
 |.bin op x y=>af (a.fo x) λx'=>af (a.fo y) λy'=>fY (.bin op x' y')
 |.eqs neg ks x y=>af (a.fo x) λx'=>af (a.fo y) λy'=>fY (.eqs neg ks x' y')
 |.eqb neg x y=>af (a.fo x) λx'=>af (a.fo y) λy'=>fY (.eqb neg x' y')
 |.eqn k neg x y=>af (a.fo x) λx'=>af (a.fo y) λy'=>fY (.eqn k neg x' y')
 |.un op x=>af (a.fo x) λx'=>fY (.un op x')
 |.toInt k x=>af (a.fo x) λx'=>fY (.toInt k x')
 | .b2s x=>af (a.po x) λxv=>match xv with
   |.O fs _ _ _ e=>some (.F (.b2s e),[.b2s e],fs)
   |xv=>af (fx xv) λe=>fY (.b2s e)
 | .slice sz x lo hi mx=>af (a.bnd lo) λl=>af (a.bnd hi) λh=>af (a.bnd mx) λm=>af (a.po x) λxv=>match xv with
   |.N e=>some (.N (.slice sz e l h m),[.slice sz e l h m],[])
   |xv=>af (fx xv) λe=>if(l=.nl∨l=.int .i64 0)/\h=.int .i64 0/\m=.int .i64 0/\sz≠0 then some (.N (.slice sz e l h m),[.slice sz e l h m],[])else fY (.slice sz e l h m)
 | .fieldAddr x off=>af (a.po x) λxv=>match xv with
   |.P b o=>some (.P b (o+off),[],[])
   |.F e=>fY (.fa e off)
   |.EP fs w wr s e i o=>some (.EP fs w wr s e i (o+off),[],[])
   |_=>none
 | .field sz x off=>af (a.po x) λxv=>match xv with
   | .A cs=>(match sz with
     |none=>af cs[off]? λav=>match av with|.D=>none|av=>some (av,[],[])
     |some n=>if off+n<=cs.length then some (.A ((cs.drop off).take n),[],[])else none)
   |xv=>af (fx xv) λe=>fY (.fld sz e off)
 | .indexAddr sz x i=>af (a.fo i) λi'=>af (a.po x) λxv=>match xv with
   |.O fs w wr s e=>if s=sz then some (.EP fs w wr s e i' 0,[.ia sz e i'],[])else none
   |xv=>af (fx xv) λe=>fY (.ia sz e i')
 |.idxArr n sz x i=>af (a.fo x) λx'=>af (a.fo i) λi'=>fY (.iaa n sz x' i')
 | .extract x i=>af (a.po x) λxv=>match xv with
   |.T cs=>af cs[i]? λav=>match av with|.D=>none|av=>some (av,[],[])
   |_=>none
 |.mkfn f caps=>if caps.isEmpty then fY (.fn f .nl)else af (a.pos caps) λcs=>some (.C f cs,[],[])
 | .len x=>af (a.po x) λxv=>match xv with
   |.O _ _ _ _ e=>fY (.len e)
   |xv=>af (fx xv) λe=>fY (.len e)
 |.lenS x=>af (a.fo x) λe=>fY (.lenS e)
 |.mm b xs=>af (a.fos xs) λl=>fY (.mm b l)
 | .same x=>af (a.po x) λxv=>match xv with
   |.O fs w true s e=>if s=1 then some (.O fs w true s e,[.pos e],fs)else none
   |_=>none
 |_=>none
def Jv(c:Cx)(fs:List Nat)(R:List aq):Prop:=∀r∈R,r≠ .dead/\c.nm r∈fs
theorem cT(c:Cx)(fs:List Nat):Jv c fs []:=λ_ h=>by cases h
theorem bB{h:Heap}{r:aq}{e:fg}(hg:h.get r=some e):r≠ .dead:=by rintro rfl;simp[Heap.get]at hg
section
variable{I:Inv}{c:Cx}{a:Abs}{env:Env}{σ:St}
theorem Abs.bnd_ok(S:Sim I c a env σ){x:Option PO}{e:X}{y:PV}{o:Option PV}(H:a.bnd x=some e)(hy:e.ev env=some y)(ho:mE y=some o):uC (PO.ev σ.fr) x=o:=by
 cases x with
 |none=>
  cases H;simp only[X.ev,O5]at hy;subst hy;simp only[mE,O5]at ho;exact ho
 | some p=>
  have:=Abs.fo_ok S H;rw[this.2]at hy;cases hy;simp only[uC];rcases G2 ho with⟨h1,_⟩|⟨k,n,h1,h2⟩
  ·obtain⟨l,h3,_⟩:=Dl h1;rw[h3]at this;simp[pl]at this
  ·rw[h2,en h1];simp[aO]
theorem Abs.parts_ok(S:Sim I c a env σ):∀{ps:List (Nat×Option Nat×PO)}{cs:List AV}{vs:List PV}{r:List AV×List X},a.parts cs ps=some r->RelL c σ.h env cs vs->aj vs=true->ao env r.2=true->
  ∃ws,kW vs (mj (PO.ev σ.fr) ps)=some ws/\RelL c σ.h env r.1 ws/\aj ws=true
 |[],cs,vs,r,H,R,ho,hg=>by cases H;exact⟨vs,rfl,R,ho⟩
 | (off,sz,x)::ps,cs,vs,r,H,R,ho,hg=>by
  simp only[Abs.parts,ab]at H;obtain⟨av,h1,ln,h2,H⟩:=H;split at H
  ·rename_i hle;simp only[ab]at H;obtain⟨r',h3,h4⟩:=H;cases h4;simp only[ce,O6]at hg;obtain⟨k1,k2,k3⟩:=nM (Abs.po_ok S h1) h2 hg.1;have hl:=k3.len;obtain⟨ws,q1,q2,q3⟩:=Abs.parts_ok S (vs:=vs.take off++(x.ev σ.fr).cells++vs.drop (off+(x.ev σ.fr).cells.length)) h3 (((R.take off).app k3).app (by rw[<-hl];exact R.drop _))
    (by simp only[oZ,fT ho,k2,ej ho,PE]) hg.2
   refine⟨ws,?_,q2,q3⟩;simp only[mj,kW];rw[O9 ⟨k1,by rw[<-hl,<-R.len];exact hle⟩];exact q1
  ·cases H
def PureOk(c:Cx)(h:Heap)(env:Env)(m:HM PV)(r:AV×List X×List Nat):Prop:=
 ∃v R,m.runT h=some (v,h,R,[])/\Rel c h env r.1 v/\Jv c r.2.2 R
theorem PureOk.ret{m:HM PV}{e:X}{v:PV}{r:AV×List X×List Nat}(H:fY e=some r)(hm:m=.ret v)(hp:pl v=true)(he:e.ev env=some (aO v)){h:Heap}:PureOk c h env m r:=by
 cases H;subst hm;exact⟨v,[],rfl,⟨hp,he⟩,cT _ _⟩
theorem PureOk.im{o:Option PV}{m:HM PV}{e:X}{x:PV}{r:AV×List X×List Nat}(H:fY e=some r)(hm:m=HM.ofO o)(he:e.ev env=some x)(hi:DW o x){h:Heap}:PureOk c h env m r:=by
 obtain⟨v,hv,hp,hn⟩:=hi;exact PureOk.ret H (by rw[hm,hv];rfl) hp (by rw[he,hn])
theorem iT{e:X}{r:AV×List X×List Nat}(H:fY e=some r)(hg:ao env r.2.1=true):∃x,e.ev env=some x:=by
 cases H;simp only[ao,P2]at hg;exact Option.isSome_iff_exists.1 hg
theorem TokAt.b2s{Pr:aq->Prop}{h:Heap}{sz:Nat}{r:aq}{ver off len room:Nat}{c0:Bool}{b:Blk}{v x:PV}(T:TokAt Pr h sz r ver off len room c0 b v x):
  ∃R,(elems v).runT h=some ((b.es.drop off).take len,h,R,[])/\∀r'∈R,r'=r:=by
 obtain⟨rfl,_,hg,hs,ho,_,_,_,_⟩:=T;simp only[elems];split
 ·rename_i h0;subst h0;exact⟨[],by simp[HM.runT],λ_ h=>by cases h⟩
 ·refine⟨[r],?_,λr' h=>by simpa using h⟩;have h2:(if off+len<=b.es.length/\b.sz=sz then HM.ret (List.take len (List.drop off b.es))else HM.fail).runT h=some ((b.es.drop off).take len,h,[],[]):=by
   rw[O9 ⟨ho,hs⟩];rfl
  exact HM.runT_bind_of (aW hg) h2
theorem zY{v:PV}(h:qZ v):elems v=.ret []:=by rcases h with rfl|rfl<;>rfl
theorem TokOk.elems{Pr:aq->Prop}{h:Heap}{sz:Nat}{v x:PV}(T:TokOk Pr h sz v x):∃es R,(elems v).runT h=some (es,h,R,[])/\bX es=true/\x=.lst (aB es) false/\(∀e∈es,e.cells.length=sz)/\∀r∈R,r≠ .dead/\Pr r:=by
 rcases T with⟨h1,h2⟩|⟨r,ver,off,len,room,c0,b,T⟩
 ·exact⟨[],[],by rw[zY h1];rfl,rfl,h2,(λ_ h=>by cases h),(λ_ h=>by cases h)⟩
 ·obtain⟨R,h1,h2⟩:=T.b2s;obtain⟨rfl,hp,hg,hs,ho,_,hpl,hc,hx⟩:=T;refine⟨_,R,h1,du (cX hpl _) _,hx,λe he=>hc e (Qn (Qo he)),λr' hr=>?_⟩;rw[h2 r' hr];exact⟨bB hg,hp⟩
theorem yq(RO:Nat->List Bool)(C:cG)(S:Sim I c a env σ){op:IOp}{r:AV×List X×List Nat}(H:cJ a op=some r)(hg:ao env r.2.1=true):PureOk c σ.h env (iQ RO C (PO.ev σ.fr) op) r:=by
 cases op with
 |mov x=>
  simp only[cJ,ab]at H;obtain⟨av,h1,h2⟩:=H;cases h2;exact⟨_,[],rfl,Abs.po_ok S h1,cT _ _⟩
 | pick cc x y=>
  simp only[cJ,ab]at H;obtain⟨c',h1,xv,h2,x',h3,yv,h4,y',h5,H⟩:=H;obtain⟨z,hz⟩:=iT H hg;have hc:=Abs.fo_ok S h1;simp only[X.ev,ab]at hz;obtain⟨w,hw,hz⟩:=hz;have hw':=hw;rw[hc.2]at hw;simp only[O5]at hw;split at hz
  ·have:=gu hw;have hx:=GJ hw' (Abs.po_ok S h2) h3;refine PureOk.ret H (v:=x.ev σ.fr) ?_ hx.1 ?_
   ·simp only[iQ,this,vS]
   ·simp only[X.ev,hw',ac];exact hx.2
  ·have:=gu hw;have hx:=GJ hw' (Abs.po_ok S h4) h5;refine PureOk.ret H (v:=y.ev σ.fr) ?_ hx.1 ?_
   ·simp only[iQ,this,vS]
   ·simp only[X.ev,hw',ac];exact hx.2
  ·cases hz
 | build zero parts=>
  simp only[cJ]at H;split at H
  ·rename_i hz;simp only[ab]at H;obtain⟨z,h1,q,h2,h3⟩:=H;cases h3;obtain⟨ws,k1,k2,k3⟩:=Abs.parts_ok S h2 (sG c σ.h env h1) hz hg;exact⟨.agg ws,[],by simp only[iQ,uf,k1];rfl,⟨ws,rfl,k3,k2⟩,cT _ _⟩
  ·cases H
 | load sz x=>
  simp only[cJ,ab]at H;obtain⟨xv,h1,H⟩:=H;have R:=Abs.po_ok S h1;split at H
  ·rename_i b o;simp only[ab]at H;obtain⟨bx,hb,H⟩:=H;obtain⟨hid,n,e,ro,hn,hget,hro,hok,hR⟩:=Abs.box_ok S hb;simp only[Rel]at R;rw[hid]at hn hget;have hl:∀{v:PV},dD e.cells o sz=some v->(iQ RO C (PO.ev σ.fr) (.load sz x)).runT σ.h=some (v,σ.h,[(c.be b).1],[]):=by
    intro v hv;simp only[iQ,R,jN];refine HM.runT_bind_of (R:=[(c.be b).1]) (R2:=[]) (W:=[]) (W2:=[]) (aW hget) ?_;simp[hv,HM.ofO,HM.runT]
   have hrd:Jv c bx.fs [(c.be b).1]:=λr hr=>by
    simp only[Px]at hr;subst hr;exact⟨bB hget,hn⟩
   split at H
   ·simp only[ab]at H;obtain⟨av,hav,H⟩:=H;obtain⟨v,hv,hR'⟩:=hR.get hav;split at H
    ·cases H
    ·cases H;exact⟨v,_,hl hv,hR',hrd⟩
   ·split at H
    ·rename_i m hm;cases H;rw[hR.len]at hm;refine⟨.agg ((e.cells.drop o).take m),_,hl (by simp only[dD,O9 hm]),⟨_,rfl,fT (ej hok _) _,(hR.drop o).take m⟩,hrd⟩
    ·cases H
  ·rename_i e;obtain⟨z,hz⟩:=iT H hg;have hz':=hz;simp only[X.ev,ab]at hz;obtain⟨y,hy,hz⟩:=hz;rw[R.2]at hy;cases hy;obtain⟨l,w,k1,k2,k3,k4⟩:=Na R.1 hz;refine PureOk.ret H (v:=w) ?_ k3 (by rw[hz',k4]);simp only[iQ,k1,jN,k2];rfl
  ·rename_i fs w wr s e i o;cases H;simp only[ao,P2]at hg;obtain⟨z,hz⟩:=Option.isSome_iff_exists.1 hg;have hz':=hz;simp only[Rel,Bf]at R;obtain⟨r,ver,off,len,room,c0,b,x',k,n,T,he,hw,hi,hn0,hn1,hv⟩:=R;obtain⟨hT,hnm,hget,hs,ho,hr,hpl,hc,hx'⟩:=T;simp only[X.ev,he,hi,ac,hx',ab]at hz;obtain⟨y,hy,hz⟩:=hz;have hlen:(aB (List.take len (List.drop off b.es))).length=len:=by
    rw[aQ,Pw,P7];omega
   simp only[au,hlen]at hy;rw[O9 ⟨hn0,hn1⟩]at hy;have hnn:n.toNat<len:=by omega
   have hidx:(List.take len (List.drop off b.es))[n.toNat]?=b.es[off+n.toNat]?:=by
    rw[PN,O9 hnn,PP]
   rw[oM,hidx]at hy;cases hel:b.es[off+n.toNat]? with
   |none=>rw[hel]at hy;cases hy
   | some el=>
    rw[hel]at hy;simp only[Py]at hy;split at hy
    ·cases hy;have hpe:=ry hpl hel;simp only[Cw,i7]at hz;obtain⟨w',k1,k2,k3⟩:=vu (ox hpe) (rn hpe) (kP hz).1;refine⟨w',[r],?_,⟨k2,by rw[hz',k3]⟩,λr' hr'=>?_⟩
     ·simp only[iQ,hv,jN];refine HM.runT_bind_of (R:=[r]) (R2:=[]) (W:=[]) (W2:=[]) (aW hget) ?_;simp[hel,k1,HM.ofO,HM.runT]
     ·simp only[Px]at hr';subst hr';exact⟨bB hget,hnm⟩
    ·cases hy
  ·cases H
 | nilchk x=>
  simp only[cJ,ab]at H;obtain⟨xv,h1,H⟩:=H;have R:=Abs.po_ok S h1;split at H
  ·cases H;refine⟨x.ev σ.fr,[],?_,R,cT _ _⟩;simp only[Rel]at R;simp only[iQ,R,jx];rfl
  ·rename_i e;cases H;simp only[ao,P2]at hg;obtain⟨z,hz⟩:=Option.isSome_iff_exists.1 hg;simp only[X.ev,R.2,ac]at hz;have:=Jy R.1 hz;exact⟨x.ev σ.fr,[],by simp only[iQ,this.1];rfl,R,cT _ _⟩
  ·cases H;refine⟨x.ev σ.fr,[],?_,R,cT _ _⟩;simp only[Rel,Bf]at R;obtain⟨r,ver,off,len,room,c0,b,x',k,n,T,he,hw,hi,hn0,hn1,hv⟩:=R;simp only[iQ,hv,jx];rfl
  ·cases H;refine⟨x.ev σ.fr,[],?_,R,cT _ _⟩;obtain⟨vs,hv,_⟩:=R;simp only[iQ,hv,jx];rfl
  ·cases H;refine⟨x.ev σ.fr,[],?_,R,cT _ _⟩;obtain⟨f,vs,xs,hv,_⟩:=R;simp only[iQ,hv,jx];rfl
  ·cases H
 |bin op x y=>
  simp only[cJ,ab]at H;obtain⟨x',h1,y',h2,H⟩:=H;obtain⟨z,hz⟩:=iT H hg;have hx:=Abs.fo_ok S h1;have hy:=Abs.fo_ok S h2;refine PureOk.im H rfl hz (JL ?_);simpa only[X.ev,hx.2,hy.2,ac]using hz
 |eqs neg ks x y=>
  simp only[cJ,ab]at H;obtain⟨x',h1,y',h2,H⟩:=H;obtain⟨z,hz⟩:=iT H hg;have hx:=Abs.fo_ok S h1;have hy:=Abs.fo_ok S h2;have:=Jp (v:=x.ev σ.fr) (w:=y.ev σ.fr) (by simpa only[X.ev,hx.2,hy.2,ac]using hz);exact PureOk.ret H this.1 this.2.1 (by rw[hz,this.2.2])
 |eqb neg x y=>
  simp only[cJ,ab]at H;obtain⟨x',h1,y',h2,H⟩:=H;obtain⟨z,hz⟩:=iT H hg;have hx:=Abs.fo_ok S h1;have hy:=Abs.fo_ok S h2;refine PureOk.im H rfl hz (Jm ?_);simpa only[X.ev,hx.2,hy.2,ac]using hz
 | eqn k neg x y=>
  simp only[cJ,ab]at H;obtain⟨x',h1,y',h2,H⟩:=H;obtain⟨z,hz⟩:=iT H hg;have hx:=Abs.fo_ok S h1;have hy:=Abs.fo_ok S h2;have hz':=hz;simp only[X.ev,hx.2,hy.2,ac]at hz;split at hz
  ·cases hz
  ·rename_i hk;exact PureOk.im H rfl hz' (Kv hx.1 hy.1 hk hz)
 |un op x=>
  simp only[cJ,ab]at H;obtain⟨x',h1,H⟩:=H;obtain⟨z,hz⟩:=iT H hg;have hx:=Abs.fo_ok S h1;refine PureOk.im H rfl hz (Mg ?_);simpa only[X.ev,hx.2,ac]using hz
 |toInt k x=>
  simp only[cJ,ab]at H;obtain⟨x',h1,H⟩:=H;obtain⟨z,hz⟩:=iT H hg;have hx:=Abs.fo_ok S h1;have:=Gl (v:=x.ev σ.fr) (by simpa only[X.ev,hx.2,ac]using hz);exact PureOk.ret H this.1 this.2.1 (by rw[hz,this.2.2])
 | b2s x=>
  simp only[cJ,ab]at H;obtain⟨xv,h1,H⟩:=H;have R:=Abs.po_ok S h1;split at H
  ·rename_i fs w wr s e;cases H;simp only[ao,P2]at hg;obtain⟨z,hz⟩:=Option.isSome_iff_exists.1 hg;have hz':=hz;obtain⟨hv,x',T,he,_⟩:=R;obtain⟨es,Rr,k1,k2,k3,_,k4⟩:=T.elems;simp only[X.ev,he,ac,k3,DB,PI]at hz;obtain⟨l,hl,rfl⟩:=hz;refine⟨.str l,Rr++[],?_,⟨rfl,by rw[hz'];rfl⟩,by rw[PB];exact k4⟩;have hns:(x.ev σ.fr).isStr=false:=by
    rcases T with⟨hq|hq,_⟩|⟨r,ver,off,len,room,c0,b,hq,_⟩<;>rw[hq]<;>rfl
   simp only[iQ,xc,hns,Ps,PS];refine HM.runT_bind_of (R2:=[]) (W:=[]) (W2:=[]) k1 ?_;rw[qn hl];rfl
  ·simp only[ab]at H;obtain⟨e,h2,H⟩:=H;obtain⟨z,hz⟩:=iT H hg;have hx:=lJ R h2;have:=JE (v:=x.ev σ.fr) (by simpa only[X.ev,hx.2,ac]using hz);exact PureOk.ret H this.1 this.2.1 (by rw[hz,this.2.2])
 | slice sz x lo hi mx=>
  simp only[cJ,ab]at H;obtain⟨l,hl,h',hh,m,hm,xv,h1,H⟩:=H;have R:=Abs.po_ok S h1;have key:∀{e:X}{z:PV},pl (x.ev σ.fr)=true->e.ev env=some (aO (x.ev σ.fr))->(X.slice sz e l h' m).ev env=some z->DW (cV sz (x.ev σ.fr) (uC (PO.ev σ.fr) lo) (uC (PO.ev σ.fr) hi) (uC (PO.ev σ.fr) mx)) z:=by
   intro e z hp he hz;simp only[X.ev,he,ac,ab]at hz;obtain⟨lv,hlv,hv,hhv,mv,hmv,hz⟩:=hz;have hz':=hz;unfold gb at hz;cases e1:mE lv<;>rw[e1]at hz<;>try(cases hz;done)
   cases e2:mE hv<;>rw[e2]at hz<;>try(cases hz;done)
   cases e3:mE mv<;>rw[e3]at hz<;>try(cases hz;done)
   rw[Abs.bnd_ok S hl hlv e1,Abs.bnd_ok S hh hhv e2,Abs.bnd_ok S hm hmv e3];exact AN hp e1 e2 e3 hz'
  split at H
  ·rename_i e;cases H;simp only[ao,P2]at hg;obtain⟨z,hz⟩:=Option.isSome_iff_exists.1 hg;have hp:=iM R.1;obtain⟨v,k1,k2,k3⟩:=key hp.1 (by rw[hp.2];exact R.2) hz;have hnil:qZ v/\aO v=.lst [] false:=by
    rcases R.1 with hq|hq
    ·rw[hq]at k1;simp only[cV]at k1;split at k1
     ·simp only[gB]at k1;split at k1
      ·cases k1
      ·unfold kH at k1;split at k1
       ·split at k1
        ·cases k1;exact⟨.inl rfl,rfl⟩
        ·cases k1
       ·cases k1
     ·cases k1
    ·rw[ hq]at k1;simp only[cV]at k1;split at k1
     ·simp only[gB]at k1;split at k1
      ·cases k1
      ·rename_i hmx;unfold dt at k1;split at k1
       ·rename_i q1 q2 q3;split at k1
        ·rename_i hb;simp only[PT]at hb;cases k1;refine⟨.inr ?_,by simp[aO,aB]⟩;split
         ·simp;omega
         ·simp
        ·cases k1
       ·cases k1
     ·cases k1
   refine⟨v,[],?_,⟨hnil.1,?_⟩,cT _ _⟩
   ·simp only[iQ,k1];rfl
   ·rw[hz,<-k3,hnil.2]
  ·simp only[ab]at H;obtain⟨e,h2,H⟩:=H;have hx:=lJ R h2;split at H
   ·rename_i hzero;cases H;simp only[ao,P2]at hg;obtain⟨z,hz⟩:=Option.isSome_iff_exists.1 hg;obtain⟨v,k1,k2,k3⟩:=key hx.1 hx.2 hz;obtain⟨z1,z2,z3,z4⟩:=hzero;have e1:uC (PO.ev σ.fr) lo=none∨uC (PO.ev σ.fr) lo=some (.int .i64 0):=by
     rcases z1 with rfl|rfl
     ·exact .inl (Abs.bnd_ok S hl rfl rfl)
     ·exact .inr (Abs.bnd_ok S hl rfl rfl)
    have e2:uC (PO.ev σ.fr) hi=some (.int .i64 0):=by subst z2;exact Abs.bnd_ok S hh rfl rfl
    have e3:uC (PO.ev σ.fr) mx=some (.int .i64 0):=by subst z3;exact Abs.bnd_ok S hm rfl rfl
    rw[e2,e3]at k1;have hlo:aL 0 (uC (PO.ev σ.fr) lo)=some 0:=by rcases e1 with e1|e1<;>rw[e1]<;>rfl
    have hnil:qZ v/\aO v=.lst [] false:=by
     simp only[cV]at k1;split at k1
     ·rename_i hs;have hns:(x.ev σ.fr).isStr=false:=by
       cases hq:(x.ev σ.fr).isStr with
       |false=>rfl
       |true=>rw[hq]at hs;exact absurd (by simpa using hs.symm) z4
      unfold gB at k1;simp only[QD,Option.isNone_some,Q4,Ps,PS]at k1;split at k1
      ·unfold kH at k1;split at k1
       ·split at k1
        ·cases k1;exact⟨.inl rfl,rfl⟩
        ·cases k1
       ·cases k1
      ·rename_i hq;rw[hq]at hns;simp[PV.isStr]at hns
      ·rename_i es c0 hq;unfold dt at k1;have e4:aL es.length (some (PV.int .i64 0))=some 0:=rfl;rw[hlo,e4]at k1;simp only at k1;split at k1
       ·cases k1;exact⟨.inr (by simp),by simp[aO,aB]⟩
       ·cases k1
      ·rename_i hq;rw[hq]at hx;simp[pl]at hx
      ·cases k1
     ·cases k1
    refine⟨v,[],?_,⟨hnil.1,?_⟩,cT _ _⟩
    ·simp only[iQ,e2,e3,k1];rfl
    ·rw[hz,<-k3,hnil.2]
   ·obtain⟨z,hz⟩:=iT H hg;exact PureOk.im H rfl hz (key hx.1 hx.2 hz)
 | fieldAddr x off=>
  simp only[cJ,ab]at H;obtain⟨xv,h1,H⟩:=H;have R:=Abs.po_ok S h1;split at H
  ·cases H;simp only[Rel]at R;exact⟨_,[],by simp only[iQ,R,bl,HM.ofO];rfl,rfl,cT _ _⟩
  ·rename_i e;obtain⟨z,hz⟩:=iT H hg;exact PureOk.im H rfl hz (I2 R.1 (by simpa only[X.ev,R.2,ac]using hz))
  ·cases H;simp only[Rel,Bf]at R;obtain⟨r,ver,o,len,room,c0,b,x',k,n,T,he,hw,hi,hn0,hn1,hv⟩:=R;exact⟨_,[],by simp only[iQ,hv,bl,HM.ofO];rfl,⟨r,ver,o,len,room,c0,b,x',k,n,T,he,hw,hi,hn0,hn1,rfl⟩,cT _ _⟩
  ·cases H
 | field sz x off=>
  simp only[cJ,ab]at H;obtain⟨xv,h1,H⟩:=H;have R:=Abs.po_ok S h1;split at H
  ·obtain⟨vs,hv,hok,hR⟩:=R;split at H
   ·simp only[ab]at H;obtain⟨av,hav,H⟩:=H;obtain⟨v,hv',hR'⟩:=hR.get hav;split at H
    ·cases H
    ·cases H;exact⟨v,[],by simp only[iQ,hv,nI,dD,hv'];rfl,hR',cT _ _⟩
   ·split at H
    ·rename_i m hm;cases H;rw[hR.len]at hm;exact⟨.agg ((vs.drop off).take m),[],by simp only[iQ,hv,nI,dD,O9 hm];rfl,⟨_,rfl,fT (ej hok _) _,(hR.drop off).take m⟩,cT _ _⟩
    ·cases H
  ·simp only[ab]at H;obtain⟨e,h2,H⟩:=H;have hx:=lJ R h2;obtain⟨z,hz⟩:=iT H hg;obtain⟨w,k1,k2,k3⟩:=JW hx.1 (by simpa only[X.ev,hx.2,ac]using hz);exact PureOk.ret H k1 k2 (by rw[hz,k3])
 | indexAddr sz x i=>
  simp only[cJ,ab]at H;obtain⟨i',hi,xv,h1,H⟩:=H;have R:=Abs.po_ok S h1;have hi':=Abs.fo_ok S hi;split at H
  ·rename_i fs w wr s e;split at H
   ·rename_i hs;subst hs;cases H;simp only[ao,P2]at hg;obtain⟨z,hz⟩:=Option.isSome_iff_exists.1 hg;obtain⟨hv,x',T,he,hwr⟩:=R;simp only[X.ev,he,hi'.2,ac]at hz;rcases T with⟨_,hx'⟩|⟨r,ver,off,len,room,c0,b,T⟩
    ·subst hx';cases hq:aO (i.ev σ.fr)<;>rw[hq]at hz<;>simp[au]at hz
    ·have T':=T;obtain⟨hT,hnm,hget,hs',ho,hr,hpl,hc,hx'⟩:=T;cases hq:aO (i.ev σ.fr)<;>rw[hq]at hz<;>try(simp[au]at hz;done)
     rename_i k n;have hi2:=en hq;have hlen:(aB (List.take len (List.drop off b.es))).length=len:=by
      rw[aQ,Pw,P7];omega
     rw[hx']at hz;simp only[au,hlen]at hz;split at hz
     ·rename_i hb;refine⟨.ptr r ver (off+n.toNat) 0,[],?_,⟨r,ver,off,len,room,c0,b,x',k,n,by rw[<-hv];exact T',he,λh=>by rw[<-hv];exact hwr h,by rw[hi'.2,hq],hb.1,hb.2,rfl⟩,cT _ _⟩;simp only[iQ,hT,hi2,au];rw[O9 ⟨trivial,hb.1,hb.2⟩];rfl
     ·cases hz
   ·cases H
  ·simp only[ab]at H;obtain⟨e,h2,H⟩:=H;have hx:=lJ R h2;obtain⟨z,hz⟩:=iT H hg;exact PureOk.im H rfl hz (Me hx.1 (by simpa only[X.ev,hx.2,hi'.2,ac]using hz))
 |idxArr n sz x i=>
  simp only[cJ,ab]at H;obtain⟨x',h1,y',h2,H⟩:=H;obtain⟨z,hz⟩:=iT H hg;have hx:=Abs.fo_ok S h1;have hy:=Abs.fo_ok S h2;refine PureOk.im H rfl hz (JV hx.1 ?_);simpa only[X.ev,hx.2,hy.2,ac]using hz
 | extract x i=>
  simp only[cJ,ab]at H;obtain⟨xv,h1,H⟩:=H;have R:=Abs.po_ok S h1;split at H
  ·simp only[ab]at H;obtain⟨av,hav,H⟩:=H;obtain⟨vs,hv,hR⟩:=R;obtain⟨v,hv',hR'⟩:=hR.get hav;split at H
   ·cases H
   ·cases H;exact⟨v,[],by simp only[iQ,hv,pE,hv'];rfl,hR',cT _ _⟩
  ·cases H
 | mkfn f caps=>
  simp only[cJ]at H;split at H
  ·rename_i hc;simp only[Qk]at hc;subst hc;exact PureOk.ret H (v:=.fn f []) rfl rfl rfl
  ·simp only[ab]at H;obtain⟨cs,h1,h2⟩:=H;cases h2;exact⟨_,[],rfl,⟨_,rfl,Abs.pos_ok S h1⟩,cT _ _⟩
 | len x=>
  simp only[cJ,ab]at H;obtain⟨xv,h1,H⟩:=H;have R:=Abs.po_ok S h1;split at H
  ·rename_i fs w wr s e;obtain⟨z,hz⟩:=iT H hg;obtain⟨hv,x',T,he,_⟩:=R;have hz':=hz;simp only[X.ev,he,ac]at hz;rcases T with⟨hn,hx'⟩|⟨r,ver,off,len,room,c0,b,hT,hnm,hget,hs',ho,hr,hpl,hc,hx'⟩
   ·subst hx';simp only[cB,O5]at hz;subst hz;refine PureOk.ret H (v:=.int .i64 0) ?_ rfl (by rw[hz'];rfl);rcases hn with hq|hq<;>simp only[iQ,hq,xf,HM.ofO,PT]<;>rfl
   ·subst hx';have hlen:(aB (List.take len (List.drop off b.es))).length=len:=by
     rw[aQ,Pw,P7];omega
    simp only[cB,O5,hlen]at hz;subst hz;refine PureOk.ret H (v:=.int .i64 len) ?_ rfl (by rw[hz'];rfl);simp only[iQ,hT,xf,HM.ofO]
  ·simp only[ab]at H;obtain⟨e,h2,H⟩:=H;have hx:=lJ R h2;obtain⟨z,hz⟩:=iT H hg;exact PureOk.im H rfl hz (Kh (by simpa only[X.ev,hx.2,ac]using hz))
 |lenS x=>
  simp only[cJ,ab]at H;obtain⟨x',h1,H⟩:=H;obtain⟨z,hz⟩:=iT H hg;have hx:=Abs.fo_ok S h1;refine PureOk.im H rfl hz (GS ?_);simpa only[X.ev,hx.2,ac]using hz
 | mm b xs=>
  simp only[cJ,ab]at H;obtain⟨l,h1,H⟩:=H;obtain⟨z,hz⟩:=iT H hg;have hx:=Abs.fos_ok S h1;have hz':=hz;simp only[X.ev,hx.2,ac,bT]at hz;rcases No hx.1 hz with⟨k1,k2,k3⟩|⟨v,k1,k2,k3⟩
  ·exact PureOk.ret H k1 k2 (by rw[hz',k3])
  ·have hpv:pl v=true:=by have:=hx.1;rw[k1]at this;simp only[bX,P2]at this;exact this
   exact PureOk.ret H (v:=v) k3 hpv (by rw[hz',k2])
 | same x=>
  simp only[cJ,ab]at H;obtain⟨xv,h1,H⟩:=H;have R:=Abs.po_ok S h1;split at H
  ·rename_i fs w s e;split at H
   case isFalse=>cases H
   rename_i hs1;cases H;simp only[ao,P2]at hg;obtain⟨z,hz⟩:=Option.isSome_iff_exists.1 hg;have R':=R;obtain⟨hv,x',T,he,hwr⟩:=R;simp only[X.ev,he,ac]at hz;rcases T with⟨hn,hx'⟩|⟨r,ver,off,len,room,c0,b,hT,hnm,hget,hs',ho,hr,hpl,hc,hx'⟩
   ·subst hx';simp[Ho]at hz
   ·have hlen:(aB (List.take len (List.drop off b.es))).length=len:=by
     rw[aQ,Pw,P7];omega
    have hpos:0<len:=by
     rw[hx']at hz;cases hq:aB (List.take len (List.drop off b.es))with
     |nil=>rw[hq]at hz;simp[Ho]at hz
     |cons y ys=>rw[hq]at hlen;simp at hlen;omega
    have hro:b.ro=false:=by
     rcases hwr rfl with hn|⟨r',ver',sz',off',len',room',b',hq,hq2,hq3,_⟩
     ·rcases hn with hn|hn<;>rw[hn]at hT<;>cases hT
     ·rw[hq]at hT;cases hT;rw[hget]at hq2;cases hq2;exact hq3
    refine⟨x.ev σ.fr,[r],?_,R',λr' hr'=>?_⟩
    ·simp only[iQ,hT,y0,O9 (And.intro hpos hs1)];refine HM.runT_bind_of (R:=[r]) (R2:=[]) (W:=[]) (W2:=[]) (aW hget) ?_;rw[O9 hro];rfl
    ·simp only[Px]at hr';subst hr';exact⟨bB hget,hnm⟩
  ·cases H
 |_=>simp[cJ]at H
end
def sn(st:Nat->Nat)(n:Nat):Nat:=if n %2=0 then 2*st (n/2)else n
def Inv.sr(I:Inv):aq->Nat
 |.l s=>2*I.st s
 |.a i=>2*I.al i+1
 |.dead=>0
theorem iC{I:Inv}{c:Cx}(N:Nm I c){r:aq}(hr:r≠ .dead):sn I.st (c.nm r)=I.sr r:=by
 cases r with
 |a i=>
  rw[N.a i];unfold sn;rw[Pd (by omega)];rfl
 |l s=>
  obtain⟨j,h1,h2⟩:=N.l s;rw[h1];unfold sn;rw[O9 (by omega),show 2*j/2=j by omega,h2];rfl
 |dead=>exact absurd rfl hr
def nU(kp S:List Nat):Bool:=kp.all λk=> !S.contains k
def yk(st:Nat->Nat)(S N:List Nat)(n:Nat):Bool:=S.contains (sn st n)||N.contains n
def wS(d:Option Nat)(w:Nat):Bool:=d==some w
def Abs.kill(st:Nat->Nat)(S N:List Nat)(d:Option Nat)(a:Abs):Abs:=a.keep (yk st S N) (wS d) (λ_=>false)
def AV.kill(st:Nat->Nat)(S N:List Nat)(d:Option Nat)(a:AV):AV:=a.keep (yk st S N) (wS d) (λ_=>false)
abbrev Mut(st:Nat->Nat)(S N:List Nat)(d:Option Nat)(c c':Cx)(h h':Heap)(env:Env):Prop:=Ct (yk st S N) (wS d) (λ_=>false) c c' h h' env env
theorem eD{st:Nat->Nat}{S N:List Nat}{n:Nat}:yk st S N n=false↔sn st n∉S/\n∉N:=by simp[yk]
theorem Mut.of{st:Nat->Nat}{S N:List Nat}{d:Option Nat}{c c':Cx}{h h':Heap}{env:Env}(h1:∀r,sn st (c.nm r)∉S->c.nm r∉N->h'.get r=h.get r/\c'.nm r=c.nm r)
  (h2:∀w,d≠some w->c'.nu w=c.nu w/\c'.be w=c.be w):Mut st S N d c c' h h' env where
 n r hr:=h1 r (eD.1 hr).1 (eD.1 hr).2
 i w hw:=h2 w (by intro he;subst he;simp[wS]at hw)
 v _ _:=rfl
def FlOk(I:Inv)(h h':Heap):Prop:=∀i ver b,h'.get (.a i)=some ⟨ver,some b⟩->(∃ver' b',h.get (.a i)=some ⟨ver',some b'⟩/\b'.es=b.es)∨bX b.es=true∨I.fl (I.al i)=false
theorem FlOk.put_l(I:Inv)(h:Heap)(s:Nat)(e:fg):FlOk I h (h.put (.l s) e):=λi ver b hg=>.inl ⟨ver,b,by rw[<-hg];exact(Heap.get_put_other (by intro h;cases h)).symm,rfl⟩
theorem FlOk.refl(I:Inv)(h:Heap):FlOk I h h:=λ_i ver b hg=>.inl ⟨ver,b,hg,rfl⟩
theorem FlOk.trans{I:Inv}{h h1 h2:Heap}(A:FlOk I h h1)(B:FlOk I h1 h2):FlOk I h h2:=λi ver b hg=>by
 rcases B i ver b hg with⟨v,b',k,e⟩|k
 ·rcases A i v b' k with⟨v2,b2,k2,e2⟩|k2|k2
  ·exact .inl ⟨v2,b2,k2,e2.trans e⟩
  ·exact .inr (.inl (by rw[<-e];exact k2))
  ·exact .inr (.inr k2)
 ·exact .inr k
theorem Sim.mutate{I:Inv}{c c':Cx}{a:Abs}{env:Env}{fr:List PV}{h h':Heap}{S N:List Nat}{d:Option Nat}(Sm:Sim I c a env ⟨fr,h⟩)(M:Mut I.st S N d c c' h h' env)(hn:Nm I c')
  (hL:h'.L.length=h.L.length)(hA:h'.A.length=h.A.length)(hodd:∀k∈I.kp,k %2=1)(hk:nU I.kp (S++N)=true)(hf:FlOk I h h'):Sim I c' (a.kill I.st S N d) env ⟨fr,h'⟩:=by
 refine Sim.keep M Sm hn (by rw[hL];exact Sm.hl) (by rw[hA];exact Sm.ha) (λr hr=>?_) λi ver b hfl hg=>?_
 rotate_left
 ·rcases hf i ver b hg with⟨ver',b',h1,h2⟩|h1|h1
  ·rw[<-h2];exact Sm.fl i ver' b' hfl h1
  ·exact h1
  ·rw[hfl]at h1;cases h1
 have hod:=hodd _ hr;cases r with
 |l s=>obtain⟨j,h1,_⟩:=hn.l s;omega
 |dead=>exact .inl rfl
 | a i=>
  have e:c'.nm (.a i)=c.nm (.a i):=by rw[hn.a i,Sm.nm.a i]
  have hnot:yk I.st S N (c.nm (.a i))=false:=by
   rw[<-e];have h0:=List.all_eq_true.1 hk _ hr;simp only[PW,QS,PC,PD,not_or]at h0;have h1:sn I.st (c'.nm (.a i))=c'.nm (.a i):=by unfold sn;rw[Pd (by omega)]
   exact eD.2 ⟨by rw[h1];exact h0.1,h0.2⟩
  have:=M.n (.a i) hnot;rw[this.1];exact Sm.kp (.a i) (by rw[<-e];exact hr)
theorem bq(h:Heap)(r:aq)(e:fg):(h.put r e).L.length=h.L.length/\(h.put r e).A.length=h.A.length:=by
 have:=Heap.put_lens h r e;exact⟨this.2,this.1⟩
def Cx.new(c:Cx)(s d:Nat)(ver:Nat)(v:PV):Cx where
 nm r:=if r=.l s then 2*s else c.nm r
 nu w:=if w=d then v else c.nu w
 be w:=if w=d then(.l s,ver)else c.be w
theorem Nm.new{I:Inv}{c:Cx}(N:Nm I c)(s d ver:Nat)(v:PV):Nm I (c.new s d ver v) where
 l t:=by
  by_cases ht:t=s
  ·subst ht;exact⟨t,by simp[Cx.new],rfl⟩
  ·simpa[Cx.new,ht]using N.l t
 a i:=by simpa[Cx.new]using N.a i
theorem yR{I:Inv}{c:Cx}{a:Abs}{env:Env}{fr:List PV}{h:Heap}(Sm:Sim I c a env ⟨fr,h⟩){s d:Nat}(b:fg)(v:PV):Mut I.st [2*I.st s] [] (some d) c (c.new s d b.ver v) h (h.put (.l s) b) env:=by
 refine Mut.of (λr hr _=>?_) λw hw=>?_
 ·have hne:r≠ .l s:=by
   rintro rfl
   apply hr;rw[iC Sm.nm (by intro h;cases h)];simp[Inv.sr]
  exact⟨Heap.get_put_other hne,by simp[Cx.new,hne]⟩
 ·have:w≠d:=λe=>hw (by rw[e]);simp[Cx.new,this]
theorem jB{s:Nat}{b:Blk}{h:Heap}{e:fg}(hg:h.get (.l s)=some e):(eG s b).runT h=some (e.ver+1,h.put (.l s) ⟨e.ver+1,some b⟩,[.l s],[.l s]):=by
 simp[eG,HM.runT,hg]
theorem lF{h:Heap}{s n:Nat}(hL:h.L.length=n)(hs:s<n):∃e,h.get (.l s)=some e:=by
 simp only[Heap.get];exact⟨_,Pa (by omega)⟩
structure uk where
 av:AV
 a:Abs
 ns:List X
 rd:List Nat
 wr:List Nat
def cZ(I:Inv)(S:List Nat)(l:List aq):Prop:=∀r∈l,r≠ .dead/\I.sr r∈S
def jP(I:Inv)(c:Cx)(_a:Abs)(env:Env)(σ:St)(d:Option Nat)(m:HM PV)(r:uk):Prop:=
 ∃v h' R W c',m.runT σ.h=some (v,h',R,W)/\Sim I c' r.a env ⟨σ.fr,h'⟩/\Rel c' h' env r.av v/\cZ I r.rd R/\cZ I r.wr W/\(∀i,c'.nm (.a i)=c.nm (.a i))/\(∀w,d≠some w->c'.be w=c.be w)/\FlOk I σ.h h'
theorem xV{c:Cx}{s d ver:Nat}{v:PV}:∀w,some d≠some w->(c.new s d ver v).be w=c.be w:=λw hw=>by
 have:w≠d:=λe=>hw (by rw[e]);simp[Cx.new,this]
theorem lY{I:Inv}{c:Cx}{a:Abs}{env:Env}{σ:St}(S:Sim I c a env σ)(hodd:∀k∈I.kp,k %2=1){s d:Nat}(hs:s<I.ns)(hk:nU I.kp [2*I.st s]=true){sz:Nat}{es:List PV}{e:X}
  (hp:bX es=true)(hc:∀x∈es,x.cells.length=sz)(he:e.ev env=some (.lst (aB es) false)){m:HM PV}
  (hm:m=(eG s ⟨sz,es,false⟩).bind λv=>.ret (.tok (.l s) v sz 0 es.length es.length false)){ns:List X}:
  jP I c a env σ (some d) m ⟨.O [2*s] d true sz e,a.kill I.st [2*I.st s] [] (some d),ns,[2*I.st s],[2*I.st s]⟩:=by
 obtain⟨e0,hg⟩:=lF S.hl hs;have hg':(σ.h.put (.l s) ⟨e0.ver+1,some ⟨sz,es,false⟩⟩).get (.l s)=some ⟨e0.ver+1,some ⟨sz,es,false⟩⟩:=Heap.get_put_same hg (by intro i h;cases h);have S':Sim I c a env ⟨σ.fr,σ.h⟩:=S;have hT:cZ I [2*I.st s] [.l s]:=λr hr=>by
  simp only[Px]at hr;subst hr;exact⟨(by intro h;cases h),by simp[Inv.sr]⟩
 refine⟨.tok (.l s) (e0.ver+1) sz 0 es.length es.length false,σ.h.put (.l s) ⟨e0.ver+1,some ⟨sz,es,false⟩⟩,[.l s],[.l s],c.new s d (e0.ver+1) (.tok (.l s) (e0.ver+1) sz 0 es.length es.length false),?_,?_,?_,hT,hT,?_,xV,.put_l _ _ _ _⟩
 ·subst hm;have:=HM.runT_bind_of (f:=λv=>HM.ret (PV.tok (.l s) v sz 0 es.length es.length false)) (R2:=[]) (W2:=[]) (jB (b:=⟨sz,es,false⟩) hg) rfl;simpa using this
 ·exact S'.mutate (yR S' ⟨e0.ver+1,some ⟨sz,es,false⟩⟩ (PV.tok (.l s) (e0.ver+1) sz 0 es.length es.length false)) (S.nm.new _ _ _ _) (bq _ _ _).1 (bq _ _ _).2 hodd hk (.put_l _ _ _ _)
 ·refine⟨by simp[Cx.new],.lst (aB es) false,.inr ⟨.l s,e0.ver+1,0,es.length,es.length,false,⟨sz,es,false⟩,rfl,by simp[Cx.new],hg',rfl,by simp,by simp,hp,hc,by simp⟩,he,λ_=>?_⟩;exact .inr ⟨.l s,e0.ver+1,sz,0,es.length,es.length,⟨sz,es,false⟩,rfl,hg',rfl,by simp⟩
 ·intro i;simp[Cx.new]
def Abs.fits(a:Abs)(sz:Option Nat):List PO->Option (X×List X)
 |[]=>some (.nl,[])
 |x::xs=>af (a.fo x) λe=>af (a.fits sz xs) λl=>some (.cn e l.1,qY sz e++l.2)
theorem AJ{v:PV}{sz:Option Nat}(h:v.fits sz=true):v.cells.length=sz.getD 1:=by
 cases sz<;>cases v<;>simp_all [PV.fits,PV.cells]
theorem Abs.fits_ok{I:Inv}{c:Cx}{a:Abs}{env:Env}{σ:St}(S:Sim I c a env σ){sz:Option Nat}:∀{xs:List PO}{l:X×List X},a.fits sz xs=some l->ao env l.2=true->
  bX (kQ (PO.ev σ.fr) xs)=true/\l.1.ev env=some (.tup (aB (kQ (PO.ev σ.fr) xs)))/\gy sz (kQ (PO.ev σ.fr) xs)=true/\∀x∈kQ (PO.ev σ.fr) xs,x.cells.length=sz.getD 1
 |[],l,H,_=>by cases H;exact⟨rfl,rfl,rfl,λ_ h=>by cases h⟩
 |x::xs,l,H,hg=>by
  simp only[Abs.fits,ab]at H;obtain⟨e,h1,l',h2,h3⟩:=H;cases h3;simp only[ce,O6]at hg;have q1:=Abs.fo_ok S h1;obtain⟨k1,k2,k3,k4⟩:=Abs.fits_ok S h2 hg.2;have q2:=qt q1.2 hg.1 q1.1;refine⟨by simp only[kQ,bX,q1.1,k1,PE],by simp only[X.ev,q1.2,k2,ac,kQ,aB],by simp only[kQ,gy,q2.1,q2.2,k3,PE],λy hy=>?_⟩;simp only[kQ,Qx]at hy;rcases hy with rfl|hy
  ·exact AJ q2.1
  ·exact k4 y hy
def pr(st:Nat->Nat)(kp:List Nat)(ns:Nat)(a:Abs)(d:Nat)(s sz:Nat)(e:X)(needs:List X):Option uk:=
 if s<ns/\nU kp [2*st s]then some ⟨.O [2*s] d true sz e,a.kill st [2*st s] [] (some d),needs,[2*st s],[2*st s]⟩else none
def nC(st:Nat->Nat)(kp:List Nat)(ns:Nat)(a:Abs)(d:Nat)(sz:Option Nat)(parts:List PO)(s:Nat):Option uk:=
 af (a.fits sz parts) λl=>pr st kp ns a d s (sz.getD 1) (.lst l.1) l.2
theorem u6{I:Inv}{c:Cx}{a:Abs}{env:Env}{σ:St}(S:Sim I c a env σ)(hodd:∀k∈I.kp,k %2=1){d:Nat}{sz:Option Nat}{parts:List PO}{s:Nat}{r:uk}
  (H:nC I.st I.kp I.ns a d sz parts s=some r)(hg:ao env r.ns=true):jP I c a env σ (some d) (dz sz (kQ (PO.ev σ.fr) parts) s) r:=by
 simp only[nC,ab,pr]at H;obtain⟨l,h1,H⟩:=H;split at H
 ·rename_i hc;cases H;obtain⟨k1,k2,k3,k4⟩:=Abs.fits_ok S h1 hg;refine lY S hodd hc.1 hc.2 k1 k4 (by simp only[X.ev,k2,ac,bT]) ?_;simp only[dz,k3,PQ]
 ·cases H
def E5(st:Nat->Nat)(kp:List Nat)(ns:Nat)(a:Abs)(d:Nat)(x:PO)(s:Nat):Option uk:=
 af (a.fo x) λe=>pr st kp ns a d s 1 (.s2b e) [.s2b e]
theorem Hr{I:Inv}{c:Cx}{a:Abs}{env:Env}{σ:St}(S:Sim I c a env σ)(hodd:∀k∈I.kp,k %2=1){d:Nat}{x:PO}{s:Nat}{r:uk}
  (H:E5 I.st I.kp I.ns a d x s=some r)(hg:ao env r.ns=true):jP I c a env σ (some d) (Gq (x.ev σ.fr) s) r:=by
 simp only[E5,ab,pr]at H;obtain⟨e,h1,H⟩:=H;split at H
 ·rename_i hc;cases H;have hx:=Abs.fo_ok S h1;simp only[ao,P2]at hg;obtain⟨z,hz⟩:=Option.isSome_iff_exists.1 hg;have hz':=hz;simp only[X.ev,hx.2,ac]at hz;obtain⟨l,k1,k2,k3⟩:=Kg hz;have hpl:bX (l.map λb=>PV.int .u8 b.toNat)=true:=it.2 λy hy=>by obtain⟨b,_,rfl⟩:=List.mem_map.1 hy;rfl
  have hnr:aB (l.map λb=>PV.int .u8 b.toNat)=l.map λb=>PV.int .u8 b.toNat:=by rw[gh,List.map_map];rfl
  refine lY S hodd hc.1 hc.2 hpl (λy hy=>by obtain⟨b,_,rfl⟩:=List.mem_map.1 hy;rfl) (by rw[hz',k3,hnr]) ?_;simp only[k1,Gq,k2,PQ,PU]
 ·cases H
def r9(st:Nat->Nat)(kp:List Nat)(ns:Nat)(a:Abs)(d:Nat)(sz:Nat)(z:PV)(n:PO)(s:Nat):Option uk:=
 af (tG z) λze=>af (a.fo n) λe=>pr st kp ns a d s sz (.mks sz ze e) [.mks sz ze e]
theorem zk{I:Inv}{c:Cx}{a:Abs}{env:Env}{σ:St}(S:Sim I c a env σ)(hodd:∀k∈I.kp,k %2=1){d sz:Nat}{z:PV}{n:PO}{s:Nat}{r:uk}
  (H:r9 I.st I.kp I.ns a d sz z n s=some r)(hg:ao env r.ns=true):jP I c a env σ (some d) (kE sz z (n.ev σ.fr) s) r:=by
 simp only[r9,ab,pr]at H;obtain⟨ze,h0,e,h1,H⟩:=H;split at H
 ·rename_i hc;cases H;have hx:=Abs.fo_ok S h1;have hz0:=yP env h0;simp only[ao,P2]at hg;obtain⟨y,hy⟩:=Option.isSome_iff_exists.1 hg;have hy':=hy;simp only[X.ev,hx.2,hz0.2,ac,G8]at hy;split at hy
  ·rename_i k m hm;have hn:=en hm;split at hy
   ·rename_i hb;cases hy;have hrep:∀y∈List.replicate m.toNat z,y=z:=λy hy=>(List.mem_replicate.1 hy).2;rw[gm,i7,dE]at hb;refine lY S hodd hc.1 hc.2 (es:=List.replicate m.toNat z) (it.2 λy hy=>by rw[hrep y hy];exact hz0.1) (λy hy=>by rw[hrep y hy];exact hb.2.2.1) (by rw[hy',gh,List.map_replicate]) ?_;simp only[hn,kE,Qz];rw[O9 hb]
   ·cases hy
  ·cases hy
 ·cases H
def Gu(st:Nat->Nat)(kp:List Nat)(ns:Nat)(a:Abs)(d:Nat)(sz:Option Nat)(x:PO)(s:Nat):Option uk:=
 af (a.po x) λxv=>af (cellsOf sz xv) λcn=>
  if s<ns/\nU kp [2*st s]then
   some ⟨.P d 0,⟨(a.kill st [2*st s] [] (some d)).t,⟨d,false,[2*s],cn.1.map (AV.kill st [2*st s] [] (some d))⟩::(a.kill st [2*st s] [] (some d)).b⟩,cn.2,[2*st s],[2*st s]⟩else none
theorem HS{I:Inv}{c:Cx}{a:Abs}{env:Env}{σ:St}(S:Sim I c a env σ)(hodd:∀k∈I.kp,k %2=1){d:Nat}{sz:Option Nat}{x:PO}{s:Nat}{r:uk}
  (H:Gu I.st I.kp I.ns a d sz x s=some r)(hg:ao env r.ns=true):jP I c a env σ (some d) (xA sz (x.ev σ.fr) s) r:=by
 simp only[Gu,ab]at H;obtain⟨xv,h1,cn,h2,H⟩:=H;split at H
 ·rename_i hc;cases H;obtain⟨k1,k2,k3⟩:=nM (Abs.po_ok S h1) h2 hg;obtain⟨e0,hge⟩:=lF S.hl hc.1;generalize hx:x.ev σ.fr=v at*;have hg':(σ.h.put (.l s) ⟨e0.ver+1,some ⟨v.cells.length,[v],false⟩⟩).get (.l s)=some ⟨e0.ver+1,some ⟨v.cells.length,[v],false⟩⟩:=Heap.get_put_same hge (by intro i h;cases h);have S':Sim I c a env ⟨σ.fr,σ.h⟩:=S;have hT:cZ I [2*I.st s] [.l s]:=λr hr=>by
   simp only[Px]at hr;subst hr;exact⟨(by intro h;cases h),by simp[Inv.sr]⟩
  have M:=yR S' (s:=s) (d:=d) ⟨e0.ver+1,some ⟨v.cells.length,[v],false⟩⟩ .junk;have S1:=S'.mutate M (S.nm.new _ _ _ _) (bq _ _ _).1 (bq _ _ _).2 hodd hc.2 (.put_l _ _ _ _);refine⟨.ptr (.l s) (e0.ver+1) 0 0,σ.h.put (.l s) ⟨e0.ver+1,some ⟨v.cells.length,[v],false⟩⟩,[.l s],[.l s],c.new s d (e0.ver+1) .junk,?_,⟨S1.fr,S1.tm,λy hy=>?_,S1.nm,S1.hl,S1.ha,S1.kp,S1.fl⟩,?_,hT,hT,?_,xV,.put_l _ _ _ _⟩
  ·simp only[xA];rw[O9 ⟨k1,k2⟩];have:=HM.runT_bind_of (f:=λv=>HM.ret (PV.ptr (.l s) v 0 0)) (R2:=[]) (W2:=[]) (jB (b:=⟨v.cells.length,[v],false⟩) hge) rfl;simpa using this
  ·rcases List.mem_cons.1 hy with rfl|hy
   ·refine⟨v.cells.length,v,false,by simp[Cx.new],?_,λ_=>rfl,k2,k3.keep M⟩;simp only[Cx.new,PQ];exact hg'
   ·exact S1.bx y hy
  ·simp[Rel,Cx.new]
  ·intro i;simp[Cx.new]
 ·cases H
def CW(fl:Nat->Bool)(fs:List Nat):Bool:=fs.all λn=>n %2==0|| !fl (n/2)
def vm(st:Nat->Nat)(fl:Nat->Bool)(kp:List Nat)(a:Abs)(sz:Option Nat)(b o:Nat)(y:PO):Option uk:=
 af (a.box b) λbx=>af (a.po y) λyv=>af (cellsOf sz yv) λln=>
  if bx.ro=false/\o+ln.1.length<=bx.cs.length/\nU kp bx.fs/\CW fl bx.fs then
   some ⟨.D,⟨(a.kill st [] bx.fs none).t,⟨b,false,bx.fs,(bx.cs.take o++ln.1++bx.cs.drop (o+ln.1.length)).map (AV.kill st [] bx.fs none)⟩::(a.kill st [] bx.fs none).b⟩,ln.2,bx.fs.map (sn st),bx.fs.map (sn st)⟩else none
theorem qK{e:PV}{cs:List PV}(ho:aj e.cells=true)(hl:cs.length=e.cells.length)(hc:aj cs=true):(e.withCells cs).cells=cs:=by
 cases e with
 |agg es=>rfl
 |_=>
  simp only[PV.cells,PJ,PT]at hl;obtain⟨x,rfl⟩:=List.length_eq_one_iff.1 hl;simp only[PV.withCells,List.headD_cons];simp only[aj,P2]at hc;cases x<;>first|rfl|(simp[PV.isCell]at hc;done)
theorem tp{I:Inv}{c:Cx}{a:Abs}{env:Env}{fr:List PV}{h:Heap}(S:Sim I c a env ⟨fr,h⟩)(hodd:∀k∈I.kp,k %2=1){sz:Option Nat}{b o:Nat}{bx:BX}{ln:List AV}{v:PV}(h1:a.box b=some bx)
  (k1:v.fits sz=true)(k2:aj v.cells=true)(k3:RelL c h env ln v.cells)(hc1:bx.ro=false)(hc2:o+ln.length<=bx.cs.length)(hc3:nU I.kp bx.fs=true)(hc4:CW I.fl bx.fs=true):
  ∃h',(fK sz (.ptr (c.be b).1 (c.be b).2 0 o) v).runT h=some (.junk,h',[(c.be b).1],[(c.be b).1])/\Sim I c ⟨(a.kill I.st [] bx.fs none).t,⟨b,false,bx.fs,(bx.cs.take o++ln++bx.cs.drop (o+ln.length)).map (AV.kill I.st [] bx.fs none)⟩::(a.kill I.st [] bx.fs none).b⟩ env ⟨fr,h'⟩/\
   cZ I (bx.fs.map (sn I.st)) [(c.be b).1]/\FlOk I h h':=by
 obtain⟨hid,n,e,ro,hn,hget,hro,hok,hR⟩:=Abs.box_ok S h1;rw[hid]at hn hget;have hro':=hro hc1;subst hro';have hlen:=k3.len;have hle:o+v.cells.length<=e.cells.length:=by rw[<-hlen,<-hR.len];exact hc2
 have hcl:(e.cells.take o++v.cells++e.cells.drop (o+v.cells.length)).length=e.cells.length:=by
  simp only[Pu,Pw,P7];omega
 have hoc:aj (e.cells.take o++v.cells++e.cells.drop (o+v.cells.length))=true:=by
  simp only[oZ,fT hok,k2,ej hok,PE]
 have hwc:=qK hok hcl hoc;generalize hnb:e.withCells (e.cells.take o++v.cells++e.cells.drop (o+v.cells.length))=e' at*;have hver:∀i,(c.be b).1=.a i->(⟨(c.be b).2,some ⟨n,[e'],false⟩⟩:fg).ver=0:=λi hi=>by
  rw[hi]at hget;have h0:=Heap.ver_a hget;exact h0
 have hg':=Heap.get_put_same (e':=⟨(c.be b).2,some ⟨n,[e'],false⟩⟩) hget hver;have hnd:=bB hget;have hsr:I.sr (c.be b).1∈bx.fs.map (sn I.st):=by
  rw[<-iC S.nm hnd];exact P0 hn
 have hT:cZ I (bx.fs.map (sn I.st)) [(c.be b).1]:=λr hr=>by
  simp only[Px]at hr;subst hr;exact⟨hnd,hsr⟩
 have M:Mut I.st [] bx.fs none c c h (h.put (c.be b).1 ⟨(c.be b).2,some ⟨n,[e'],false⟩⟩) env:=by
  refine Mut.of (λr _ hr=>⟨Heap.get_put_other ?_,rfl⟩) λw _=>⟨rfl,rfl⟩
  rintro rfl
  exact hr hn
 have hfl:FlOk I h (h.put (c.be b).1 ⟨(c.be b).2,some ⟨n,[e'],false⟩⟩):=λi ver b' hgi=>by
  by_cases hi:aq.a i=(c.be b).1
  ·right;right;rw[<-hi,S.nm.a i]at hn;have:=List.all_eq_true.1 hc4 _ hn;rw[show(2*I.al i+1)/2=I.al i by omega]at this;have h2:((2*I.al i+1) %2==0)=false:=by simp
   rw[h2]at this;simpa using this
  ·exact .inl ⟨ver,b',by rw[<-hgi];exact(Heap.get_put_other hi).symm,rfl⟩
 have S1:=S.mutate M S.nm (bq _ _ _).1 (bq _ _ _).2 hodd hc3 hfl;refine⟨h.put (c.be b).1 ⟨(c.be b).2,some ⟨n,[e'],false⟩⟩,?_,⟨S1.fr,S1.tm,λz hz=>?_,S1.nm,S1.hl,S1.ha,S1.kp,S1.fl⟩,hT,hfl⟩
 ·simp only[fK];refine HM.runT_bind_of (R:=[(c.be b).1]) (R2:=[]) (W:=[]) (W2:=[(c.be b).1]) (aW hget) ?_;simp only[Pg];rw[O9 ⟨k1,k2,hle,trivial⟩];simp only[HM.runT,hget,List.set_cons_zero,hnb]
 ·rcases List.mem_cons.1 hz with rfl|hz
  ·refine⟨n,e',false,hn,hg',λ_=>rfl,by rw[hwc];exact hoc,?_⟩;rw[hwc];refine RelL.keep M (((hR.take o).app k3).app ?_);rw[hlen];exact hR.drop _
  ·exact S1.bx z hz
theorem BG{I:Inv}{c:Cx}{a:Abs}{env:Env}{σ:St}(S:Sim I c a env σ)(hodd:∀k∈I.kp,k %2=1){d:Option Nat}{sz:Option Nat}{b o:Nat}{y:PO}{r:uk}{xv:PV}(hx:Rel c σ.h env (.P b o) xv)
  (H:vm I.st I.fl I.kp a sz b o y=some r)(hg:ao env r.ns=true):jP I c a env σ d (fK sz xv (y.ev σ.fr)) r:=by
 simp only[vm,ab]at H;obtain⟨bx,h1,yv,h2,ln,h3,H⟩:=H;split at H
 ·rename_i hc;cases H;obtain⟨k1,k2,k3⟩:=nM (Abs.po_ok S h2) h3 hg;simp only[Rel]at hx;obtain⟨h',g1,g2,g3,g4⟩:=tp (S:Sim I c a env ⟨σ.fr,σ.h⟩) hodd h1 k1 k2 k3 hc.1 hc.2.1 hc.2.2.1 hc.2.2.2;exact⟨.junk,h',_,_,c,by rw[hx];exact g1,g2,trivial,g3,g3,λ_=>rfl,λ_ _=>rfl,g4⟩
 ·cases H
mutual
def Cn(st:Nat->Nat)(S N:List Nat)(w:Nat)(new:AV):AV->AV
 |.O fs w' wr sz e=>if w'=w then new else AV.kill st S N none (.O fs w' wr sz e)
 |.A cs=>.A (CD st S N w new cs)
 |a=>AV.kill st S N none a
def CD(st:Nat->Nat)(S N:List Nat)(w:Nat)(new:AV):List AV->List AV
 |[]=>[]
 |a::as=>Cn st S N w new a::CD st S N w new as
end
theorem Rel.keep1{nf idf vf:Nat->Bool}{c c':Cx}{h h':Heap}{env env':Env}(M:Ct nf idf vf c c' h h' env env'){a:AV}{v:PV}(R:Rel c h env a v):Rel c' h' env' (a.keep nf idf vf) v:=by
 simp only[AV.keep];split
 ·rename_i ho;exact Rel.frame M ho R
 ·trivial
section
variable{st:Nat->Nat}{S N:List Nat}{c c':Cx}{h h':Heap}{env:Env}{w:Nat}{new:AV}
mutual
theorem Rel.reup(M:Mut st S N none c c' h h' env)(hn:Rel c' h' env new (c.nu w)):∀{a:AV}{v:PV},Rel c h env a v->Rel c' h' env (Cn st S N w new a) v
 |.O fs w' wr sz e,v,R=>by
  simp only[Cn];split
  ·rename_i hw;subst hw;rw[R.1];exact hn
  ·exact Rel.keep1 M R
 |.A cs,v,R=>by
  obtain⟨vs,h1,h2,h3⟩:=R;exact⟨vs,h1,h2,RelL.reup M hn h3⟩
 |.D,v,R=>Rel.keep1 M R
 |.F e,v,R=>Rel.keep1 M R
 |.N e,v,R=>Rel.keep1 M R
 |.Q ..,v,R=>Rel.keep1 M R
 |.P ..,v,R=>Rel.keep1 M R
 |.EP ..,v,R=>Rel.keep1 M R
 |.C ..,v,R=>Rel.keep1 M R
 |.L ..,v,R=>Rel.keep1 M R
 |.T ..,v,R=>Rel.keep1 M R
 |.G ..,v,R=>Rel.keep1 M R
theorem RelL.reup(M:Mut st S N none c c' h h' env)(hn:Rel c' h' env new (c.nu w)):∀{as:List AV}{vs:List PV},RelL c h env as vs->RelL c' h' env (CD st S N w new as) vs
 |[],[],_=>trivial
 |a::as,v::vs,R=>⟨Rel.reup M hn R.1,RelL.reup M hn R.2⟩
 |[],_::_,R=>by cases R
 |_::_,[],R=>by cases R
end
end
def Abs.reup(st:Nat->Nat)(S N:List Nat)(w:Nat)(new:AV)(a:Abs):Abs:=
 ⟨a.t.map λp=>(p.1,Cn st S N w new p.2),(a.b.filter λx=>x.fs.all λn=> !yk st S N n).map λx=>⟨x.id,x.ro,x.fs,CD st S N w new x.cs⟩⟩
theorem Sim.reup{I:Inv}{c c':Cx}{a:Abs}{env:Env}{fr:List PV}{h h':Heap}{S N:List Nat}{w:Nat}{new:AV}(Sm:Sim I c a env ⟨fr,h⟩)(M:Mut I.st S N none c c' h h' env)(hn:Nm I c')
  (hL:h'.L.length=h.L.length)(hA:h'.A.length=h.A.length)(hodd:∀k∈I.kp,k %2=1)(hk:nU I.kp (S++N)=true)(hf:FlOk I h h')(hnew:Rel c' h' env new (c.nu w)):Sim I c' (a.reup I.st S N w new) env ⟨fr,h'⟩:=by
 have S1:=Sm.mutate M hn hL hA hodd hk hf;refine⟨S1.fr,λp hp=>?_,λx hx=>?_,S1.nm,S1.hl,S1.ha,S1.kp,S1.fl⟩
 ·obtain⟨q,hq,rfl⟩:=List.mem_map.1 hp;exact Rel.reup M hnew (Sm.tm q hq)
 ·obtain⟨y,hy,rfl⟩:=List.mem_map.1 hx;obtain⟨h1,h2⟩:=List.mem_filter.1 hy;obtain⟨n,e,ro,k1,k2,k3,k4,k5⟩:=Sm.bx y h1;have hb:=(M.i y.id (by simp[wS])).2;have hr:=M.n (c.be y.id).1 (fZ (nf:=yk I.st S N) h2 k1);refine⟨n,e,ro,?_,?_,k3,k4,RelL.reup M hnew k5⟩
  ·simp only[hb,hr.2];exact k1
  ·simp only[hb,hr.1];exact k2
theorem wQ(e:PV)(cs:List PV):aO (e.withCells cs)=(aO e).withCells (aB cs):=by
 cases e<;>cases cs<;>simp[PV.withCells,aO,aB]
theorem E8(l:List PV)(i:Nat)(v:PV):aB (l.set i v)=(aB l).set i (aO v):=by simp only[gh,List.map_set]
def wn(st:Nat->Nat)(kp:List Nat)(a:Abs)(szo:Option Nat)(fs:List Nat)(w sz:Nat)(e i:X)(o:Nat)(y:PO):Option uk:=
 af (a.fo y) λy'=>
  if nU kp fs then
   some ⟨.D,a.reup st [] fs w (.O fs w true sz (.upd szo e i o y')),[.upd szo e i o y'],fs.map (sn st),fs.map (sn st)⟩else none
theorem Ce{I:Inv}{c:Cx}{a:Abs}{env:Env}{σ:St}(S:Sim I c a env σ)(hodd:∀k∈I.kp,k %2=1){d:Option Nat}{szo:Option Nat}{fs:List Nat}{w sz:Nat}{e i:X}{o:Nat}{y:PO}{r:uk}{xv:PV}
  (hx:Rel c σ.h env (.EP fs w true sz e i o) xv)
  (H:wn I.st I.kp a szo fs w sz e i o y=some r)(hg:ao env r.ns=true):jP I c a env σ d (fK szo xv (y.ev σ.fr)) r:=by
 simp only[wn,ab]at H;obtain⟨y',h1,H⟩:=H;split at H
 ·rename_i hk;cases H;have hy:=Abs.fo_ok S h1;simp only[Rel,Bf]at hx;obtain⟨q,ver,off,len,room,c0,b,x',k,n,T,he,hw,hi,hn0,hn1,hv⟩:=hx;obtain⟨hT,hnm,hget,hs,ho,hr,hpl,hc,hx'⟩:=T;have hwr:b.ro=false/\off+room<=b.es.length/\c0=false:=by
   rcases hw trivial with hn|⟨r',ver',sz',off',len',room',b',hq,hq2,hq3,hq4⟩
   ·rcases hn with hn|hn<;>rw[hn]at hT<;>cases hT
   ·rw[hq]at hT;cases hT;rw[hget]at hq2;cases hq2;exact⟨hq3,hq4,rfl⟩
  obtain⟨w1,w2,w3⟩:=hwr;subst w3;generalize y.ev σ.fr=yv at*;simp only[ao,P2]at hg;obtain⟨z,hz⟩:=Option.isSome_iff_exists.1 hg;have hz':=hz;have hlen:(aB (List.take len (List.drop off b.es))).length=len:=by
   rw[aQ,Pw,P7];omega
  simp only[X.ev,he,hi,hy.2,ac,hx',DR,hlen]at hz;rw[O9 ⟨hn0,hn1⟩]at hz;have hnn:n.toNat<len:=by omega
  have hidx:(List.take len (List.drop off b.es))[n.toNat]?=b.es[off+n.toNat]?:=by
   rw[PN,O9 hnn,PP]
  rw[oM,hidx]at hz;cases hel:b.es[off+n.toNat]? with
  |none=>rw[hel]at hz;cases hz
  | some el=>
   rw[hel]at hz;simp only[Py]at hz;split at hz
   ·rename_i hcond;rw[oS,i7,dE,aQ,gm]at hcond;obtain⟨f1,f2,f3⟩:=hcond;have hpe:=ry hpl hel;have hoe:=rn hpe;generalize hcs:el.cells.take o++yv.cells++el.cells.drop (o+yv.cells.length)=cs at*;have hcl:cs.length=el.cells.length:=by
     rw[<-hcs];simp only[Pu,Pw,P7];omega
    have hoc:aj cs=true:=by
     rw[<-hcs];simp only[oZ,fT hoe,f2,ej hoe,PE]
    have hpc:bX cs=true:=by
     rw[<-hcs];simp only[ki,du (ox hpe),ox hy.1,cX (ox hpe),PE]
    have hwc:=qK hoe hcl hoc;have hpw:pl (el.withCells cs)=true:=by
     cases el with
     |agg es=>simp only[PV.withCells,pl,hoc,hpc,PE]
     |_=>
      simp only[PV.withCells];simp only[PV.cells,PJ,PT]at hcl;obtain⟨x,rfl⟩:=List.length_eq_one_iff.1 hcl;simp only[bX,P2]at hpc;exact hpc
    have hlt:=getElem?_lt hel;have hver:∀j,q=.a j->(⟨ver,some ⟨b.sz,b.es.set (off+n.toNat) (el.withCells cs),false⟩⟩:fg).ver=0:=λj hj=>by
     rw[hj]at hget;have h0:=Heap.ver_a hget;exact h0
    have hg':=Heap.get_put_same (e':=⟨ver,some ⟨b.sz,b.es.set (off+n.toNat) (el.withCells cs),false⟩⟩) hget hver;have S':Sim I c a env ⟨σ.fr,σ.h⟩:=S;have hnd:=bB hget;have hTr:cZ I (fs.map (sn I.st)) [q]:=λr hr=>by
     simp only[Px]at hr;subst hr;exact⟨hnd,by rw[<-iC S.nm hnd];exact P0 hnm⟩
    have M:Mut I.st [] fs none c c σ.h (σ.h.put q ⟨ver,some ⟨b.sz,b.es.set (off+n.toNat) (el.withCells cs),false⟩⟩) env:=by
     refine Mut.of (λr _ hr=>⟨Heap.get_put_other ?_,rfl⟩) λw _=>⟨rfl,rfl⟩
     rintro rfl
     exact hr hnm
    have hpl':bX (b.es.set (off+n.toNat) (el.withCells cs))=true:=it.2 λx hx=>by
     rcases List.mem_or_eq_of_mem_set hx with h|h
     ·exact it.1 hpl x h
     ·rw[h];exact hpw
    have hc':∀x∈b.es.set (off+n.toNat) (el.withCells cs),x.cells.length=sz:=λx hx=>by
     rcases List.mem_or_eq_of_mem_set hx with h|h
     ·exact hc x h
     ·rw[h,hwc,hcl];exact hc el (Pl hel)
    have hview:((b.es.set (off+n.toNat) (el.withCells cs)).drop off).take len=((b.es.drop off).take len).set n.toNat (el.withCells cs):=by
     apply List.ext_getElem?;intro j;simp only[PN,PP,List.getElem?_set,Pw,P7];by_cases hj:j<len
     ·by_cases hjn:n.toNat=j
      ·subst hjn;rw[O9 hj,O9 rfl,O9 rfl,O9 hlt,O9 (by omega)]
      ·rw[O9 hj,Pd (by omega),Pd hjn,O9 hj]
     ·rw[Pd hj];by_cases hjn:n.toNat=j
      ·omega
      ·rw[Pd hjn,Pd hj]
    have hnew:Rel c (σ.h.put q ⟨ver,some ⟨b.sz,b.es.set (off+n.toNat) (el.withCells cs),false⟩⟩) env (.O fs w true sz (.upd szo e i o y')) (c.nu w):=by
     refine⟨rfl,z,.inr ⟨q,ver,off,len,room,false,_,hT,hnm,hg',hs,by rw[Rk];exact ho,hr,hpl',hc',?_⟩,hz',λ_=>.inr ⟨q,ver,sz,off,len,room,_,hT,hg',rfl,by simp only[Rk];exact w2⟩⟩;cases hz;rw[hview,E8,wQ];congr 4;rw[<-hcs];simp only[mZ,kC,iW,i7,aQ]
    have hfl:FlOk I σ.h (σ.h.put q ⟨ver,some ⟨b.sz,b.es.set (off+n.toNat) (el.withCells cs),false⟩⟩):=λi ver' b' hgi=>by
     by_cases hi:aq.a i=q
     ·right;left;rw[hi,hg']at hgi;simp only[O5,fg.mk.injEq]at hgi;rw[<-hgi.2];exact hpl'
     ·exact .inl ⟨ver',b',by rw[<-hgi];exact(Heap.get_put_other hi).symm,rfl⟩
    refine⟨.junk,_,[q],[q],c,?_,S'.reup M S.nm (bq _ _ _).1 (bq _ _ _).2 hodd hk hfl hnew,trivial,hTr,hTr,λ_=>rfl,λ_ _=>rfl,hfl⟩;simp only[hv,fK];refine HM.runT_bind_of (R:=[q]) (R2:=[]) (W:=[]) (W2:=[q]) (aW hget) ?_;simp only[hel];rw[O9 ⟨f1,f2,f3,w1⟩];simp only[HM.runT,hget,hcs]
   ·cases hz
 ·cases H
theorem Ec{sz:Nat}{v v':PV}{lo hi mx:Option PV}(hv:qZ v)(h:cV sz v lo hi mx=some v'):qZ v':=by
 rcases hv with rfl|rfl
 ·simp only[cV]at h;split at h
  ·simp only[gB]at h;split at h
   ·cases h
   ·unfold kH at h;split at h
    ·split at h
     ·cases h;exact .inl rfl
     ·cases h
    ·cases h
  ·cases h
 ·simp only[cV]at h;split at h
  ·simp only[gB]at h;split at h
   ·cases h
   ·unfold dt at h;split at h
    ·split at h
     ·rename_i hb;simp only[PT]at hb;cases h;refine .inr ?_;split
      ·simp;omega
      ·simp
     ·cases h
    ·cases h
  ·cases h
def u9(st:Nat->Nat)(a:Abs)(d:Nat)(sz:Nat)(fs:List Nat)(wr:Bool)(s:Nat)(e:X)(lo hi mx:Option PO):Option uk:=
 af (a.bnd lo) λl=>af (a.bnd hi) λh=>af (a.bnd mx) λm=>
  if s=sz/\sz≠0 then some ⟨.O fs d (wr&&mx.isNone) sz (.slice sz e l h m),a.kill st [] [] (some d),[.slice sz e l h m],[],[]⟩else none
def Cx.view(c:Cx)(d:Nat)(v:PV):Cx:=⟨c.nm,λw=>if w=d then v else c.nu w,c.be⟩
theorem AH{st:Nat->Nat}{S N:List Nat}{c:Cx}{h:Heap}{env:Env}(d:Nat)(v:PV):Mut st S N (some d) c (c.view d v) h h env:=
 Mut.of (λr _ _=>⟨rfl,rfl⟩) λw hw=>by
  have:w≠d:=λe=>hw (by rw[e]);simp[Cx.view,this]
theorem Bt{ρ:PO->PV}{x:Option PO}:(uC ρ x).isNone=x.isNone:=by cases x<;>rfl
theorem B0{I:Inv}{c:Cx}{a:Abs}{env:Env}{σ:St}(S:Sim I c a env σ)(hodd:∀k∈I.kp,k %2=1){d sz:Nat}{fs:List Nat}{w:Nat}{wr:Bool}{s:Nat}{e:X}{lo hi mx:Option PO}{r:uk}{xv:PV}
  (hx:Rel c σ.h env (.O fs w wr s e) xv)(H:u9 I.st a d sz fs wr s e lo hi mx=some r)(hg:ao env r.ns=true):
  jP I c a env σ (some d) (HM.ofO (cV sz xv (uC (PO.ev σ.fr) lo) (uC (PO.ev σ.fr) hi) (uC (PO.ev σ.fr) mx))) r:=by
 simp only[u9,ab]at H;obtain⟨l,hl,h',hh,m,hm,H⟩:=H;split at H
 ·rename_i hs;obtain⟨rfl,hs0⟩:=hs;cases H;simp only[ao,P2]at hg;obtain⟨z,hz⟩:=Option.isSome_iff_exists.1 hg;have hz':=hz;obtain⟨hxv,x',T,he,hw⟩:=hx;simp only[X.ev,he,ac,ab]at hz;obtain⟨lv,hlv,hv,hhv,mv,hmv,hz⟩:=hz;have hz2:=hz;unfold gb at hz;cases e1:mE lv<;>rw[e1]at hz<;>try(cases hz;done)
  cases e2:mE hv<;>rw[e2]at hz<;>try(cases hz;done)
  cases e3:mE mv<;>rw[e3]at hz<;>try(cases hz;done)
  rename_i lo' hi' mx';have b1:=Abs.bnd_ok S hl hlv e1;have b2:=Abs.bnd_ok S hh hhv e2;have b3:=Abs.bnd_ok S hm hmv e3;rw[b1,b2,b3];have hmn:mx.isNone=mx'.isNone:=by rw[<-b3,Bt]
  have S':Sim I c a env ⟨σ.fr,σ.h⟩:=S;have fin:∀{v:PV},cV s xv lo' hi' mx'=some v->TokOk (λr=>c.nm r∈fs) σ.h s v z->((wr&&mx.isNone)=true->WrOk σ.h v)->
    jP I c a env σ (some d) (HM.ofO (cV s xv lo' hi' mx')) ⟨.O fs d (wr&&mx.isNone) s (.slice s e l h' m),a.kill I.st [] [] (some d),[.slice s e l h' m],[],[]⟩:=by
   intro v q1 q2 q3;refine⟨v,σ.h,[],[],c.view d v,by rw[q1];rfl,S'.mutate (AH d v) ⟨S.nm.l,S.nm.a⟩ rfl rfl hodd (by simp[nU]) (.refl _ _),⟨by simp[Cx.view],z,q2,hz',q3⟩,(λ_ h=>by cases h),(λ_ h=>by cases h),λ_=>rfl,λ_ _=>rfl,.refl _ _⟩
  rcases T with⟨hn,hx'⟩|⟨q,ver,off,len,room,c0,b,hT,hnm,hget,hsz,ho,hr,hpl,hc,hx'⟩
  ·have hp:=iM hn;rw[hx',<-hp.2]at hz2;obtain⟨v,k1,k2,k3⟩:=AN hp.1 e1 e2 e3 hz2;have hv:=Ec hn k1;exact fin k1 (.inl ⟨hv,by rw[<-k3,(iM hv).2]⟩) λ_=>.inl hv
  ·rw[ hx']at hz;simp only at hz;split at hz
   ·cases hz
   ·rename_i hcc;simp only[not_or,Rh]at hcc;have hlen:(aB (List.take len (List.drop off b.es))).length=len:=by
     rw[aQ,Pw,P7];omega
    simp only[dt,hlen,PI]at hz;obtain⟨y,hy,hyz⟩:=hz;cases f1:aL 0 lo'<;>rw[f1]at hy<;>try(cases hy;done)
    cases f2:aL len hi'<;>rw[f2]at hy<;>try(cases hy;done)
    cases f3:aL len mx'<;>rw[f3]at hy<;>try(cases hy;done)
    rename_i ln hn2 mn;simp only at hy;split at hy
    ·rename_i hb;cases hy;obtain⟨g1,g2,g3,_⟩:=hb;have hsl:(s==0)=false:=by simpa using hs0
     have hrm:∃m',aL room mx'=some m'/\hn2<=m'/\m'<=room/\(mx'=none->m'=room):=by
      cases mx' with
      |none=>exact⟨room,rfl,by simp only[aL,O5]at f3;omega,Pf _,λ_=>rfl⟩
      |some mv'=>exact⟨mn,by simpa[aL]using f3,g2,by omega,λh=>by cases h⟩
     obtain⟨m',r1,r2,r3,r4⟩:=hrm;refine fin (v:=.tok q ver s (off+ln) (hn2-ln) (m'-ln) (if mx'.isSome then m'==ln else c0)) ?_ (.inr ⟨q,ver,off+ln,hn2-ln,m'-ln,_,b,rfl,hnm,hget,hsz,by omega,by omega,hpl,hc,?_⟩) λhww=>?_
     ·simp only[cV,hT,PV.isStr,hsl,PQ,gB,hcc.2,Ps,PS,wi,f1,f2,r1];rw[O9 ⟨g1,r2,r3⟩]
     ·rw[<-hyz];simp only[aO,kC,iW,fF];congr 1;rw[List.drop_take,List.take_take,Rd];congr 1;omega
     ·simp only[O6]at hww;rw[hmn]at hww;have hmx:mx'=none:=by simpa using hww.2
      subst hmx;have:=r4 rfl;subst this;rcases hw hww.1 with hn|⟨r',ver',sz',off',len',room',b',hq,hq2,hq3,hq4⟩
      ·rcases hn with hn|hn<;>rw[hn]at hT<;>cases hT
      ·rw[hq]at hT;cases hT;rw[hget]at hq2;cases hq2;exact .inr ⟨q,ver,s,_,_,_,b,rfl,hget,hq3,by omega⟩
    ·cases hy
 ·cases H
def JF(st:Nat->Nat)(S:List Nat):Nat->Bool:=λn=>S.contains (sn st n)
def NB(st:Nat->Nat)(N:List Nat)(as:List AV):Bool:=AV.okL (yk st [] N) (wS none) (λ_=>false) as
def Cy(fs:List Nat):Bool:=fs.all λn=>n %2==0
def Mf(st:Nat->Nat):AV->Option (X×List Nat)
 |.F e=>some (e,[])
 |.N e=>some (e,[])
 |.O fs _ _ _ e=>if Cy fs then some (e,fs)else none
 |_=>none
def Hp(st:Nat->Nat):List AV->Option (X×List Nat)
 |[]=>some (.nl,[])
 |a::as=>af (Mf st a) λp=>if NB st p.2 as then af (Hp st as) λq=>some (.cn p.1 q.1,p.2++q.2)else none
def NL(st:Nat->Nat):AV->Option (X×List Nat)
 |.A cs=>af (Hp st cs) λp=>some (.agg p.1,p.2)
 |a=>Mf st a
def EE(st:Nat->Nat):List AV->Option (X×List Nat)
 |[]=>some (.nl,[])
 |a::as=>af (NL st a) λp=>if NB st p.2 as then af (EE st as) λq=>some (.cn p.1 q.1,p.2++q.2)else none
structure Took (I:Inv) (c:Cx) (N:List Nat) (h h':Heap) (R W:List aq):Prop where
 same:∀r,c.nm r∉N->h'.get r=h.get r
 ll:h'.L.length=h.L.length
 la:h'.A.length=h.A.length
 rd:cZ I (N.map (sn I.st)) R
 wr:cZ I (N.map (sn I.st)) W
 fl:FlOk I h h'
theorem fE{I:Inv}{S T:List Nat}{l:List aq}(h:cZ I S l)(hs:∀x∈S,x∈T):cZ I T l:=λr hr=>⟨(h r hr).1,hs _ (h r hr).2⟩
theorem kS{I:Inv}{S:List Nat}{l m:List aq}(h:cZ I S l)(k:cZ I S m):cZ I S (l++m):=λr hr=>by
 rcases List.mem_append.1 hr with hr|hr
 ·exact h r hr
 ·exact k r hr
theorem Took.refl(I:Inv)(c:Cx)(S:List Nat)(h:Heap):Took I c S h h [] []:=⟨λ_ _=>rfl,rfl,rfl,λ_ h=>(by cases h),λ_ h=>(by cases h),.refl _ _⟩
theorem Took.trans{I:Inv}{c:Cx}{S T:List Nat}{h h1 h2:Heap}{R W R' W':List aq}(A:Took I c S h h1 R W)(B:Took I c T h1 h2 R' W'):Took I c (S++T) h h2 (R++R') (W++W') where
 same r hr:=by
  simp only[QS,not_or]at hr;rw[B.same r hr.2,A.same r hr.1]
 ll:=by rw[B.ll,A.ll]
 la:=by rw[B.la,A.la]
 rd:=by rw[QR];exact kS (fE A.rd λ_ h=>Pc _ h) (fE B.rd λ_ h=>O8 _ h)
 wr:=by rw[QR];exact kS (fE A.wr λ_ h=>Pc _ h) (fE B.wr λ_ h=>O8 _ h)
 fl:=A.fl.trans B.fl
theorem Took.mut{I:Inv}{c:Cx}{S:List Nat}{h h':Heap}{R W:List aq}(A:Took I c S h h' R W)(env:Env)(d:Option Nat):Mut I.st [] S d c c h h' env:=
 Mut.of (λr _ hr=>⟨A.same r hr,rfl⟩) λ_ _=>⟨rfl,rfl⟩
section
variable{I:Inv}{c:Cx}{env:Env}
theorem vM{N:Nm I c}{r:aq}(h:c.nm r %2=0)(hr:r≠ .dead):∃s,r=.l s:=by
 cases r with
 |a i=>rw[N.a i]at h;omega
 |l s=>exact⟨s,rfl⟩
 |dead=>exact absurd rfl hr
theorem mc(n s ver sz off len room:Nat)(c0:Bool):bp (n+1) (.tok (.l s) ver sz off len room c0)=if len=0 then .ret (.lst [] c0)else
  (elems (.tok (.l s) ver sz off len 0 c0)).bind λes=>(HM.mapM (bp n) es).bind λes'=>(bS (.l s) ver).bind λ_=>.set (.l s) ⟨ver,none⟩ (.ret (.lst es' c0)):=rfl
theorem Be(N:Nm I c){h:Heap}{a:AV}{v:PV}{p:X×List Nat}(R:Rel c h env a v)(H:Mf I.st a=some p)(n:Nat):
  ∃v' h' Rr W,(bp (n+3) v).runT h=some (v',h',Rr,W)/\pl v'=true/\p.1.ev env=some (aO v')/\Took I c p.2 h h' Rr W/\(v.isCell=true->v'.isCell=true)/\v'.cells.length=v.cells.length/\(∀sz,v.cells.length=sz->v'.cells.length=sz):=by
 unfold Mf at H;split at H
 ·cases H;exact⟨v,h,[],[],by rw[mi R.1];rfl,R.1,R.2,Took.refl ..,λh=>h,rfl,λ_ h=>h⟩
 ·cases H;have hp:=iM R.1;exact⟨v,h,[],[],by rw[mi hp.1];rfl,hp.1,by rw[hp.2];exact R.2,Took.refl ..,λh=>h,rfl,λ_ h=>h⟩
 ·split at H
  ·rename_i fs w wr sz e hev;cases H;obtain⟨hv,x,T,he,_⟩:=R;rcases T with⟨hn,hx⟩|⟨r,ver,off,len,room,c0,b,hT,hnm,hget,hs,ho,hr,hpl,hc,hx⟩
   ·have hp:=iM hn;exact⟨v,h,[],[],by rw[mi hp.1];rfl,hp.1,by rw[hp.2,<-hx];exact he,Took.refl ..,λh=>h,rfl,λ_ h=>h⟩
   ·have hnd:=bB hget;obtain⟨s,rfl⟩:=vM (N:=N) (by have:=List.all_eq_true.1 hev _ hnm;simpa using this) hnd;have hview:=du (cX hpl off) len;have hmap:=qJ hview (n+0);by_cases h0:len=0
    ·subst h0;refine⟨.lst [] c0,h,[],[],?_,rfl,by rw[he,hx];simp[aO,aB],Took.refl ..,λ_=>rfl,by rw[hT];rfl,λsz h=>by rw[<-h,hT];rfl⟩;rw[hT,mc,O9 rfl];rfl
    ·refine⟨.lst (List.take len (List.drop off b.es)) c0,h.put (.l s) ⟨ver,none⟩,[.l s]++([]++[.l s]),[]++([]++[.l s]),?_,hview,by rw[he,hx];simp[aO],⟨λr hr'=>?_,(bq _ _ _).1,(bq _ _ _).2,λr hr'=>?_,λr hr'=>?_,.put_l _ _ _ _⟩,λ_=>rfl,by rw[hT];rfl,λsz h=>by rw[<-h,hT];rfl⟩
     ·rw[hT,mc,Pd h0];have he1:(elems (.tok (.l s) ver sz off len 0 c0)).runT h=some (List.take len (List.drop off b.es),h,[.l s],[]):=by
       simp only[elems,Pd h0];refine HM.runT_bind_of (R:=[.l s]) (R2:=[]) (W:=[]) (W2:=[]) (aW hget) ?_;rw[O9 ⟨ho,hs⟩];rfl
      refine HM.runT_bind_of he1 ?_;rw[hmap];simp only[HM.bind];rw[HM.runT_bind,aW hget];simp only[HM.runT,hget];rfl
     ·have hne:r≠ .l s:=by
       rintro rfl
       exact hr' hnm
      exact Heap.get_put_other hne
     all_goals
      have:r=.l s:=by simpa using hr'
      subst this;exact⟨hnd,by rw[<-iC N hnd];exact P0 hnm⟩
  ·cases H
 ·cases H
theorem uc{I:Inv}{c:Cx}{env:Env}{S:List Nat}{h h':Heap}{Rr W:List aq}(T:Took I c S h h' Rr W){as:List AV}{vs:List PV}(ho:NB I.st S as=true)(R:RelL c h env as vs):RelL c h' env as vs:=
 RelL.frame (T.mut env none) ho R
theorem CZ(N:Nm I c)(n:Nat):∀{as:List AV}{vs:List PV}{h:Heap}{p:X×List Nat},RelL c h env as vs->Hp I.st as=some p->
  ∃vs' h' Rr W,(HM.mapM (bp (n+3)) vs).runT h=some (vs',h',Rr,W)/\bX vs'=true/\p.1.ev env=some (.tup (aB vs'))/\Took I c p.2 h h' Rr W/\(aj vs=true->aj vs'=true)/\vs'.length=vs.length
 |[],[],h,p,R,H=>by
  cases H;exact⟨[],h,[],[],rfl,rfl,rfl,Took.refl ..,λh=>h,rfl⟩
 | a::as,v::vs,h,p,R,H=>by
  simp only[Hp,ab]at H;obtain⟨p1,h1,H⟩:=H;split at H
  ·rename_i ho;simp only[ab]at H;obtain⟨q,h2,h3⟩:=H;cases h3;obtain⟨v',g,R1,W1,k1,k2,k3,k4,k5,k6,_⟩:=Be N R.1 h1 n;obtain⟨vs',g',R2,W2,l1,l2,l3,l4,l5,l6⟩:=CZ N n (uc k4 ho R.2) h2;refine⟨v'::vs',g',R1++(R2++[]),W1++(W2++[]),?_,by simp only[bX,k2,l2,PE],by simp only[X.ev,k3,l3,ac,aB],?_,λhc=>?_,by simp[l6]⟩
   ·rw[HM.mapM];refine HM.runT_bind_of k1 ?_;exact HM.runT_bind_of l1 rfl
   ·rw[PB,PB];exact k4.trans l4
   ·simp only[aj,O6]at hc⊢;exact⟨k5 hc.1,l5 hc.2⟩
  ·cases H
 |[],_::_,_,_,R,_=>by cases R
 |_::_,[],_,_,R,_=>by cases R
theorem Gh(N:Nm I c){h:Heap}{a:AV}{v:PV}{p:X×List Nat}(R:Rel c h env a v)(H:NL I.st a=some p)(n:Nat):
  ∃v' h' Rr W,(bp (n+4) v).runT h=some (v',h',Rr,W)/\pl v'=true/\p.1.ev env=some (aO v')/\Took I c p.2 h h' Rr W/\v'.cells.length=v.cells.length:=by
 unfold NL at H;split at H
 ·rename_i cs;simp only[ab]at H;obtain⟨q,h1,h2⟩:=H;cases h2;obtain⟨vs,rfl,hok,hR⟩:=R;obtain⟨vs',g,R1,W1,k1,k2,k3,k4,k5,k6⟩:=CZ N n hR h1;refine⟨.agg vs',g,R1++[],W1++[],HM.runT_bind_of k1 rfl,by simp only[pl,k5 hok,k2,PE],?_,by rw[PB,PB];exact k4,by simp[PV.cells,k6]⟩;simp only[X.ev,k3,ac,bT,dE,k5 hok,PQ,aO]
 ·obtain⟨v',g,R1,W1,k1,k2,k3,k4,k5,k6,_⟩:=Be N R H (n+1);exact⟨v',g,R1,W1,k1,k2,k3,k4,k6⟩
theorem xN(N:Nm I c)(n:Nat):∀{as:List AV}{vs:List PV}{h:Heap}{p:X×List Nat},RelL c h env as vs->EE I.st as=some p->
  ∃vs' h' Rr W,(HM.mapM (bp (n+4)) vs).runT h=some (vs',h',Rr,W)/\bX vs'=true/\p.1.ev env=some (.tup (aB vs'))/\Took I c p.2 h h' Rr W/\vs'.length=vs.length/\(∀sz,cC sz vs=true->cC sz vs'=true)
 |[],[],h,p,R,H=>by
  cases H;exact⟨[],h,[],[],rfl,rfl,rfl,Took.refl ..,rfl,λ_ h=>h⟩
 | a::as,v::vs,h,p,R,H=>by
  simp only[EE,ab]at H;obtain⟨p1,h1,H⟩:=H;split at H
  ·rename_i ho;simp only[ab]at H;obtain⟨q,h2,h3⟩:=H;cases h3;obtain⟨v',g,R1,W1,k1,k2,k3,k4,k5⟩:=Gh N R.1 h1 n;obtain⟨vs',g',R2,W2,l1,l2,l3,l4,l5,l6⟩:=xN N n (uc k4 ho R.2) h2;refine⟨v'::vs',g',R1++(R2++[]),W1++(W2++[]),?_,by simp only[bX,k2,l2,PE],by simp only[X.ev,k3,l3,ac,aB],?_,by simp[l5],λsz hs=>?_⟩
   ·rw[HM.mapM];refine HM.runT_bind_of k1 ?_;exact HM.runT_bind_of l1 rfl
   ·rw[PB,PB];exact k4.trans l4
   ·simp only[cC,O6,PF]at hs⊢;exact⟨by rw[k5];exact hs.1,l6 sz hs.2⟩
  ·cases H
 |[],_::_,_,_,R,_=>by cases R
 |_::_,[],_,_,R,_=>by cases R
end
def Abs.fitsL(a:Abs)(sz:Option Nat):List PO->Option (List AV×List X)
 |[]=>some ([],[])
 |x::xs=>af (a.po x) λav=>af (cellsOf sz av) λcn=>af (a.fitsL sz xs) λl=>some (av::l.1,cn.2++l.2)
theorem Abs.fitsL_ok{I:Inv}{c:Cx}{a:Abs}{env:Env}{σ:St}(S:Sim I c a env σ){sz:Option Nat}:∀{xs:List PO}{l:List AV×List X},a.fitsL sz xs=some l->ao env l.2=true->
  RelL c σ.h env l.1 (kQ (PO.ev σ.fr) xs)/\gy sz (kQ (PO.ev σ.fr) xs)=true/\cC (sz.getD 1) (kQ (PO.ev σ.fr) xs)=true
 |[],l,H,_=>by cases H;exact⟨trivial,rfl,rfl⟩
 |x::xs,l,H,hg=>by
  simp only[Abs.fitsL,ab]at H;obtain⟨av,h1,cn,h2,l',h3,h4⟩:=H;cases h4;simp only[ce,O6]at hg;obtain⟨q1,q2,q3⟩:=nM (Abs.po_ok S h1) h2 hg.1;obtain⟨k1,k2,k3⟩:=Abs.fitsL_ok S h3 hg.2;exact⟨⟨Abs.po_ok S h1,k1⟩,by simp only[kQ,gy,q1,q2,k2,PE],by simp only[kQ,cC,AJ q1,O7,k3,PE]⟩
def vT(st:Nat->Nat)(kp:List Nat)(ns:Nat)(a:Abs)(d:Nat)(sz:Option Nat)(parts:List PO)(s:Nat):Option uk:=
 af (a.fitsL sz parts) λl=>if s<ns/\nU kp [2*st s]/\AV.okL (yk st [2*st s] []) (wS (some d)) (λ_=>false) l.1 then
  some ⟨.L [2*s] (sz.getD 1) l.1,a.kill st [2*st s] [] (some d),l.2,[2*st s],[2*st s]⟩else none
theorem BS{I:Inv}{c:Cx}{a:Abs}{env:Env}{σ:St}(S:Sim I c a env σ)(hodd:∀k∈I.kp,k %2=1){d:Nat}{sz:Option Nat}{parts:List PO}{s:Nat}{r:uk}
  (H:vT I.st I.kp I.ns a d sz parts s=some r)(hg:ao env r.ns=true):jP I c a env σ (some d) (dz sz (kQ (PO.ev σ.fr) parts) s) r:=by
 simp only[vT,ab]at H;obtain⟨l,h1,H⟩:=H;split at H
 ·rename_i hc;cases H;obtain⟨k1,k2,k3⟩:=Abs.fitsL_ok S h1 hg;generalize hvs:kQ (PO.ev σ.fr) parts=vs at*;obtain⟨e0,hge⟩:=lF S.hl hc.1;have hg':(σ.h.put (.l s) ⟨e0.ver+1,some ⟨sz.getD 1,vs,false⟩⟩).get (.l s)=some ⟨e0.ver+1,some ⟨sz.getD 1,vs,false⟩⟩:=Heap.get_put_same hge (by intro i h;cases h);have S':Sim I c a env ⟨σ.fr,σ.h⟩:=S;have hT:cZ I [2*I.st s] [.l s]:=λr hr=>by
   simp only[Px]at hr;subst hr;exact⟨(by intro h;cases h),by simp[Inv.sr]⟩
  have M:=yR S' (s:=s) (d:=d) ⟨e0.ver+1,some ⟨sz.getD 1,vs,false⟩⟩ .junk;refine⟨.tok (.l s) (e0.ver+1) (sz.getD 1) 0 vs.length vs.length false,σ.h.put (.l s) ⟨e0.ver+1,some ⟨sz.getD 1,vs,false⟩⟩,[.l s]++[],[.l s]++[],c.new s d (e0.ver+1) .junk,?_,
   S'.mutate M (S.nm.new _ _ _ _) (bq _ _ _).1 (bq _ _ _).2 hodd hc.2.1 (.put_l _ _ _ _),⟨.l s,e0.ver+1,vs,rfl,by simp[Cx.new],hg',k3,RelL.frame M hc.2.2 k1⟩,hT,hT,by intro i;simp[Cx.new],xV,.put_l _ _ _ _⟩
  simp only[dz,k2,PQ];exact HM.runT_bind_of (jB (b:=⟨sz.getD 1,vs,false⟩) hge) rfl
 ·cases H
def ur(sz:Nat)(x:PV)(vs:List PV)(s:Nat):HM PV:=
 if vs.isEmpty then(match x with|.nils=>.ret .nils|.lst es c0=>.ret (.lst es c0)|.tok r ver z off len room c0=>.ret (.tok r ver z off len room c0)|_=>.fail)
 else match x with
  |.nils=>eE sz [] vs s
  |.lst es c0=>if c0/\es.isEmpty then eE sz [] vs s else .fail
  |.tok r ver z off len room c0=>if c0 then(if len=0 then eE sz [] vs s else .fail)else if z=sz then gO sz r ver off len room vs s else .fail
  |_=>.fail
theorem zw(sz:Nat)(x y:PV)(s:Nat):jy sz x y s=(elems y).bind λvs0=>if cC sz vs0 then(HM.mapM (bp 9) vs0).bind λvs=>ur sz x vs s else .fail:=rfl
theorem pB{sz:Nat}:∀{vs:List PV},cC sz vs=true->∀x∈vs,x.cells.length=sz
 |[],_,x,h=>by cases h
 |v::vs,hs,x,h=>by
  simp only[cC,O6,PF]at hs;rcases List.mem_cons.1 h with rfl|h
  ·exact hs.1
  ·exact pB hs.2 x h
structure MM (c:Cx) (h:Heap) (fs:List Nat) (sz:Nat) (v:PV) (xs:List PV):Prop where
 t:TokOk (λr=>c.nm r∈fs) h sz v (.lst xs false)
 w:WrOk h v
structure EX (I:Inv) (c:Cx) (h:Heap) (env:Env) (d s:Nat) (fs:List Nat) (sz:Nat) (m:HM PV) (xs:List PV) (v:PV) (h':Heap) (R W:List aq) (c':Cx):Prop where
 run:m.runT h=some (v,h',R,W)
 nu:c'.nu d=v
 t:TokOk (λr=>c'.nm r∈2*s::fs) h' sz v (.lst xs false)
 w:WrOk h' v
 mu:Mut I.st [2*I.st s] fs (some d) c c' h h' env
 nm:Nm I c'
 ll:h'.L.length=h.L.length
 la:h'.A.length=h.A.length
 rd:cZ I (2*I.st s::fs.map (sn I.st)) R
 wr:cZ I (2*I.st s::fs.map (sn I.st)) W
 al:∀i,c'.nm (.a i)=c.nm (.a i)
 be:∀w,some d≠some w->c'.be w=c.be w
 fl:FlOk I h h'
section
variable{I:Inv}{c:Cx}{env:Env}
theorem yw(N:Nm I c){h:Heap}{d s:Nat}{fs:List Nat}{sz:Nat}{vs xs:List PV}{n:Nat}(hs:s<I.ns)(hL:h.L.length=I.ns)(hp:bX (xs++vs)=true)(hc:∀x∈xs++vs,x.cells.length=sz)(hn:xs.length=n){m:HM PV}
  (hm:m=(eG s ⟨sz,xs++vs,false⟩).bind λv=>.ret (.tok (.l s) v sz 0 (n+vs.length) (n+vs.length) false)):
  ∃v h' R W c',EX I c h env d s fs sz m (aB (xs++vs)) v h' R W c':=by
 subst hn;obtain⟨e0,hge⟩:=lF hL hs;have hlen:(xs++vs).length=xs.length+vs.length:=Pu;have hg':(h.put (.l s) ⟨e0.ver+1,some ⟨sz,xs++vs,false⟩⟩).get (.l s)=some ⟨e0.ver+1,some ⟨sz,xs++vs,false⟩⟩:=Heap.get_put_same hge (by intro i h;cases h);have hT:cZ I (2*I.st s::fs.map (sn I.st)) ([.l s]++[]):=λr hr=>by
  simp only[PB,Px]at hr;subst hr;exact⟨(by intro h;cases h),by simp[Inv.sr]⟩
 refine⟨.tok (.l s) (e0.ver+1) sz 0 (xs.length+vs.length) (xs.length+vs.length) false,h.put (.l s) ⟨e0.ver+1,some ⟨sz,xs++vs,false⟩⟩,[.l s]++[],[.l s]++[],c.new s d (e0.ver+1) (.tok (.l s) (e0.ver+1) sz 0 (xs.length+vs.length) (xs.length+vs.length) false),?_,by simp[Cx.new],?_,?_,?_,N.new _ _ _ _,(bq _ _ _).1,(bq _ _ _).2,hT,hT,by intro i;simp[Cx.new],xV,.put_l _ _ _ _⟩
 ·subst hm;exact HM.runT_bind_of (jB (b:=⟨sz,xs++vs,false⟩) hge) rfl
 ·exact .inr ⟨.l s,e0.ver+1,0,_,_,false,_,rfl,by simp[Cx.new],hg',rfl,by rw[hlen];omega,Pf _,hp,hc,by rw[Rf,<-hlen,List.take_length]⟩
 ·exact .inr ⟨.l s,e0.ver+1,sz,0,_,_,_,rfl,hg',rfl,by rw[hlen];omega⟩
 ·refine Mut.of (λr hr _=>?_) λw hw=>?_
  ·have hne:r≠ .l s:=by
    rintro rfl
    apply hr;rw[iC N (by intro h;cases h)];simp[Inv.sr]
   exact⟨Heap.get_put_other hne,by simp[Cx.new,hne]⟩
  ·have:w≠d:=λe=>hw (by rw[e]);simp[Cx.new,this]
theorem BY(N:Nm I c){h:Heap}{d s:Nat}{fs:List Nat}{sz:Nat}{v:PV}{xs vs:List PV}(A:MM c h fs sz v xs)(hs:s<I.ns)(hL:h.L.length=I.ns)(hp:bX vs=true)(hc:∀x∈vs,x.cells.length=sz)(hmax:xs.length+vs.length<bG):
  ∃v' h' R W c',EX I c h env d s fs sz (ur sz v vs s) (xs++aB vs) v' h' R W c':=by
 obtain⟨T,Wr⟩:=A;by_cases hem:vs.isEmpty=true
 ·have hvs:vs=[]:=List.isEmpty_iff.1 hem;subst hvs;refine⟨v,h,[],[],c.view d v,?_,by simp[Cx.view],?_,Wr,AH d v,⟨N.l,N.a⟩,rfl,rfl,λ_ h=>(by cases h),λ_ h=>(by cases h),λ_=>rfl,λ_ _=>rfl,.refl _ _⟩
  ·have:ur sz v [] s=.ret v:=by
    rcases T with⟨hn|hn,_⟩|⟨r,ver,off,len,room,c0,b,hT,_⟩
    ·rw[hn];rfl
    ·rw[hn];rfl
    ·rw[hT];rfl
   rw[this];rfl
  ·simp only[aB,PB];rcases T with T|⟨r,ver,off,len,room,c0,b,hT,hnm,T⟩
   ·exact .inl T
   ·exact .inr ⟨r,ver,off,len,room,c0,b,hT,Pe _ hnm,T⟩
 ·have hnil:∀{m:HM PV},xs=[]->m=eE sz [] vs s->∃v' h' R W c',EX I c h env d s fs sz m (xs++aB vs) v' h' R W c':=by
   intro m hx hm;subst hx;obtain⟨v',h',R,W,c',k⟩:=yw (env:=env) (d:=d) (fs:=fs) (m:=m) N hs hL (xs:=[]) (vs:=vs) (n:=0) (sz:=sz) (by simpa using hp) (by simpa using hc) rfl (by
    rw[hm];simp only[eE,PT,Pi];rw[O9 (by simpa using hmax)])
   exact⟨v',h',R,W,c',by simpa using k⟩
  simp only[ur,hem,Ps,PS];rcases T with⟨hn,hx⟩|⟨r,ver,off,len,room,c0,b,hT,hnm,hget,hsz,ho,hr,hpl,hcc,hx⟩
  ·simp only[PV.lst.injEq,Rc]at hx;rcases hn with hn|hn
   ·rw[hn];exact hnil hx rfl
   ·rw[hn];exact hnil hx rfl
  ·simp only[PV.lst.injEq,Rc]at hx;have hwr:b.ro=false/\off+room<=b.es.length/\c0=false:=by
    rcases Wr with hn|⟨r',ver',sz',off',len',room',b',hq,hq2,hq3,hq4⟩
    ·rcases hn with hn|hn<;>rw[hn]at hT<;>cases hT
    ·rw[hq]at hT;cases hT;rw[hget]at hq2;cases hq2;exact⟨hq3,hq4,rfl⟩
   obtain⟨w1,w2,rfl⟩:=hwr;have hxl:xs.length=len:=by rw[hx,aQ,Pw,P7];omega
   rw[hT];simp only[Ps,PS,PQ];have hview:=du (cX hpl off) len;have hvc:∀x∈(b.es.drop off).take len,x.cells.length=sz:=λx hx=>hcc x (Qn (Qo hx));have hvl:((b.es.drop off).take len).length=len:=by rw[Pw,P7];omega
   have hnd:=bB hget;have hsr:I.sr r∈2*I.st s::fs.map (sn I.st):=by
    rw[<-iC N hnd];exact Pe _ (P0 hnm)
   have hTr:cZ I (2*I.st s::fs.map (sn I.st)) [r]:=λq hq=>by
    simp only[Px]at hq;subst hq;exact⟨hnd,hsr⟩
   have hguard:b.sz=sz/\b.ro=false/\off+len<=b.es.length/\len+vs.length<bG:=⟨hsz,w1,ho,by omega⟩;by_cases hroom:len+vs.length<=room
   ·have hver:∀i,r=.a i->(⟨ver,some ⟨sz,b.es.take (off+len)++vs++b.es.drop (off+len+vs.length),false⟩⟩:fg).ver=0:=λi hi=>by
     rw[hi]at hget;have h0:=Heap.ver_a hget;exact h0
    have hg':=Heap.get_put_same hget hver;have hln:(b.es.take (off+len)++vs++b.es.drop (off+len+vs.length)).length=b.es.length:=by
     simp only[Pu,Pw,P7];omega
    have hvw:((b.es.take (off+len)++vs++b.es.drop (off+len+vs.length)).drop off).take (len+vs.length)=(b.es.drop off).take len++vs:=by
     have e1:(List.take (off+len) b.es).length=off+len:=by rw[Pw];omega
     rw[P6,List.drop_append_of_le_length (by rw[e1];omega),List.drop_take,show off+len-off=len by omega];rw[List.take_append,hvl,Qv (by omega),show len+vs.length-len=vs.length by omega,List.take_append_of_le_length (Pf _),Qv (Pf _)]
    refine⟨.tok r ver sz off (len+vs.length) room false,h.put r ⟨ver,some ⟨sz,b.es.take (off+len)++vs++b.es.drop (off+len+vs.length),false⟩⟩,[r]++[],[]++[r],c.view d (.tok r ver sz off (len+vs.length) room false),?_,by simp[Cx.view],?_,?_,?_,⟨N.l,N.a⟩,(bq _ _ _).1,(bq _ _ _).2,by simpa using hTr,by simpa using hTr,λ_=>rfl,λ_ _=>rfl,λi ver' b' hgi=>?_⟩
    ·unfold gO;refine HM.runT_bind_of (aW hget) ?_;rw[O9 hguard,O9 hroom,O9 (by omega)];simp only[HM.runT,hget]
    ·refine .inr ⟨r,ver,off,_,_,false,_,rfl,Pe _ hnm,hg',rfl,by rw[hln];omega,hroom,?_,?_,?_⟩
     ·simp only[ki,du hpl,hp,cX hpl,PE]
     ·intro x hx';rcases List.mem_append.1 hx' with hx'|hx'
      ·rcases List.mem_append.1 hx' with hx'|hx'
       ·exact hcc x (Qo hx')
       ·exact hc x hx'
      ·exact hcc x (Qn hx')
     ·rw[hvw,mZ,<-hx]
    ·exact .inr ⟨r,ver,sz,off,_,_,_,rfl,hg',rfl,by rw[hln];omega⟩
    ·refine Mut.of (λq _ hq=>⟨Heap.get_put_other ?_,rfl⟩) λw hw=>?_
     ·rintro rfl
      exact hq hnm
     ·have:w≠d:=λe=>hw (by rw[e]);simp[Cx.view,this]
    ·by_cases hi:aq.a i=r
     ·right;left;rw[hi,hg']at hgi;simp only[O5,fg.mk.injEq]at hgi;rw[<-hgi.2];simp only[ki,du hpl,hp,cX hpl,PE]
     ·exact .inl ⟨ver',b',by rw[<-hgi];exact(Heap.get_put_other hi).symm,rfl⟩
   ·by_cases hrs:r=.l s
    ·obtain⟨v',h',R,W,c',k⟩:=yw (env:=env) (d:=d) (fs:=fs) (h:=h) N hs hL (xs:=(b.es.drop off).take len) (vs:=vs) (n:=len) (sz:=sz) (by simp only[ki,hview,hp,PE])
      (λx hx'=>by
       rcases List.mem_append.1 hx' with hx'|hx'
       ·exact hvc x hx'
       ·exact hc x hx') hvl rfl
     rw[mZ,<-hx]at k;refine⟨v',h',[r]++R,[]++W,c',?_,k.nu,k.t,k.w,k.mu,k.nm,k.ll,k.la,kS hTr k.rd,k.wr,k.al,k.be,k.fl⟩;unfold gO;refine HM.runT_bind_of (aW hget) ?_;rw[O9 hguard,Pd hroom,O9 hrs];exact k.run
    ·have hver:∀i,r=.a i->(⟨ver,none⟩:fg).ver=0:=λi hi=>by
      rw[hi]at hget;have h0:=Heap.ver_a hget;exact h0
     obtain⟨v',h',R,W,c',k⟩:=yw (env:=env) (d:=d) (fs:=fs) (h:=h.put r ⟨ver,none⟩) N hs (by rw[(bq _ _ _).1];exact hL) (xs:=(b.es.drop off).take len) (vs:=vs) (n:=len) (sz:=sz) (by simp only[ki,hview,hp,PE])
      (λx hx'=>by
       rcases List.mem_append.1 hx' with hx'|hx'
       ·exact hvc x hx'
       ·exact hc x hx') hvl rfl
     rw[mZ,<-hx]at k;refine⟨v',h',[r]++R,[]++(r::W),c',?_,k.nu,k.t,k.w,?_,k.nm,by rw[k.ll,(bq _ _ _).1],by rw[k.la,(bq _ _ _).2],kS hTr k.rd,?_,k.al,k.be,?_⟩
     ·unfold gO;refine HM.runT_bind_of (aW hget) ?_;rw[O9 hguard,Pd hroom,Pd hrs];simp only[HM.runT,hget];rw[k.run]
     ·refine⟨λq hq=>?_,k.mu.i,λ_ _=>rfl⟩;have h1:=k.mu.n q hq;rw[h1.1,h1.2];refine⟨Heap.get_put_other ?_,rfl⟩
      rintro rfl
      exact(eD.1 hq).2 hnm
     ·intro q hq;rcases List.mem_cons.1 hq with rfl|hq
      ·exact⟨hnd,hsr⟩
      ·exact k.wr q hq
     ·refine FlOk.trans (λi ver' b' hgi=>?_) k.fl;by_cases hi:aq.a i=r
      ·rw[hi,Heap.get_put_same hget hver]at hgi;simp at hgi
      ·exact .inl ⟨ver',b',by rw[<-hgi];exact(Heap.get_put_other hi).symm,rfl⟩
end
end Gv
