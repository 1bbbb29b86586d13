/- A part of the proof that the law is true of all its inputs, by an interpreter that is proved sound. -/
import Derived.Test.YtfaeljmkbadgdaaGreatEc
import Derived.Test.YtfaeljmkbadgdaaGreatVc
import Derived.Test.YtfaeljmkbadgdaaGreatVw
import Derived.KernelRfl
namespace Gv
open Go
def nb:Nat->Nat->List Nat
 |0,_=>[]
 |k+1,u=>if 128<=u then(u %128+128)::nb k (u/128)else[u]
def zz(n:Int):Nat:=if 0<=n then(2*n).toNat else(-2*n-1).toNat
theorem uB{x:Int}(h1: -9223372036854775808<=x)(h2:x<=9223372036854775807):IntKind.i64.wrap x=x:=by
 rw[IntKind.wrap_i64];omega
def Nu(l:List Nat):List PV:=l.map λ(n:Nat)=>PV.int .u8 (n:Int)
def f0(n:Int):List Nat:=nb 10 (zz n)
def val:List Nat->Nat
 |[]=>0
 |c::cs=>c %128+128*val cs
structure SInstr where
  op:Int
  a:Int
  deriving DecidableEq
structure SHandler where
  args:Int
  code:List SInstr
  deriving DecidableEq
structure SActor where
  regs:List Int
  cap:Int
  timer:Int
  armed:Bool
  deriving DecidableEq
structure SNote where
  to:Int
  handler:Int
  args:List Int
  deriving DecidableEq
structure SProg where
  handlers:List SHandler
  actors:List SActor
  boot:List SNote
  fuel:Int
  deriving DecidableEq
structure SBudget where
  drop:Int
  dup:Int
  time:Int
  crash:Int
  deriving DecidableEq
structure SLimits where
  depth:Int
  runs:Int
  deriving DecidableEq
structure STask where
  prog:SProg
  watch:List (List SInstr)
  budget:SBudget
  limits:SLimits
  deriving DecidableEq
structure SID where
  frm:Int
  n:Int
  copy:Int
  deriving DecidableEq
structure SEvent where
  kind:Int
  id:SID
  who:Int
  deriving DecidableEq
def wD(n:Int):Prop:= -9223372036854775808<=n/\n<=9223372036854775807
def SInstr.ok(i:SInstr):Prop:=wD i.op/\wD i.a
def SHandler.ok(h:SHandler):Prop:=wD h.args/\∀i∈h.code,i.ok
def SActor.ok(a:SActor):Prop:=(∀n∈a.regs,wD n)/\wD a.cap/\wD a.timer
def SNote.ok(n:SNote):Prop:=wD n.to/\wD n.handler/\∀x∈n.args,wD x
def SProg.ok(p:SProg):Prop:=(∀h∈p.handlers,h.ok)/\(∀a∈p.actors,a.ok)/\(∀n∈p.boot,n.ok)/\wD p.fuel
def SBudget.ok(b:SBudget):Prop:=wD b.drop/\wD b.dup/\wD b.time/\wD b.crash
def SLimits.ok(c:SLimits):Prop:=wD c.depth/\wD c.runs
def STask.ok(t:STask):Prop:=t.prog.ok/\(∀w∈t.watch,∀i∈w,i.ok)/\t.budget.ok/\t.limits.ok
def SID.ok(i:SID):Prop:=wD i.frm/\wD i.n/\wD i.copy
def SEvent.ok(e:SEvent):Prop:=wD e.kind/\e.id.ok/\wD e.who
def eB(l:List Nat):PV:=.lst (Nu l) false
def eI(l:List Int):PV:=.lst (l.map λn=>.int .i64 n) false
def eA(i:SInstr):PV:=.agg [.int .i64 i.op,.int .i64 i.a]
def cw(l:List SInstr):PV:=.lst (l.map eA) false
def dh(h:SHandler):PV:=.agg [.int .i64 h.args,cw h.code]
def jt(a:SActor):PV:=.agg [eI a.regs,.int .i64 a.cap,.int .i64 a.timer,.bool a.armed]
def eK(n:SNote):PV:=.agg [.int .i64 n.to,.int .i64 n.handler,eI n.args]
def BO(p:SProg):List PV:=[.lst (p.handlers.map dh) false,.lst (p.actors.map jt) false,.lst (p.boot.map eK) false,.int .i64 p.fuel]
def cN(b:SBudget):List PV:=[.int .i64 b.drop,.int .i64 b.dup,.int .i64 b.time,.int .i64 b.crash]
def LC(c:SLimits):List PV:=[.int .i64 c.depth,.int .i64 c.runs]
def Ta(t:STask):List PV:=BO t.prog++[.lst (t.watch.map cw) false]++cN t.budget++LC t.limits
def wl(i:SID):List PV:=[.int .i64 i.frm,.int .i64 i.n,.int .i64 i.copy]
def dm(e:SEvent):List PV:=[.int .i64 e.kind,.int .i64 e.id.frm,.int .i64 e.id.n,.int .i64 e.id.copy,.int .i64 e.who]
def bD(e:SEvent):PV:=.agg (dm e)
def RB(l:List SEvent):PV:=.lst (l.map bD) false
def RU(l:List Int):List Nat:=l.flatMap f0
def JI(l:List Int):List Nat:=f0 l.length++RU l
def Lc(i:SInstr):List Nat:=f0 i.op++f0 i.a
def HI(l:List SInstr):List Nat:=f0 l.length++l.flatMap Lc
def HC(h:SHandler):List Nat:=f0 h.args++HI h.code
def Qe(b:Bool):Int:=if b then 1 else 0
def Ka(a:SActor):List Nat:=JI a.regs++(f0 a.cap++f0 a.timer++f0 (Qe a.armed))
def MY(n:SNote):List Nat:=f0 n.to++f0 n.handler++JI n.args
def Nr(p:SProg):List Nat:=f0 p.handlers.length++p.handlers.flatMap HC++(f0 p.actors.length++p.actors.flatMap Ka)++(f0 p.boot.length++p.boot.flatMap MY)++f0 p.fuel
def MO:List Nat:=[71,65,86,49]
def SY(t:STask):List Nat:=MO++Nr t.prog++(f0 t.watch.length++t.watch.flatMap HI)++RU [t.budget.drop,t.budget.dup,t.budget.time,t.budget.crash,t.limits.depth,t.limits.runs]
def Lz(e:SEvent):List Nat:=RU [e.kind,e.id.frm,e.id.n,e.id.copy,e.who]
def SE(l:List SEvent):List Nat:=f0 l.length++l.flatMap Lz
variable{C:b6}{V:Nat->List PV->List PV->Bool}
theorem Af(a b c:VC)(env:Env):aL C V (.seq a (.seq b c)) env=aL C V (.seq (.seq a b) c) env:=by
 simp only[aL];cases aL C V a env with
 |none=>rfl
 |some r=>cases r<;>rfl
theorem vm{f g:Env->Option vg}(h:∀env,f env=g env):∀(n:Nat)(env:Env),eR f n env=eR g n env
 |0,_=>rfl
 |n+1,env=>by
  simp only[eR,h];cases g env with
  |none=>rfl
  |some r=>cases r<;>first|exact vm h n _|rfl
theorem yo(a b c:VC)(env:Env):aL C V (.loop (.seq a (.seq b c))) env=aL C V (.loop (.seq (.seq a b) c)) env:=by
 simp only[aL];exact vm (λe=>Af a b c e) _ _
theorem Kk{k:Nat}(h:k<4611686018427387904):IntKind.i64.wrap (k:Int)=k:=uB (x:=(k:Int)) (by omega) (by omega)
theorem bT{k:Nat}(h:k<4611686018427387903):aI .add .i64 (k:Int) .i64 1=some (.int .i64 ((k+1:Nat):Int)):=by
 simp only[aI];rw[TF (by decide),show((k:Int)+1)=((k+1:Nat):Int)from rfl,Kk (k:=k+1) (by omega)]
theorem bA(k n:Nat):aI .lss .i64 (k:Int) .i64 (n:Int)=some (.bool (decide (k<n))):=by simp[aI]
theorem wm:DZ=1099511627776:=rfl
theorem t5{H BODY:VC}{vi b n:Nat}(hn:n<1099511627775)(St:Nat->Env->Prop)(Stop:vg->Prop)
  (hset:∀k env v,St k env->St k (env.set vi v))
  (hhead:∀k env,k<=n->St k env->env vi=.int .i64 (k:Nat)->aL C V H env=some (if k<n then .norm env else .exit b env))
  (hbody:∀k env,k<n->St k env->env vi=.int .i64 (k:Nat)->∃r,aL C V BODY env=some r/\((∃env',r=.norm env'/\St (k+1) env'/\env' vi=.int .i64 (k:Nat))∨((∀e,r≠ .norm e)/\Stop r))):
  ∀{env:Env},St 0 env->env vi=.int .i64 0->∃r,aL C V (.loop (.seq H (.seq BODY (.st [.asg [] [(vi,.bin .add (.v vi) (.int .i64 1))]])))) env=some r/\((∃env',r=.exit b env'/\St n env'/\env' vi=.int .i64 (n:Nat))∨((∀e,r≠ .norm e)/\Stop r)):=by
 have key:∀(d k j:Nat){env:Env},k+d=n->St k env->env vi=.int .i64 (k:Nat)->∃r,eR (aL C V (.seq H (.seq BODY (.st [.asg [] [(vi,.bin .add (.v vi) (.int .i64 1))]])))) (d+1+j) env=some r/\((∃env',r=.exit b env'/\St n env'/\env' vi=.int .i64 (n:Nat))∨((∀e,r≠ .norm e)/\Stop r)):=by
  intro d;induction d with
  |zero=>
   intro k j env hk hs hv;have hkn:k=n:=by omega
   subst hkn;refine⟨.exit b env,?_,.inl ⟨env,rfl,hs,hv⟩⟩;rw[show 0+1+j=j+1 by omega];simp only[eR,aL,hhead k env (TN _) hs hv,Nat.lt_irrefl,TU]
  | succ d ih=>
   intro k j env hk hs hv;have hkn:k<n:=by omega
   rw[show d+1+1+j=(d+1+j)+1 by omega];obtain⟨r,hr,hcase⟩:=hbody k env hkn hs hv;rcases hcase with⟨env',rfl,hs',hv'⟩|⟨hnn,hst⟩
   ·obtain⟨r2,h2,h3⟩:=ih (k+1) j (env:=env'.set vi (.int .i64 ((k+1:Nat):Int))) (by omega) (hset _ _ _ hs') (by simp);refine⟨r2,?_,h3⟩;have ha:=bT (k:=k) (by omega);simp only[eR,aL,hhead k env (by omega) hs hv,TB hkn,hr,cS,VS.run,au,TY,bU,X.ev,hv',ac,bin,ha];exact h2
   ·refine⟨r,?_,.inr ⟨hnn,hst⟩⟩;simp only[eR,aL,hhead k env (by omega) hs hv,TB hkn,hr];cases r with
    |norm e=>exact absurd rfl (hnn e)
    |exit i e=>rfl
    |ret x os=>rfl
 intro env h0 hv;obtain⟨r,h1,h2⟩:=key n 0 (1099511627775-n) (by omega) h0 hv;refine⟨r,?_,h2⟩;simp only[aL];rw[show n+1+(1099511627775-n)=DZ by rw[wm];omega]at h1;exact h1
theorem sj{α:Type}{f:α->PV}{sz k:Nat}{xs:List α}{x:α}(h:xs[k]?=some x)(hs:(f x).cells.length=sz):az sz (.lst (xs.map f) false) (.int .i64 (k:Nat))=some (.lptr (f x).cells):=by
 have hk:k<xs.length:=(List.getElem?_eq_some_iff.1 h).1;have h1:(0:Int)<=(k:Int)/\(k:Int)<((xs.map f).length:Int):=by rw[Uk];omega
 have h2:(xs.map f)[(Int.toNat (k:Int))]?=some (f x):=by rw[TV,TR,h];rfl
 simp only[az];rw[TB h1,h2];simp only;rw[TB hs]
theorem nn{α:Type}{f:α->PV}{xs:List α}:bO (.lst (xs.map f) false)=some (.int .i64 (xs.length:Nat)):=by simp[bO]
end Gv
namespace Gv
open Go
variable{C:b6}{V:Nat->List PV->List PV->Bool}
theorem qJ{BODY:VC}{vi vn b n:Nat}(hn:n<1099511627775)(St:Nat->Env->Prop)
  (hset:∀k env v,St k env->St k (env.set vi v))(hvn:∀k env,St k env->env vn=.int .i64 (n:Nat))
  (hbody:∀k env,k<n->St k env->env vi=.int .i64 (k:Nat)->∃env',aL C V BODY env=some (.norm env')/\St (k+1) env'/\env' vi=.int .i64 (k:Nat))
  {env:Env}(h0:St 0 env)(hv:env vi=.int .i64 0):
  ∃env',aL C V (.block b (.loop (.seq (.st [.asg [(.bin .lss (.v vi) (.v vn))] []]) (.seq (.cond (.bin .lss (.v vi) (.v vn)) .skip (.exit b)) (.seq BODY (.st [.asg [] [(vi,.bin .add (.v vi) (.int .i64 1))]])))))) env=some (.norm env')/\St n env':=by
 obtain⟨r,h1,h2⟩:=t5 (C:=C) (V:=V) (b:=b) (H:=.seq (.st [.asg [(.bin .lss (.v vi) (.v vn))] []]) (.cond (.bin .lss (.v vi) (.v vn)) .skip (.exit b))) (BODY:=BODY) hn St (λ_=>False) hset
  (λk env hk hs hv=>by
   have h3:=hvn k env hs;by_cases hkn:k<n
   ·simp only[aL,cS,VS.run,au,X.ev,hv,h3,ac,bin,bA,hkn,Uz,UL,Uj,TY,bU]
   ·simp only[aL,cS,VS.run,au,X.ev,hv,h3,ac,bin,bA,hkn,Vb,UL,Uj,TY,bU,TU])
  (λk env hk hs hv=>by
   obtain⟨e,h3,h4,h5⟩:=hbody k env hk hs hv;exact⟨_,h3,.inl ⟨e,rfl,h4,h5⟩⟩) h0 hv
 rcases h2 with⟨e,rfl,h3,_⟩|⟨_,h3⟩
 ·refine⟨e,?_,h3⟩;have h4:=(yo (C:=C) (V:=V) (.st [.asg [(.bin .lss (.v vi) (.v vn))] []]) (.cond (.bin .lss (.v vi) (.v vn)) .skip (.exit b)) (.seq BODY (.st [.asg [] [(vi,.bin .add (.v vi) (.int .i64 1))]])) env).trans h1;exact iS h4
 ·exact h3.elim
theorem Lu{BODY:VC}{c:X}{vi b n:Nat}(hn:n<1099511627775)(St:Nat->Env->Prop)
  (hset:∀k env v,St k env->St k (env.set vi v))(hc:∀k env,k<=n->St k env->env vi=.int .i64 (k:Nat)->c.ev env=some (.bool (decide (k<n))))
  (hbody:∀k env,k<n->St k env->env vi=.int .i64 (k:Nat)->∃env',aL C V BODY env=some (.norm env')/\St (k+1) env'/\env' vi=.int .i64 (k:Nat))
  {env:Env}(h0:St 0 env)(hv:env vi=.int .i64 0):
  ∃env',aL C V (.block b (.loop (.seq (.seq (.st [.asg [c] []]) (.cond c .skip (.exit b))) (.seq BODY (.st [.asg [] [(vi,.bin .add (.v vi) (.int .i64 1))]]))))) env=some (.norm env')/\St n env':=by
 obtain⟨r,h1,h2⟩:=t5 (C:=C) (V:=V) (b:=b) (H:=.seq (.st [.asg [c] []]) (.cond c .skip (.exit b))) (BODY:=BODY) hn St (λ_=>False) hset
  (λk env hk hs hv=>by
   have h3:=hc k env hk hs hv;by_cases hkn:k<n
   ·simp only[aL,cS,VS.run,au,h3,hkn,Uz,UL,Uj,TY,bU,ac]
   ·simp only[aL,cS,VS.run,au,h3,hkn,Vb,UL,Uj,TY,bU,TU,ac])
  (λk env hk hs hv=>by
   obtain⟨e,h3,h4,h5⟩:=hbody k env hk hs hv;exact⟨_,h3,.inl ⟨e,rfl,h4,h5⟩⟩) h0 hv
 rcases h2 with⟨e,rfl,h3,_⟩|⟨_,h3⟩
 ·exact⟨e,iS h1,h3⟩
 ·exact h3.elim
theorem Kj{HEAD BODY:VC}{vi b n:Nat}(hn:n<1099511627775)(p:Nat->Bool)(R:PV)(St:Nat->Env->Prop)
  (hset:∀k env v,St k env->St k (env.set vi v))
  (hhead:∀k env,k<=n->St k env->env vi=.int .i64 (k:Nat)->aL C V HEAD env=some (if k<n then .norm env else .exit b env))
  (hbody:∀k env,k<n->St k env->env vi=.int .i64 (k:Nat)->∃r,aL C V BODY env=some r/\(if p k then∃env',r=.norm env'/\St (k+1) env'/\env' vi=.int .i64 (k:Nat)else r=.ret R []))
  {env:Env}(h0:St 0 env)(hv:env vi=.int .i64 0):
  ∃r,aL C V (.block b (.loop (.seq HEAD (.seq BODY (.st [.asg [] [(vi,.bin .add (.v vi) (.int .i64 1))]]))))) env=some r/\(if(∀k,k<n->p k=true)then∃env',r=.norm env'/\St n env' else r=.ret R []):=by
 obtain⟨r,h1,h2⟩:=t5 (C:=C) (V:=V) (b:=b) (H:=HEAD) (BODY:=BODY) hn (λk e=>St k e/\∀j,j<k->p j=true) (λr=>r=.ret R []/\¬ ∀k,k<n->p k=true) (λk env v h=>⟨hset k env v h.1,h.2⟩)
  (λk env hk hs hv=>hhead k env hk hs.1 hv)
  (λk env hk hs hv=>by
   obtain⟨r,h3,h4⟩:=hbody k env hk hs.1 hv;cases hp:p k with
   |true=>
    rw[hp,TB rfl]at h4;obtain⟨e,h5,h6,h7⟩:=h4;refine⟨r,h3,.inl ⟨e,h5,⟨h6,λj hj=>?_⟩,h7⟩⟩;by_cases hjk:j=k
    ·subst hjk;exact hp
    ·exact hs.2 j (by omega)
   |false=>
    rw[hp]at h4;simp only[T4,TU]at h4;refine⟨r,h3,.inr ⟨(λe he=>(by rw[h4]at he;cases he)),h4,(λh=>(by have:=h k hk;rw[hp]at this;cases this))⟩⟩) ⟨h0,λj hj=>by omega⟩ hv
 rcases h2 with⟨e,rfl,⟨h3,h4⟩,_⟩|⟨h3,h4,h5⟩
 ·exact⟨_,iS h1,by rw[TB h4];exact⟨e,rfl,h3⟩⟩
 ·subst h4;exact⟨_,bt h1,by rw[TF h5]⟩
@[simp] theorem FM (l:List Int):PV.fits (eI l) none=true:=rfl
@[simp] theorem Gg (l:List Nat):PV.fits (eB l) none=true:=rfl
@[simp] theorem xM (l:List SInstr):PV.fits (cw l) none=true:=rfl
@[simp] theorem E4 (l:List Int):PV.isCell (eI l)=true:=rfl
@[simp] theorem Fw (l:List Nat):PV.isCell (eB l)=true:=rfl
@[simp] theorem xP (l:List SInstr):PV.isCell (cw l)=true:=rfl
@[simp] theorem B1 (l:List Int):PV.cells (eI l)=[eI l]:=rfl
@[simp] theorem B5 (l:List Nat):PV.cells (eB l)=[eB l]:=rfl
@[simp] theorem vD (l:List SInstr):PV.cells (cw l)=[cw l]:=rfl
theorem CK(k:IntKind)(n:Int):PV.fits (.int k n) none=true:=rfl
theorem zu(b:Bool):PV.fits (.bool b) none=true:=rfl
theorem Cd(b:List UInt8):PV.fits (.str b) none=true:=rfl
theorem BU(l:List PV)(c:Bool):PV.fits (.lst l c) none=true:=rfl
theorem C3(l:List PV)(n:Nat):PV.fits (.agg l) (some n)=(l.length==n):=rfl
theorem zm:PV.fits .nilp none=true:=rfl
theorem zZ(l:List PV):PV.fits (.lptr l) none=true:=rfl
theorem Fz(f:Nat)(l:List PV):PV.fits (.fn f l) none=true:=rfl
theorem jv(k:IntKind)(n:Int):PV.isCell (.int k n)=true:=rfl
theorem rl(b:Bool):PV.isCell (.bool b)=true:=rfl
theorem CZ(b:List UInt8):PV.isCell (.str b)=true:=rfl
theorem C2(l:List PV)(c:Bool):PV.isCell (.lst l c)=true:=rfl
theorem z0:PV.isCell .nilp=true:=rfl
theorem zG(l:List PV):PV.isCell (.lptr l)=true:=rfl
theorem FO(f:Nat)(l:List PV):PV.isCell (.fn f l)=true:=rfl
theorem zy(k:IntKind)(n:Int):PV.cells (.int k n)=[.int k n]:=rfl
theorem xO(b:Bool):PV.cells (.bool b)=[.bool b]:=rfl
theorem Ah(l:List PV)(c:Bool):PV.cells (.lst l c)=[.lst l c]:=rfl
theorem zS(l:List PV):PV.cells (.agg l)=l:=rfl
theorem Kv(a:Int):PV.lst [.int .i64 a] false=eI [a]:=rfl
theorem Tc(a b:Int):PV.lst [.int .i64 a,.int .i64 b] false=eI [a,b]:=rfl
theorem eP{k:Nat}{l:List Int}{x:Int}(h:l[k]?=some x):az 1 (eI l) (.int .i64 (k:Nat))=some (.lptr [.int .i64 x]):=sj (f:=λn=>PV.int .i64 n) h rfl
theorem cE{l:List Int}:bO (eI l)=some (.int .i64 l.length):=nn
theorem od{k:Nat}{l:List SInstr}{x:SInstr}(h:l[k]?=some x):az 2 (cw l) (.int .i64 (k:Nat))=some (.lptr [.int .i64 x.op,.int .i64 x.a]):=sj (f:=eA) h rfl
theorem fG{l:List SInstr}:bO (cw l)=some (.int .i64 l.length):=nn
theorem Mn{k:Nat}{l:List SHandler}{x:SHandler}(h:l[k]?=some x):az 2 (.lst (l.map dh) false) (.int .i64 (k:Nat))=some (.lptr [.int .i64 x.args,cw x.code]):=sj (f:=dh) h rfl
theorem L0{k:Nat}{l:List SActor}{x:SActor}(h:l[k]?=some x):az 4 (.lst (l.map jt) false) (.int .i64 (k:Nat))=some (.lptr [eI x.regs,.int .i64 x.cap,.int .i64 x.timer,.bool x.armed]):=sj (f:=jt) h rfl
theorem Mu{k:Nat}{l:List SNote}{x:SNote}(h:l[k]?=some x):az 3 (.lst (l.map eK) false) (.int .i64 (k:Nat))=some (.lptr [.int .i64 x.to,.int .i64 x.handler,eI x.args]):=sj (f:=eK) h rfl
theorem iV{α:Type}{l:List α}{k:Nat}{x:α}(h:l[k]?=some x):l.take (k+1)=l.take k++[x]:=by
 rw[List.take_add_one,h];rfl
theorem aN{α:Type}{l:List α}{k:Nat}(h:k<l.length):∃x,l[k]?=some x/\x∈l:=⟨l[k],TD h,List.getElem_mem h⟩
section
variable{C:b6}{V:Nat->List PV->List PV->Bool}
theorem nx{a b:VC}{env e:Env}{x:Option vg}(h:aL C V a env=some (.norm e))(k:aL C V b e=x):aL C V (.seq a b) env=x:=by rw[Lf h];exact k
theorem oE{a b:VC}{env:Env}{x:Option vg}{P:Env->Prop}(h:∃e,aL C V a env=some (.norm e)/\P e)(k:∀e,P e->aL C V b e=x):aL C V (.seq a b) env=x:=by
 obtain⟨e,h1,h2⟩:=h;exact nx h1 (k e h2)
theorem mM(a b c:VC)(env:Env):aL C V (.seq (.seq a b) c) env=aL C V (.seq a (.seq b c)) env:=(Af a b c env).symm
end
theorem Si:type_of%(And.intro @aL.eq_1 (And.intro @aL.eq_2 (And.intro @aL.eq_3 (And.intro @aL.eq_4 (And.intro @aL.eq_5 (And.intro @aL.eq_6 (And.intro @aL.eq_7 (And.intro @aL.eq_8 (And.intro @cS.eq_1 (And.intro @cS.eq_2 (And.intro @VS.run.eq_1 (And.intro @VS.run.eq_2 (And.intro @VS.run.eq_3 (And.intro @au.eq_1 (And.intro @au.eq_2 (And.intro @bU.eq_1 (And.intro @bU.eq_2 (And.intro @fV.eq_1 (And.intro @fV.eq_2 (And.intro @X.ev.eq_1 (And.intro @X.ev.eq_2 (And.intro @X.ev.eq_3 (And.intro @X.ev.eq_4 (And.intro @X.ev.eq_5 (And.intro @X.ev.eq_6 (And.intro @X.ev.eq_7 (And.intro @X.ev.eq_8 (And.intro @X.ev.eq_9 (And.intro @X.ev.eq_10 (@X.ev.eq_11)))))))))))))))))))))))))))))):=(And.intro @aL.eq_1 (And.intro @aL.eq_2 (And.intro @aL.eq_3 (And.intro @aL.eq_4 (And.intro @aL.eq_5 (And.intro @aL.eq_6 (And.intro @aL.eq_7 (And.intro @aL.eq_8 (And.intro @cS.eq_1 (And.intro @cS.eq_2 (And.intro @VS.run.eq_1 (And.intro @VS.run.eq_2 (And.intro @VS.run.eq_3 (And.intro @au.eq_1 (And.intro @au.eq_2 (And.intro @bU.eq_1 (And.intro @bU.eq_2 (And.intro @fV.eq_1 (And.intro @fV.eq_2 (And.intro @X.ev.eq_1 (And.intro @X.ev.eq_2 (And.intro @X.ev.eq_3 (And.intro @X.ev.eq_4 (And.intro @X.ev.eq_5 (And.intro @X.ev.eq_6 (And.intro @X.ev.eq_7 (And.intro @X.ev.eq_8 (And.intro @X.ev.eq_9 (And.intro @X.ev.eq_10 (@X.ev.eq_11))))))))))))))))))))))))))))))
theorem SJ:type_of%(And.intro @X.ev.eq_12 (And.intro @X.ev.eq_13 (And.intro @X.ev.eq_14 (And.intro @X.ev.eq_15 (And.intro @X.ev.eq_16 (And.intro @X.ev.eq_17 (And.intro @X.ev.eq_18 (And.intro @X.ev.eq_19 (And.intro @X.ev.eq_20 (And.intro @X.ev.eq_21 (And.intro @X.ev.eq_22 (And.intro @X.ev.eq_23 (And.intro @X.ev.eq_24 (And.intro @X.ev.eq_25 (And.intro @X.ev.eq_26 (And.intro @X.ev.eq_27 (And.intro @X.ev.eq_28 (And.intro @X.ev.eq_29 (And.intro @X.ev.eq_30 (And.intro @X.ev.eq_31 (And.intro @X.ev.eq_32 (And.intro @X.ev.eq_33 (And.intro @X.ev.eq_34 (And.intro @X.ev.eq_35 (And.intro @X.ev.eq_36 (And.intro @X.ev.eq_37 (And.intro @X.ev.eq_38 (And.intro @X.ev.eq_39 (And.intro @jw.eq_1 (@jw.eq_2)))))))))))))))))))))))))))))):=(And.intro @X.ev.eq_12 (And.intro @X.ev.eq_13 (And.intro @X.ev.eq_14 (And.intro @X.ev.eq_15 (And.intro @X.ev.eq_16 (And.intro @X.ev.eq_17 (And.intro @X.ev.eq_18 (And.intro @X.ev.eq_19 (And.intro @X.ev.eq_20 (And.intro @X.ev.eq_21 (And.intro @X.ev.eq_22 (And.intro @X.ev.eq_23 (And.intro @X.ev.eq_24 (And.intro @X.ev.eq_25 (And.intro @X.ev.eq_26 (And.intro @X.ev.eq_27 (And.intro @X.ev.eq_28 (And.intro @X.ev.eq_29 (And.intro @X.ev.eq_30 (And.intro @X.ev.eq_31 (And.intro @X.ev.eq_32 (And.intro @X.ev.eq_33 (And.intro @X.ev.eq_34 (And.intro @X.ev.eq_35 (And.intro @X.ev.eq_36 (And.intro @X.ev.eq_37 (And.intro @X.ev.eq_38 (And.intro @X.ev.eq_39 (And.intro @jw.eq_1 (@jw.eq_2))))))))))))))))))))))))))))))
theorem RQ:type_of%(And.intro @bZ.eq_1 (And.intro @bZ.eq_2 (And.intro @oO.eq_1 (And.intro @oO.eq_2 (And.intro @bin.eq_1 (And.intro @bin.eq_2 (And.intro @bin.eq_3 (And.intro @bin.eq_4 (And.intro @bin.eq_5 (And.intro @bin.eq_6 (And.intro @kG.eq_1 (And.intro @kG.eq_2 (And.intro @uw.eq_1 (And.intro @uw.eq_2 (And.intro @GH.eq_1 (And.intro @GH.eq_2 (And.intro @dU.eq_1 (And.intro @bC.eq_1 (And.intro @bC.eq_2 (And.intro @ak.eq_1 (And.intro @ak.eq_2 (And.intro @Bz.eq_1 (And.intro @aU.eq_1 (And.intro @aU.eq_2 (And.intro @aU.eq_3 (And.intro @Env.sets.eq_1 (And.intro @Env.sets.eq_2 (And.intro @ac (And.intro @lZ (@Env.set_at)))))))))))))))))))))))))))))):=(And.intro @bZ.eq_1 (And.intro @bZ.eq_2 (And.intro @oO.eq_1 (And.intro @oO.eq_2 (And.intro @bin.eq_1 (And.intro @bin.eq_2 (And.intro @bin.eq_3 (And.intro @bin.eq_4 (And.intro @bin.eq_5 (And.intro @bin.eq_6 (And.intro @kG.eq_1 (And.intro @kG.eq_2 (And.intro @uw.eq_1 (And.intro @uw.eq_2 (And.intro @GH.eq_1 (And.intro @GH.eq_2 (And.intro @dU.eq_1 (And.intro @bC.eq_1 (And.intro @bC.eq_2 (And.intro @ak.eq_1 (And.intro @ak.eq_2 (And.intro @Bz.eq_1 (And.intro @aU.eq_1 (And.intro @aU.eq_2 (And.intro @aU.eq_3 (And.intro @Env.sets.eq_1 (And.intro @Env.sets.eq_2 (And.intro @ac (And.intro @lZ (@Env.set_at))))))))))))))))))))))))))))))
theorem RZ:type_of%(And.intro @CK (And.intro @zu (And.intro @Cd (And.intro @BU (And.intro @C3 (And.intro @zm (And.intro @zZ (And.intro @Fz (And.intro @jv (And.intro @rl (And.intro @CZ (And.intro @C2 (And.intro @z0 (And.intro @zG (And.intro @FO (And.intro @zy (And.intro @xO (And.intro @Ah (And.intro @zS (And.intro @B1 (And.intro @B5 (And.intro @vD (And.intro @FM (And.intro @Gg (And.intro @xM (And.intro @E4 (And.intro @Fw (And.intro @xP (And.intro @UL (@Vs)))))))))))))))))))))))))))))):=(And.intro @CK (And.intro @zu (And.intro @Cd (And.intro @BU (And.intro @C3 (And.intro @zm (And.intro @zZ (And.intro @Fz (And.intro @jv (And.intro @rl (And.intro @CZ (And.intro @C2 (And.intro @z0 (And.intro @zG (And.intro @FO (And.intro @zy (And.intro @xO (And.intro @Ah (And.intro @zS (And.intro @B1 (And.intro @B5 (And.intro @vD (And.intro @FM (And.intro @Gg (And.intro @xM (And.intro @E4 (And.intro @Fw (And.intro @xP (And.intro @UL (@Vs))))))))))))))))))))))))))))))
theorem SF:type_of%(And.intro @TM (And.intro @Uw (And.intro @List.drop_succ_cons.{0} (And.intro @Vw (And.intro @Vn (And.intro @List.take_zero.{0} (And.intro @TJ (And.intro @Um (And.intro @Uj (And.intro @Un (And.intro @Us (And.intro @TN (And.intro @T4 (And.intro @and_self (@U6))))))))))))))):=(And.intro @TM (And.intro @Uw (And.intro @List.drop_succ_cons.{0} (And.intro @Vw (And.intro @Vn (And.intro @List.take_zero.{0} (And.intro @TJ (And.intro @Um (And.intro @Uj (And.intro @Un (And.intro @Us (And.intro @TN (And.intro @T4 (And.intro @and_self (@U6)))))))))))))))
theorem wa:type_of%(And.intro Si (And.intro SJ (And.intro RQ (And.intro RZ SF)))):=And.intro Si (And.intro SJ (And.intro RQ (And.intro RZ SF)))
end Gv
namespace Gv
open Go
variable{C:b6}{V:Nat->List PV->List PV->Bool}
theorem rf{HEAD BODY K:VC}{vi b n:Nat}{X0:Option vg}(hn:n<1099511627775)(p:Nat->Bool)(R:PV)(St:Nat->Env->Prop)(P:Prop)
  (hset:∀k env v,St k env->St k (env.set vi v))
  (hhead:∀k env,k<=n->St k env->env vi=.int .i64 (k:Nat)->aL C V HEAD env=some (if k<n then .norm env else .exit b env))
  (hbody:∀k env,k<n->St k env->env vi=.int .i64 (k:Nat)->∃r,aL C V BODY env=some r/\(if p k then∃env',r=.norm env'/\St (k+1) env'/\env' vi=.int .i64 (k:Nat)else r=.ret R []))
  (hP:(∀k,k<n->p k=true)↔P)(hk:P->∀e,St n e->aL C V K e=X0)(hr:¬P->X0=some (.ret R []))
  {env:Env}(h0:St 0 env)(hv:env vi=.int .i64 0):
  aL C V (.seq (.block b (.loop (.seq HEAD (.seq BODY (.st [.asg [] [(vi,.bin .add (.v vi) (.int .i64 1))]]))))) K) env=X0:=by
 obtain⟨r,h1,h2⟩:=Kj (C:=C) (V:=V) hn p R St hset hhead hbody h0 hv;by_cases h:P
 ·rw[TB (hP.2 h)]at h2;obtain⟨e,rfl,h3⟩:=h2;exact nx h1 (hk h e h3)
 ·rw[TF (λh'=>h (hP.1 h'))]at h2;subst h2;rw[ah h1,hr h]
structure aV where
 id:SID
 note:SNote
 deriving DecidableEq
def co(m:aV):List PV:=[.int .i64 m.id.frm,.int .i64 m.id.n,.int .i64 m.id.copy,.int .i64 m.note.to,.int .i64 m.note.handler,eI m.note.args]
def dk(m:aV):PV:=.agg (co m)
def aJ(l:List aV):PV:=.lst (l.map dk) false
def ug(i:SID):PV:=.agg (wl i)
theorem ET(m:aV):(dk m).cells=co m:=rfl
theorem dR{k:Nat}{l:List aV}{x:aV}(h:l[k]?=some x):az 6 (aJ l) (.int .i64 (k:Nat))=some (.lptr (co x)):=sj (f:=dk) h rfl
theorem jG{l:List aV}:bO (aJ l)=some (.int .i64 l.length):=nn
def fh(a b:SID):Bool:=if a.frm≠b.frm then decide (a.frm<b.frm)else if a.n≠b.n then decide (a.n<b.n)else decide (a.copy<b.copy)
def qE(x y:Int):Int:=if x<y then-1 else if y<x then 1 else 0
def Kq(a b c:Int):Int:=if a≠0 then a else if b≠0 then b else c
theorem Hx(a b:SID):decide (Kq (qE a.frm b.frm) (qE a.n b.n) (qE a.copy b.copy)<0)=fh a b:=by
 simp only[Kq,qE,fh];by_cases h1:a.frm<b.frm
 ·simp[h1,show a.frm≠b.frm by omega]
 ·by_cases h2:b.frm<a.frm
  ·simp[h1,h2,show a.frm≠b.frm by omega]
  ·have e:a.frm=b.frm:=by omega
   by_cases h3:a.n<b.n
   ·simp[e,h3,show a.n≠b.n by omega]
   ·by_cases h4:b.n<a.n
    ·simp[e,h3,h4,show a.n≠b.n by omega]
    ·have e2:a.n=b.n:=by omega
     simp only[e,e2,Int.lt_irrefl,TU,ne_eq,UJ];by_cases h5:a.copy<b.copy
     ·simp[h5]
     ·by_cases h6:b.copy<a.copy
      ·simp[h5,h6]
      ·simp[h5,h6]
variable{C:b6}{V:Nat->List PV->List PV->Bool}
abbrev IE(c:X)(b:Nat):VC:=.seq (.st [.asg [c] []]) (.cond c .skip (.exit b))
abbrev uF(vi:Nat):VC:=.st [.asg [] [(vi,.bin .add (.v vi) (.int .i64 1))]]
theorem pz{c:X}{b n k:Nat}{env:Env}(h:c.ev env=some (.bool (decide (k<n)))):aL C V (IE c b) env=some (if k<n then .norm env else .exit b env):=by
 by_cases hk:k<n
 ·simp only[aL,cS,VS.run,au,h,hk,Uz,UL,Uj,TY,bU,ac]
 ·simp only[aL,cS,VS.run,au,h,hk,Vb,UL,Uj,TY,bU,TU,ac]
theorem Kt{c:X}{b vi:Nat}{BODY:VC}{env:Env}:aL C V (.block b (.loop (.seq (.st [.asg [c] []]) (.seq (.cond c .skip (.exit b)) (.seq BODY (uF vi)))))) env=aL C V (.block b (.loop (.seq (IE c b) (.seq BODY (uF vi))))) env:=by
 have:=yo (C:=C) (V:=V) (.st [.asg [c] []]) (.cond c .skip (.exit b)) (.seq BODY (uF vi)) env;rw[aL.eq_def,aL.eq_def C V (.block b _)];simp only;rw[this]
theorem zA{c:X}{BODY:VC}{vi b n:Nat}(hn:n<1099511627775)(p:Nat->Bool)(R:Nat->PV)(St:Nat->Env->Prop)
  (hset:∀k env v,St k env->St k (env.set vi v))
  (hc:∀k env,k<=n->St k env->env vi=.int .i64 (k:Nat)->c.ev env=some (.bool (decide (k<n))))
  (hbody:∀k env,k<n->St k env->env vi=.int .i64 (k:Nat)->∃r,aL C V BODY env=some r/\(if p k then r=.ret (R k) []else∃env',r=.norm env'/\St (k+1) env'/\env' vi=.int .i64 (k:Nat)))
  {env:Env}(h0:St 0 env)(hv:env vi=.int .i64 0):
  ∃r,aL C V (.block b (.loop (.seq (IE c b) (.seq BODY (uF vi))))) env=some r/\((∃k,k<n/\p k=true/\(∀j,j<k->p j=false)/\r=.ret (R k) [])∨((∀k,k<n->p k=false)/\∃env',r=.norm env'/\St n env')):=by
 obtain⟨r,h1,h2⟩:=t5 (C:=C) (V:=V) (b:=b) (H:=IE c b) (BODY:=BODY) hn (λk e=>St k e/\∀j,j<k->p j=false) (λr=>∃k,k<n/\p k=true/\(∀j,j<k->p j=false)/\r=.ret (R k) []) (λk env v h=>⟨hset k env v h.1,h.2⟩)
  (λk env hk hs hv=>pz (hc k env hk hs.1 hv))
  (λk env hk hs hv=>by
   obtain⟨r,h3,h4⟩:=hbody k env hk hs.1 hv;cases hp:p k with
   |true=>
    rw[hp,TB rfl]at h4;subst h4;exact⟨_,h3,.inr ⟨λe h=>(by cases h),k,hk,hp,hs.2,rfl⟩⟩
   |false=>
    rw[hp,TF (by simp)]at h4;obtain⟨e,rfl,h5,h6⟩:=h4;refine⟨_,h3,.inl ⟨e,rfl,⟨h5,λj hj=>?_⟩,h6⟩⟩;rcases Nat.lt_succ_iff_lt_or_eq.1 hj with h|rfl
    ·exact hs.2 j h
    ·exact hp) ⟨h0,λj hj=>absurd hj (Nat.not_lt_zero _)⟩ hv
 rcases h2 with⟨e,rfl,h3,_⟩|⟨_,k,h3,h4,h5,rfl⟩
 ·exact⟨_,iS h1,.inr ⟨h3.2,e,rfl,h3.1⟩⟩
 ·exact⟨_,bt h1,.inl ⟨k,h3,h4,h5,rfl⟩⟩
theorem xm{c:X}{BODY K:VC}{vi b n:Nat}{X0:Option vg}(hn:n<1099511627775)(p:Nat->Bool)(R:Nat->PV)(St:Nat->Env->Prop)
  (hset:∀k env v,St k env->St k (env.set vi v))
  (hc:∀k env,k<=n->St k env->env vi=.int .i64 (k:Nat)->c.ev env=some (.bool (decide (k<n))))
  (hbody:∀k env,k<n->St k env->env vi=.int .i64 (k:Nat)->∃r,aL C V BODY env=some r/\(if p k then r=.ret (R k) []else∃env',r=.norm env'/\St (k+1) env'/\env' vi=.int .i64 (k:Nat)))
  (hr:∀k,k<n->p k=true->(∀j,j<k->p j=false)->X0=some (.ret (R k) []))(hk:(∀k,k<n->p k=false)->∀e,St n e->aL C V K e=X0)
  {env:Env}(h0:St 0 env)(hv:env vi=.int .i64 0):
  aL C V (.seq (.block b (.loop (.seq (IE c b) (.seq BODY (uF vi))))) K) env=X0:=by
 obtain⟨r,h1,h2⟩:=zA (C:=C) (V:=V) hn p R St hset hc hbody h0 hv;rcases h2 with⟨k,a1,a2,a3,rfl⟩|⟨a1,e,rfl,a2⟩
 ·rw[ah h1,hr k a1 a2 a3]
 ·exact nx h1 (hk a1 e a2)
theorem zE{c:X}{BODY K:VC}{vi b n:Nat}{X0:Option vg}(hn:n<1099511627775)(p:Nat->Bool)(R:Nat->PV)(St:Nat->Env->Prop)
  (hset:∀k env v,St k env->St k (env.set vi v))
  (hc:∀k env,k<=n->St k env->env vi=.int .i64 (k:Nat)->c.ev env=some (.bool (decide (k<n))))
  (hbody:∀k env,k<n->St k env->env vi=.int .i64 (k:Nat)->∃r,aL C V BODY env=some r/\(if p k then r=.ret (R k) []else∃env',r=.norm env'/\St (k+1) env'/\env' vi=.int .i64 (k:Nat)))
  (hr:∀k,k<n->p k=true->(∀j,j<k->p j=false)->X0=some (.ret (R k) []))(hk:(∀k,k<n->p k=false)->∀e,St n e->aL C V K e=X0)
  {env:Env}(h0:St 0 env)(hv:env vi=.int .i64 0):
  aL C V (.seq (.block b (.loop (.seq (.st [.asg [c] []]) (.seq (.cond c .skip (.exit b)) (.seq BODY (uF vi)))))) K) env=X0:=by
 have:=xm (C:=C) (V:=V) (K:=K) (X0:=X0) (b:=b) hn p R St hset hc hbody hr hk h0 hv;rw[<-this,aL.eq_def,aL.eq_def C V (.seq _ K)];simp only;rw[Kt]
theorem Qt(x:Int):aI .neq .i64 x .i64 x=some (.bool false):=by simp[aI]
theorem F5{m:Nat}(x:Int):aj aG (m+1) 106 [.int .i64 x]=some (.bool false,[]):=by
 refine am (F:=iH) rfl rfl rfl ?_ (.inr rfl);simp only[iH];simp only[wa,↓reduceIte,Env.ofArgs_at,TS,Qt]
theorem II{m:Nat}(x y:Int):aj aG (m+2) 103 [.int .i64 x,.int .i64 y]=some (.int .i64 (qE x y),[]):=by
 refine am (F:=fP) rfl rfl rfl ?_ (.inr rfl);have h1:=F5 (m:=m) x;have h2:=F5 (m:=m) y;generalize aj aG (m+1)=C at*;generalize aY aG=V;have hl:aI .lss .i64 x .i64 y=some (.bool (decide (x<y))):=by simp[aI]
 have hg:aI .gtr .i64 x .i64 y=some (.bool (decide (y<x))):=by simp[aI]
 simp only[fP];by_cases a:x<y
 ·simp only[wa,↓reduceIte,Nat.reduceEqDiff,reduceCtorEq,Env.ofArgs_at,TS,h1,h2,hl,a,Uz,qE]
 ·by_cases b:y<x
  ·simp only[wa,↓reduceIte,Nat.reduceEqDiff,reduceCtorEq,Env.ofArgs_at,TS,h1,h2,hl,hg,a,b,Uz,Vb,qE]
  ·simp only[wa,↓reduceIte,Nat.reduceEqDiff,reduceCtorEq,Env.ofArgs_at,TS,h1,h2,hl,hg,a,b,Vb,qE]
theorem SQ{m:Nat}(a b c:Int):aj aG (m+1) 102 [.lst [.int .i64 a,.int .i64 b,.int .i64 c] false]=some (.int .i64 (Kq a b c),[]):=by
 refine am (F:=kW) rfl rfl rfl ?_ (.inr rfl);generalize aj aG m=C;generalize aY aG=V;have hx:∀k x,[a,b,c][k]?=some x->az 1 (.lst [.int .i64 a,.int .i64 b,.int .i64 c] false) (.int .i64 (k:Nat))=some (.lptr [.int .i64 x]):=λk x h=>eP (l:=[a,b,c]) h;have hl:bO (.lst [.int .i64 a,.int .i64 b,.int .i64 c] false)=some (.int .i64 (3:Nat)):=cE (l:=[a,b,c]);generalize hL:PV.lst [.int .i64 a,.int .i64 b,.int .i64 c] false=L at hx hl;simp only[kW,pv];refine nx (by simp only[wa,↓reduceIte];rfl) ?_;rw[mM];refine nx (by simp only[wa,↓reduceIte,reduceCtorEq,Env.ofArgs_at,TS,hl];rfl) ?_;refine zE (n:=3) (by omega) (λk=>decide (([a,b,c][k]?).getD 0≠0)) (λk=>.int .i64 (([a,b,c][k]?).getD 0)) (λ_ e=>e 6=L/\e 3=.int .i64 0/\e 7=.int .i64 (3:Nat)) (λk e v h=>by simpa using h)
  (λk e hk h hv=>by simp only[X.ev,hv,h.2.2,ac,bin,bA]) (λk e hk ⟨h1,h2,h3⟩ hv=>?_) (λk hk hp hj=>?_) (λhp e h=>?_) ⟨by simp[],by simp,by simp⟩ (by simp)
 ·obtain⟨x,hx',_⟩:=aN (l:=[a,b,c]) (k:=k) hk;have hi:=hx k x hx';by_cases h0:x=0
  ·subst h0;have hn:=Qt 0;refine⟨_,by simp only[wa,↓reduceIte,Nat.reduceEqDiff,h1,h2,hv,hi,hn];rfl,?_⟩;simp[hx',h1,h2,h3,hv]
  ·have hn:aI .neq .i64 x .i64 0=some (.bool true):=by simp[aI,h0]
   refine⟨_,by simp only[wa,↓reduceIte,Nat.reduceEqDiff,h1,h2,hv,hi,hn];rfl,?_⟩;simp[hx',h0]
 ·match k,hk with
  |0,_=>simp at hp;simp[Kq,hp]
  |1,_=>have:=hj 0 (by omega);simp at hp this;simp[Kq,hp,this]
  |2,_=>have h0:=hj 0 (by omega);have h1:=hj 1 (by omega);simp at hp h0 h1;simp[Kq,h0,h1]
 ·have h0:=hp 0 (by omega);have h1:=hp 1 (by omega);have h2:=hp 2 (by omega);simp at h0 h1 h2;simp only[wa,↓reduceIte,h.2.1];simp[Kq,h0,h1,h2]
theorem KL{m:Nat}(a b:SID):aj aG (m+3) 96 [ug a,ug b]=some (.int .i64 (Kq (qE a.frm b.frm) (qE a.n b.n) (qE a.copy b.copy)),[]):=by
 refine am (F:=jT) rfl rfl rfl ?_ (.inr rfl);have h1:=II (m:=m) a.frm b.frm;have h2:=II (m:=m) a.n b.n;have h3:=II (m:=m) a.copy b.copy;have h4:=SQ (m:=m+1) (qE a.frm b.frm) (qE a.n b.n) (qE a.copy b.copy);generalize aj aG (m+2)=C at*;generalize aY aG=V;simp only[ug,wl,jT];simp only[wa,↓reduceIte,Nat.reduceEqDiff,Nat.reduceAdd,Tz,Env.ofArgs_at,TS,h1,h2,h3,h4]
theorem JS{m:Nat}(a b:SID):aj aG (m+4) 75 [ug a,ug b]=some (.bool (fh a b),[]):=by
 refine am (F:=lu) rfl rfl rfl ?_ (.inr rfl);have h1:=KL (m:=m) a b;generalize aj aG (m+3)=C at*;generalize aY aG=V;have hl:aI .lss .i64 (Kq (qE a.frm b.frm) (qE a.n b.n) (qE a.copy b.copy)) .i64 0=some (.bool (fh a b)):=by
  rw[<-Hx];simp[aI]
 simp only[ug,wl]at h1;simp only[ug,wl,lu];simp only[wa,↓reduceIte,Nat.reduceEqDiff,Nat.reduceAdd,Tz,Env.ofArgs_at,TS,h1,hl]
theorem rM(x y:Int):aI .lss .i64 x .i64 y=some (.bool (decide (x<y))):=by simp[aI]
theorem E8(x y:Int):aI .neq .i64 x .i64 y=some (.bool (decide (x≠y))):=by
 by_cases h:x=y<;>simp[aI,h]
theorem FI{m:Nat}(a b:SID):aj aG (m+1) 78 [ug a,ug b]=some (.bool (fh a b),[]):=by
 refine am (F:=mR) rfl rfl rfl ?_ (.inr rfl);generalize aj aG m=C;generalize aY aG=V;simp only[ug,wl,mR];by_cases h1:a.frm=b.frm
 ·have e1:aI .neq .i64 a.frm .i64 b.frm=some (.bool false):=by rw[E8];simp[h1]
  by_cases h2:a.n=b.n
  ·have e2:aI .neq .i64 a.n .i64 b.n=some (.bool false):=by rw[E8];simp[h2]
   simp only[wa,↓reduceIte,Nat.reduceEqDiff,Nat.reduceAdd,Tz,Env.ofArgs_at,TS,rM,e1,e2];simp[fh,h1,h2]
  ·have e2:aI .neq .i64 a.n .i64 b.n=some (.bool true):=by rw[E8];simp[h2]
   simp only[wa,↓reduceIte,Nat.reduceEqDiff,Nat.reduceAdd,Tz,Env.ofArgs_at,TS,rM,e1,e2];simp[fh,h1,h2]
 ·have e1:aI .neq .i64 a.frm .i64 b.frm=some (.bool true):=by rw[E8];simp[h1]
  simp only[wa,↓reduceIte,Nat.reduceEqDiff,Nat.reduceAdd,Tz,Env.ofArgs_at,TS,rM,e1];simp[fh,h1]
theorem M5(x y:SID):rD false [false,false,false] (.agg [.int .i64 x.frm,.int .i64 x.n,.int .i64 x.copy]) (.agg [.int .i64 y.frm,.int .i64 y.n,.int .i64 y.copy])=some (.bool (decide (x=y))):=by
 have:decide (x=y)=(decide (x.frm=y.frm)&&(decide (x.n=y.n)&&decide (x.copy=y.copy))):=by
  cases x;cases y;simp only[SID.mk.injEq,Bool.decide_and]
 rw[this];have h:∀a b:Int,(a==b)=decide (a=b):=λa b=>by by_cases h:a=b<;>simp[h]
 simp[rD,aQ,h]
theorem LN{m:Nat}(x:aV)(i:SID):aj aG (m+1) 81 [dk x,.lptr (wl i)]=some (.bool (decide (x.id=i)),[]):=by
 refine am (F:=j9) rfl rfl rfl ?_ (.inr rfl);generalize aj aG m=C;generalize aY aG=V;have h:=M5 x.id i;simp only[dk,co,wl,j9];simp only[wa,↓reduceIte,Nat.reduceEqDiff,Nat.reduceAdd,Tz,Env.ofArgs_at,TS,h]
theorem Ob{m:Nat}(x y:aV):aj aG (m+5) 74 [dk x,.lptr (co y)]=some (.bool (!fh x.id y.id),[]):=by
 refine am (F:=lP) rfl rfl rfl ?_ (.inr rfl);have h:=JS (m:=m) x.id y.id;generalize aj aG (m+4)=C at*;generalize aY aG=V;simp only[ug,wl]at h;simp only[dk,co,lP];simp only[wa,↓reduceIte,Nat.reduceEqDiff,Nat.reduceAdd,Tz,Env.ofArgs_at,TS,h,un]
def fM{α:Type}(p:α->Bool)(l:List α):Int:=match l.findIdx? p with|some k=>(k:Int)|none=> -1
theorem Ag{α:Type}{p:α->Bool}{l:List α}{k:Nat}(hk:k<l.length)(hp:∀x,l[k]?=some x->p x=true)(hj:∀j,j<k->∀x,l[j]?=some x->p x=false):fM p l=k:=by
 have:l.findIdx? p=some k:=by
  rw[U0];exact⟨hk,hp _ (TD hk),λj hj'=>by
   have:=hj j hj' _ (TD (by omega));simp[this]⟩
 simp[fM,this]
theorem uh{α:Type}{p:α->Bool}{l:List α}(hp:∀k,k<l.length->∀x,l[k]?=some x->p x=false):fM p l= -1:=by
 have:l.findIdx? p=none:=by
  rw[List.findIdx?_eq_none_iff];intro x hx;obtain⟨k,hk⟩:=List.mem_iff_getElem?.1 hx;exact hp k (List.getElem?_eq_some_iff.1 hk).1 x hk
 simp[fM,this]
theorem EJ{m fn:Nat}{caps:List PV}{p:aV->Bool}(l:List aV)(hl:l.length<1000000000)(hC:∀x∈l,aj aG m fn (dk x::caps)=some (.bool (p x),[]))(hV:∀x∈l,aY aG fn [dk x] caps=true):
  aj aG (m+1) 73 [aJ l,.fn fn caps]=some (.int .i64 (fM p l),[]):=by
 refine am (F:=bh) rfl rfl rfl ?_ (.inr rfl);generalize aj aG m=C at*;generalize aY aG=V at*;have ll:bO (aJ l)=some (.int .i64 l.length):=jG;simp only[bh,cH];refine nx (by simp only[wa];rfl) ?_;rw[mM];refine nx (by simp only[wa,↓reduceIte,Env.ofArgs_at,TS,ll];rfl) ?_;refine zE (n:=l.length) (by omega) (λk=>(l[k]?).elim false p) (λk=>.int .i64 (k:Nat)) (λ_ e=>e 0=aJ l/\e 1=.fn fn caps/\e 7=.int .i64 l.length) (λk e v h=>by simpa using h)
  (λk e hk h hv=>by simp only[X.ev,hv,h.2.2,ac,bin,bA]) (λk e hk ⟨h1,h2,h3⟩ hv=>?_) (λk hk hp hj=>?_) (λhp e h=>?_) ⟨by simp[Env.ofArgs_at],by simp[Env.ofArgs_at],by simp⟩ (by simp)
 ·obtain⟨x,hx',hm⟩:=aN hk;have hi:=dR hx';have hc:=hC x hm;have hv':=hV x hm;simp only[dk,co]at hc hv' hi;cases hp:p x with
  |true=>
   rw[hp]at hc;refine⟨_,by simp only[wa,↓reduceIte,Nat.reduceEqDiff,reduceCtorEq,Nat.reduceAdd,Tz,h1,h2,hv,hi,hv',UD,TL,hc];rfl,?_⟩;simp[hx',hp]
  |false=>
   rw[hp]at hc;refine⟨_,by simp only[wa,↓reduceIte,Nat.reduceEqDiff,reduceCtorEq,Nat.reduceAdd,Tz,h1,h2,hv,hi,hv',UD,TL,hc];rfl,?_⟩;simp[hx',hp,h1,h2,h3,hv]
 ·rw[Ag hk (λx hx=>by rw[hx]at hp;exact hp) λj hj' x hx=>by have:=hj j hj';rw[hx]at this;exact this]
 ·rw[uh λk hk x hx=>by have:=hp k hk;rw[hx]at this;exact this];simp only[wa,↓reduceIte]
def bR(l:List aV)(i:SID):Int:=fM (λx=>decide (x.id=i)) l
theorem A6{m:Nat}(l:List aV)(hl:l.length<1000000000)(i:SID):aj aG (m+3) 39 [aJ l,ug i]=some (.int .i64 (bR l i),[]):=by
 refine am (F:=ny) rfl rfl rfl ?_ (.inr rfl);have h:=EJ (m:=m+1) (fn:=81) (caps:=[.lptr (wl i)]) (p:=λx=>decide (x.id=i)) l hl (λx _=>LN x i) (λx _=>rfl);generalize aj aG (m+2)=C at*;generalize aY aG=V;simp only[wl]at h;have hm:NM 81 (.tup [.lptr [.int .i64 i.frm,.int .i64 i.n,.int .i64 i.copy]])=some (.fn 81 [.lptr [.int .i64 i.frm,.int .i64 i.n,.int .i64 i.copy]]):=rfl;simp only[ug,wl,ny];simp only[wa,↓reduceIte,reduceCtorEq,Nat.reduceAdd,Tz,Env.ofArgs_at,TS,hm,h];rfl
theorem tZ{m:Nat}(l:List aV)(hl:l.length<1000000000)(i:SID):aj aG (m+1) 40 [aJ l,ug i]=some (.int .i64 (bR l i),[]):=by
 refine am (F:=jQ) rfl rfl rfl ?_ (.inr rfl);generalize aj aG m=C;generalize aY aG=V;have ll:bO (aJ l)=some (.int .i64 l.length):=jG;have he:=λx=>M5 x i;simp only[ug,wl,jQ,om];refine nx (by simp only[wa,↓reduceIte,Nat.reduceAdd,Tz,Env.ofArgs_at,TS];rfl) ?_;rw[mM];refine nx (by simp only[wa,↓reduceIte];rfl) ?_;refine xm (n:=l.length) (by omega) (λk=>(l[k]?).elim false λx=>decide (x.id=i)) (λk=>.int .i64 (k:Nat)) (λ_ e=>e 0=aJ l/\e 3=.lptr [.int .i64 i.frm,.int .i64 i.n,.int .i64 i.copy]) (λk e v h=>by simpa using h)
  (λk e hk h hv=>by simp only[X.ev,hv,h.1,ll,ac,bin,bA]) (λk e hk ⟨h1,h2⟩ hv=>?_) (λk hk hp hj=>?_) (λhp e h=>?_) ⟨by simp[Env.ofArgs_at],by simp⟩ (by simp)
 ·obtain⟨x,hx',hm⟩:=aN hk;have hi:=dR hx';have hc:=he x.id;simp only[co]at hi;by_cases hp:x.id=i
  ·rw[T3 hp]at hc;refine⟨_,by simp only[wa,↓reduceIte,Nat.reduceAdd,Nat.reduceLeDiff,Tz,h1,h2,hv,hi,hc];rfl,?_⟩;simp[hx',hp]
  ·rw[TP hp]at hc;refine⟨_,by simp only[wa,↓reduceIte,Nat.reduceAdd,Nat.reduceLeDiff,Tz,h1,h2,hv,hi,hc];rfl,?_⟩;simp[hx',hp,h1,h2,hv]
 ·rw[bR,Ag hk (λx hx=>by rw[hx]at hp;exact hp) λj hj' x hx=>by have:=hj j hj';rw[hx]at this;exact this]
 ·rw[bR,uh λk hk x hx=>by have:=hp k hk;rw[hx]at this;exact this];simp only[wa,↓reduceIte]
theorem wU:∀l:List Int,cq 1 (l.map λn=>PV.int .i64 n)=true
 |[]=>rfl
 |x::l=>by simp only[TW,cq,PV.cells,TJ,Um,Tz,Uj,wU l]
theorem wv{m:Nat}(l:List Int)(hl:l.length<1000000000):aj aG (m+1) 105 [eI l]=some (eI l,[]):=by
 refine Aa (F:=r9) rfl rfl rfl ?_ rfl (.inr ?_)
 ·generalize aj aG m=C;generalize aY aG=V;have ha:iO 1 (.lst [] false) (eI l)=some (eI l):=by
   simp only[eI,iO];rw[TB ⟨wU l,by simp[bV];omega⟩];rfl
  simp only[r9];simp only[wa,↓reduceIte,Env.ofArgs_at,TS,cE,ha]
 ·simp[eI,tW]
theorem D4{m:Nat}(x:SNote)(hl:x.args.length<1000000000):aj aG (m+2) 99 [eK x]=some (eK x,[]):=by
 refine am (F:=iu) rfl rfl rfl ?_ (.inl rfl);have h:=wv (m:=m) x.args hl;generalize aj aG (m+1)=C at*;generalize aY aG=V;simp only[eK,iu];simp only[wa,↓reduceIte,Nat.reduceEqDiff,Nat.reduceAdd,Tz,Env.ofArgs_at,TS,h]
theorem Mf{m:Nat}(x:aV)(hl:x.note.args.length<1000000000):aj aG (m+3) 77 [dk x]=some (dk x,[]):=by
 refine am (F:=oC) rfl rfl rfl ?_ (.inl rfl);have h:=D4 (m:=m) x.note hl;generalize aj aG (m+2)=C at*;generalize aY aG=V;simp only[eK]at h;simp only[dk,co,oC];simp only[wa,↓reduceIte,Nat.reduceEqDiff,Nat.reduceAdd,Tz,Env.ofArgs_at,TS,h]
def xj(l:List aV):Prop:=l.length<1000000000/\∀x∈l,x.note.args.length<1000000000
theorem Dy:∀l:List aV,cq 6 (l.map dk)=true
 |[]=>rfl
 |x::l=>by simp only[TW,cq,ET,co,TJ,Um,Nat.reduceAdd,Tz,Uj,Dy l]
theorem nG{a b:List aV}(h:a.length+b.length<2147483648):iO 6 (aJ a) (aJ b)=some (aJ (a++b)):=by
 simp only[aJ,iO];rw[TB ⟨Dy b,by simp only[Uk];exact h⟩,U1]
theorem JY{m:Nat}(l:List aV)(hl:xj l):aj aG (m+4) 44 [aJ l]=some (aJ l,[]):=by
 refine am (F:=np) rfl rfl rfl ?_ (.inl rfl);have ho:=λx(hx:x∈l)=>Mf (m:=m) x (hl.2 x hx);generalize aj aG (m+3)=C at*;generalize aY aG=V;have ll:bO (aJ l)=some (.int .i64 l.length):=jG;have hl0:=hl.1;simp only[np,qj];refine nx (by simp only[wa,↓reduceIte];rfl) ?_;rw[mM];refine nx (by simp only[wa,↓reduceIte,reduceCtorEq,Env.ofArgs_at,TS,ll];rfl) ?_;refine oE (qJ (n:=l.length) (by omega) (λk e=>e 5=aJ l/\e 6=.int .i64 l.length/\e 2=aJ (l.take k)) (λk e v h=>by simpa using h) (λk e h=>h.2.1) (λk e hk ⟨h1,h2,h3⟩ hv=>?_) ⟨by simp[],by simp,by simp[aJ]⟩ (by simp)) (λe h=>?_)
 ·obtain⟨x,hx',hm⟩:=aN hk;have hi:=dR hx';have hc:=ho x hm;have ha:=nG (a:=l.take k) (b:=[x]) (by simp;omega);simp only[dk,co]at hc hi;simp only[aJ,TW,UW,dk,co]at ha h3;refine⟨_,by simp only[wa,↓reduceIte,Nat.reduceEqDiff,Nat.reduceAdd,Tz,h1,h3,hv,hi,hc,ha];rfl,?_,by simp[hv]⟩;rw[iV hx'];simp[h1,h2,aJ,dk,co]
 ·refine nx (by simp only[wa];rfl) ?_;simp only[wa,h.2.2];rw[Vq]
theorem vk(x y:Int):aI .eql .i64 x .i64 y=some (.bool (decide (x=y))):=by
 by_cases h:x=y<;>simp[aI,h]
def Et(l:List aV)(w:Int):Nat:=l.countP λx=>decide (x.note.to=w)
theorem IX(l:List aV)(w:Int):Et l w<=l.length:=List.countP_le_length
theorem Do(l:List aV)(x:aV)(w:Int):Et (l++[x]) w=Et l w+if x.note.to=w then 1 else 0:=by
 simp[Et,List.countP_append,List.countP_cons]
theorem SA{m:Nat}(l:List aV)(hl:l.length<1000000000)(w:Int):aj aG (m+1) 41 [aJ l,.int .i64 w]=some (.int .i64 (Et l w:Nat),[]):=by
 refine am (F:=qV) rfl rfl rfl ?_ (.inr rfl);generalize aj aG m=C;generalize aY aG=V;have ll:bO (aJ l)=some (.int .i64 l.length):=jG;simp only[qV,ue];refine nx (by simp only[wa,↓reduceIte];rfl) ?_;rw[mM];refine nx (by simp only[wa,↓reduceIte,reduceCtorEq,Env.ofArgs_at,TS,ll];rfl) ?_;refine oE (qJ (n:=l.length) (by omega) (λk e=>e 7=aJ l/\e 8=.int .i64 l.length/\e 1=.int .i64 w/\e 4=.int .i64 (Et (l.take k) w:Nat)) (λk e v h=>by simpa using h) (λk e h=>h.2.1) (λk e hk ⟨h1,h2,h3,h4⟩ hv=>?_) ⟨by simp[],by simp,by simp[Env.ofArgs_at],by simp[Et]⟩ (by simp)) (λe h=>?_)
 ·obtain⟨x,hx',hm⟩:=aN hk;have hi:=dR hx';simp only[co]at hi;have hle:=IX (l.take k) w;have hlt:(l.take k).length<=k:=by simp;omega
  have ha:=bT (k:=Et (l.take k) w) (by omega);rw[iV hx',Do];by_cases hp:x.note.to=w
  ·have he:aI .eql .i64 x.note.to .i64 w=some (.bool true):=by rw[vk,T3 hp]
   refine⟨_,by simp only[wa,↓reduceIte,Nat.reduceEqDiff,Nat.reduceAdd,Tz,h1,h3,h4,hv,hi,he,ha];rfl,?_,by simp[hv]⟩;simp[h1,h2,h3,hp]
  ·have he:aI .eql .i64 x.note.to .i64 w=some (.bool false):=by rw[vk,TP hp]
   refine⟨_,by simp only[wa,↓reduceIte,Nat.reduceEqDiff,Nat.reduceAdd,Tz,h1,h3,hv,hi,he];rfl,?_,by simp[hv]⟩;simp[h1,h2,h3,h4,hp]
 ·refine nx (by simp only[wa];rfl) ?_;simp only[wa,h.2.2.2];rw[Vq]
theorem Rk{m:Nat}(l:List aV)(hl:l.length<1000000000)(w:Int):aj aG (m+1) 42 [aJ l,.int .i64 w]=some (.int .i64 (Et l w:Nat),[]):=by
 refine am (F:=rq) rfl rfl rfl ?_ (.inr rfl);generalize aj aG m=C;generalize aY aG=V;have ll:bO (aJ l)=some (.int .i64 l.length):=jG;simp only[rq,t8];refine nx (by simp only[wa,↓reduceIte];rfl) ?_;rw[mM];refine nx (by simp only[wa,↓reduceIte];rfl) ?_;refine oE (Lu (n:=l.length) (by omega) (λk e=>e 0=aJ l/\e 1=.int .i64 w/\e 5=.int .i64 (Et (l.take k) w:Nat)) (λk e v h=>by simpa using h) (λk e hk h hv=>by simp only[X.ev,hv,h.1,ll,ac,bin,bA]) (λk e hk ⟨h1,h3,h4⟩ hv=>?_) ⟨by simp[Env.ofArgs_at],by simp[Env.ofArgs_at],by simp[Et]⟩ (by simp)) (λe h=>?_)
 ·obtain⟨x,hx',hm⟩:=aN hk;have hi:=dR hx';simp only[co]at hi;have hle:=IX (l.take k) w;have hlt:(l.take k).length<=k:=by simp;omega
  have ha:=bT (k:=Et (l.take k) w) (by omega);rw[iV hx',Do];by_cases hp:x.note.to=w
  ·have he:aI .eql .i64 x.note.to .i64 w=some (.bool true):=by rw[vk,T3 hp]
   refine⟨_,by simp only[wa,↓reduceIte,h1,h3,h4,hv,hi,he,ha];rfl,?_,by simp[hv]⟩;simp[h1,h3,hp]
  ·have he:aI .eql .i64 x.note.to .i64 w=some (.bool false):=by rw[vk,TP hp]
   refine⟨_,by simp only[wa,↓reduceIte,h1,h3,hv,hi,he];rfl,?_,by simp[hv]⟩;simp[h1,h3,h4,hp]
 ·simp only[wa,↓reduceIte,h.2.2];rw[Vq]
theorem IJ(x y:Int):aI .neq .i64 x .i64 y=some (.bool (!decide (x=y))):=by
 by_cases h:x=y<;>simp[aI,h]
theorem I3(x y:Int):aI .eql .i64 x .i64 y=some (.bool (decide (x=y))):=vk x y
theorem ff:(false==true)=false:=rfl
theorem Fk(a b:Nat):aI .neq .i64 (a:Int) .i64 (b:Int)=some (.bool (!decide (a=b))):=by
 rw[IJ];have:decide ((a:Int)=(b:Int))=decide (a=b):=by rw[decide_eq_decide];omega
 rw[this]
theorem FH{α:Type}[DecidableEq α]{a b:List α}(hl:a.length=b.length):(∀k,k<a.length->decide (a[k]?=b[k]?)=true)↔a=b:=by
 simp only[TK];constructor
 ·intro h;apply VA;intro i;by_cases hi:i<a.length
  ·exact h i hi
  ·rw[TO (by omega),TO (by omega)]
 ·rintro rfl k _;rfl
theorem FU{m:Nat}(a b:List Int)(ha:a.length<1000000000):aj aG (m+1) 90 [eI a,eI b]=some (.bool (decide (a=b)),[]):=by
 refine am (F:=nk) rfl rfl rfl ?_ (.inr rfl);generalize aj aG m=C;generalize aY aG=V;simp only[nk,ql];refine nx (by simp only[wa];rfl) ?_;by_cases hl:a.length=b.length
 ·refine nx (by simp only[wa,↓reduceIte,Env.ofArgs_at,TS,cE,Fk,hl,Uz,Uy];rfl) ?_;rw[mM];refine nx (by simp only[wa,↓reduceIte];rfl) ?_;refine rf (n:=a.length) (by omega) (λk=>decide (a[k]?=b[k]?)) (.bool false) (λ_ e=>e 0=eI a/\e 1=eI b) (a=b) (λk e v h=>by simpa using h) (λk e hk h hv=>pz (by simp only[X.ev,hv,h.1,cE,ac,bin,bA]))
   (λk e hk h hv=>by
    obtain⟨x,hx,_⟩:=aN hk;obtain⟨y,hy,_⟩:=aN (l:=b) (k:=k) (by omega);by_cases hxy:x=y
    ·refine⟨_,by simp only[wa,↓reduceIte,h.1,h.2,hv,eP hx,eP hy,IJ,hxy,Uz,Uy];rfl,?_⟩;simp[hx,hy,hxy,h.1,h.2,hv]
    ·refine⟨_,by simp only[wa,↓reduceIte,h.1,h.2,hv,eP hx,eP hy,IJ,hxy,Vb,UQ];rfl,?_⟩;simp[hx,hy,hxy])
   (FH hl) (λhab e _=>by simp only[wa,↓reduceIte,hab,Uz]) (λhab=>by simp[hab]) ⟨by simp[Env.ofArgs_at],by simp[Env.ofArgs_at]⟩ (by simp)
 ·have hab:a≠b:=λh=>hl (by rw[h]);refine ah ?_;simp only[wa,↓reduceIte,Env.ofArgs_at,TS,cE,Fk,hl,hab,Vb,UQ]
theorem H5(x y:SNote):decide (x=y)=(decide (x.to=y.to)&&(decide (x.handler=y.handler)&&decide (x.args=y.args))):=by
 cases x;cases y;simp only[SNote.mk.injEq,Bool.decide_and]
theorem u6{m:Nat}(x y:SNote)(hx:x.args.length<1000000000):aj aG (m+2) 80 [eK x,eK y]=some (.bool (decide (x=y)),[]):=by
 refine am (F:=iD) rfl rfl rfl ?_ (.inr rfl);have h:=FU (m:=m) x.args y.args hx;generalize aj aG (m+1)=C at*;generalize aY aG=V;rw[H5];simp only[eK,iD];by_cases h1:x.to=y.to
 ·by_cases h2:x.handler=y.handler
  ·simp only[wa,↓reduceIte,Nat.reduceEqDiff,Nat.reduceAdd,Tz,Env.ofArgs_at,TS,I3,h1,h2,h,Uz]
  ·simp only[wa,↓reduceIte,Nat.reduceEqDiff,Nat.reduceAdd,Tz,Env.ofArgs_at,TS,I3,h1,h2,Uz,Vb,ff]
 ·simp only[wa,↓reduceIte,Nat.reduceEqDiff,Nat.reduceAdd,Tz,Env.ofArgs_at,TS,I3,h1,Vb,ff]
theorem Au(x y:aV):decide (x=y)=(decide (x.id=y.id)&&decide (x.note=y.note)):=by
 cases x;cases y;simp only[aV.mk.injEq,Bool.decide_and]
theorem tf:(true==false)=false:=rfl
theorem tt:(false==false)=true:=rfl
theorem Mg(x y:SID):rD true [false,false,false] (.agg [.int .i64 x.frm,.int .i64 x.n,.int .i64 x.copy]) (.agg [.int .i64 y.frm,.int .i64 y.n,.int .i64 y.copy])=some (.bool (!decide (x=y))):=by
 have:decide (x=y)=(decide (x.frm=y.frm)&&(decide (x.n=y.n)&&decide (x.copy=y.copy))):=by
  cases x;cases y;simp only[SID.mk.injEq,Bool.decide_and]
 rw[this];have h:∀a b:Int,(a==b)=decide (a=b):=λa b=>by by_cases h:a=b<;>simp[h]
 simp[rD,aQ,h]
theorem KM{m:Nat}(a b:List aV)(ha:xj a):aj aG (m+3) 36 [aJ a,aJ b]=some (.bool (decide (a=b)),[]):=by
 refine am (F:=iz) rfl rfl rfl ?_ (.inr rfl);have ho:=λx(hx:x∈a)(y:aV)=>u6 (m:=m) x.note y.note (ha.2 x hx);generalize aj aG (m+2)=C at*;generalize aY aG=V;have la:bO (aJ a)=some (.int .i64 a.length):=jG;have lb:bO (aJ b)=some (.int .i64 b.length):=jG;have ha0:=ha.1;simp only[iz,mg];refine nx (by simp only[wa];rfl) ?_;by_cases hl:a.length=b.length
 ·refine nx (by simp only[wa,↓reduceIte,Env.ofArgs_at,TS,la,lb,Fk,hl,Uz,Uy];rfl) ?_;rw[mM];refine nx (by simp only[wa,↓reduceIte];rfl) ?_;refine rf (n:=a.length) (by omega) (λk=>decide (a[k]?=b[k]?)) (.bool false) (λ_ e=>e 0=aJ a/\e 1=aJ b) (a=b) (λk e v h=>by simpa using h) (λk e hk h hv=>pz (by simp only[X.ev,hv,h.1,la,ac,bin,bA]))
   (λk e hk ⟨h1,h2⟩ hv=>by
    obtain⟨x,hx,hm⟩:=aN hk;obtain⟨y,hy,_⟩:=aN (l:=b) (k:=k) (by omega);have hc:=ho x hm y;have ix:=dR hx;have iy:=dR hy;have he:=Mg x.id y.id;simp only[eK]at hc;simp only[co]at ix iy;cases hd:decide (x.id=y.id)with
    | true=>
     rw[hd]at he;cases hd2:decide (x.note=y.note)with
     | true=>
      rw[hd2]at hc;have hxy:x=y:=by
       have:=Au x y;rw[hd,hd2]at this;exact UE this
      refine⟨_,by simp only[wa,↓reduceIte,Nat.reduceEqDiff,reduceCtorEq,Nat.reduceAdd,Nat.reduceLeDiff,Tz,h1,h2,hv,ix,iy,he,Uy,hc,un];rfl,?_⟩;simp[hx,hy,hxy,h1,h2,hv]
     | false=>
      rw[hd2]at hc;have hxy:x≠y:=by
       have:=Au x y;rw[hd,hd2]at this;exact of_decide_eq_false this
      refine⟨_,by simp only[wa,↓reduceIte,Nat.reduceEqDiff,reduceCtorEq,Nat.reduceAdd,Nat.reduceLeDiff,Tz,h1,h2,hv,ix,iy,he,Uy,UQ,hc,un];rfl,?_⟩;simp[hx,hy,hxy]
    | false=>
     rw[hd]at he;have hxy:x≠y:=by
      have:=Au x y;rw[hd]at this;exact of_decide_eq_false (by rw[this];rfl)
     refine⟨_,by simp only[wa,↓reduceIte,Nat.reduceEqDiff,reduceCtorEq,Nat.reduceAdd,Nat.reduceLeDiff,Tz,h1,h2,hv,ix,iy,he,UQ,tf];rfl,?_⟩;simp[hx,hy,hxy])
   (FH hl) (λhab e _=>by simp only[wa,↓reduceIte,hab,Uz]) (λhab=>by simp[hab]) ⟨by simp[Env.ofArgs_at],by simp[Env.ofArgs_at]⟩ (by simp)
 ·have hab:a≠b:=λh=>hl (by rw[h]);refine ah ?_;simp only[wa,↓reduceIte,Env.ofArgs_at,TS,la,lb,Fk,hl,hab,Vb,UQ]
theorem Jm(l:List Int):aP (eI l)=eI l:=by
 have:∀l:List Int,aF (l.map λn=>PV.int .i64 n)=l.map λn=>PV.int .i64 n:=by
  intro l;induction l with
  |nil=>rfl
  |cons x l ih=>simp only[TW,aF,aP,ih]
 simp only[eI,aP,this]
theorem F4:∀l:List aV,aF (l.map dk)=l.map dk
 |[]=>rfl
 |x::l=>by
  have h:=Jm x.note.args;simp only[TW,aF,F4 l,dk,co,aP,h]
theorem Iy(l:List aV):aP (.lst (l.map dk) false)=aJ l:=by simp only[aP,F4,aJ]
theorem Df(l:List aV):mo (l.map dk) 6=true:=by cases l<;>rfl
theorem qB{l:List aV}{k:Nat}(h:k<=l.length):cj 6 (aJ l) (.tup []) (.int .i64 (k:Nat)) (.tup [])=some (aJ (l.take k)):=by
 rw[<-Iy (l.take k)];simp[aJ,cj,kk,cF,aO,mL,Df,h,List.map_take]
theorem qf{l:List aV}{k:Nat}(h:k<=l.length):cj 6 (aJ l) (.int .i64 (k:Nat)) (.tup []) (.tup [])=some (aJ (l.drop k)):=by
 rw[<-Iy (l.drop k)];simp[aJ,cj,kk,cF,aO,mL,Df,h,List.map_drop];rw[UB (by simp)]
theorem Qs{m:Nat}(l:List aV)(hl:l.length<1000000000){k:Nat}(hk:k<=l.length)(x:aV):aj aG (m+1) 76 [aJ l,.int .i64 (k:Nat),aJ [x]]=some (aJ (l.take k++[x]++l.drop k),[]):=by
 refine am (F:=Ci) rfl rfl rfl ?_ (.inl rfl);generalize aj aG m=C;generalize aY aG=V;have h1:=qB hk;have h2:=qf hk;have h3:=nG (a:=l.take k) (b:=[x]) (by simp;omega);have h4:=nG (a:=l.take k++[x]) (b:=l.drop k) (by simp;omega);have hp:(IP (aJ [x])).isSome=true:=rfl;have hb:(aI .eql .i64 (k:Nat) .i64 0).isSome=true:=rfl;simp only[Ci];simp only[wa,↓reduceIte,Env.ofArgs_at,TS,h1,h2,h3,h4,hp,hb,Ub]
def vt(l:List aV)(m:aV):Nat:=match l.findIdx? (λx=> !fh x.id m.id)with|some k=>k|none=>l.length
theorem Az(l:List aV)(m:aV):vt l m<=l.length:=by
 unfold vt;split
 ·rename_i k hk;rw[U0]at hk;obtain⟨h,_⟩:=hk;omega
 ·exact TN _
def Dt(l:List aV)(m:aV):List aV:=l.take (vt l m)++[m]++l.drop (vt l m)
def A4(l:List aV)(m:aV):PV:=if bR l m.id<0 then .tup [aJ (Dt l m),.int .i64 0]else .tup [aJ [],.int .i64 1]
theorem Hp(x:Int):aI .geq .i64 x .i64 0=some (.bool (!decide (x<0))):=by
 simp only[aI,ne_eq,UJ,TU];by_cases h:x<0
 ·simp[h]
 ·simp[h];omega
theorem Qm{m:Nat}(l:List aV)(hl:xj l)(x:aV)(hx:x.note.args.length<1000000000):aj aG (m+7) 32 [aJ l,dk x]=some (A4 l x,[]):=by
 refine am (F:=pc) rfl rfl rfl ?_ (.inl rfl);have hl0:=hl.1;have hf:=A6 (m:=m+3) l hl0 x.id;have hi:=EJ (m:=m+5) (fn:=74) (caps:=[.lptr (co x)]) (p:=λy=> !fh y.id x.id) l hl0 (λy _=>Ob y x) (λy _=>rfl);have hc:=JY (m:=m+2) l hl;have ho:=Mf (m:=m+3) x hx;have hn:=Qs (m:=m+5) l hl0 (Az l x) x;have ll:bO (aJ l)=some (.int .i64 l.length):=jG;generalize aj aG (m+6)=C at*;generalize aY aG=V;have hm:NM 74 (.tup [.lptr [.int .i64 x.id.frm,.int .i64 x.id.n,.int .i64 x.id.copy,.int .i64 x.note.to,.int .i64 x.note.handler,eI x.note.args]])=some (.fn 74 [.lptr [.int .i64 x.id.frm,.int .i64 x.id.n,.int .i64 x.id.copy,.int .i64 x.note.to,.int .i64 x.note.handler,eI x.note.args]]):=rfl;simp only[ug,wl]at hf;simp only[co]at hi;simp only[dk,co]at ho;have hn':C 76 [aJ l,.int .i64 (vt l x:Nat),.lst [.agg [.int .i64 x.id.frm,.int .i64 x.id.n,.int .i64 x.id.copy,.int .i64 x.note.to,.int .i64 x.note.handler,eI x.note.args]] false]=some (aJ (Dt l x),[]):=hn;have e0:aJ []=.lst [] false:=rfl;simp only[A4,dk,co,pc];by_cases h0:bR l x.id<0
 ·have g0:aI .geq .i64 (bR l x.id) .i64 0=some (.bool false):=by rw[Hp];simp[h0]
  rw[TB h0];cases hq:l.findIdx? (λy=> !fh y.id x.id)with
  |some k=>
   have e1:fM (λy:aV=> !fh y.id x.id) l=(k:Int):=by simp[fM,hq]
   have e2:vt l x=k:=by simp[vt,hq]
   rw[e1]at hi;rw[e2]at hn';have g1:aI .lss .i64 (k:Int) .i64 0=some (.bool false):=by rw[rM,TP (by omega)]
   simp only[wa,↓reduceIte,Nat.reduceEqDiff,reduceCtorEq,Nat.reduceAdd,Tz,Env.ofArgs_at,TS,hf,g0,hm,hi,g1,hc,ho,hn']
  |none=>
   have e1:fM (λy:aV=> !fh y.id x.id) l= -1:=by simp[fM,hq]
   have e2:vt l x=l.length:=by simp[vt,hq]
   rw[e1]at hi;rw[e2]at hn';have g1:aI .lss .i64 (-1) .i64 0=some (.bool true):=rfl;simp only[wa,↓reduceIte,Nat.reduceEqDiff,reduceCtorEq,Nat.reduceAdd,Tz,Env.ofArgs_at,TS,hf,g0,hm,hi,g1,ll,hc,ho,hn']
 ·have g0:aI .geq .i64 (bR l x.id) .i64 0=some (.bool true):=by rw[Hp];simp[h0]
  rw[TF h0,e0];simp only[wa,↓reduceIte,Nat.reduceEqDiff,reduceCtorEq,Nat.reduceAdd,Tz,Env.ofArgs_at,TS,hf,g0]
def zM:aV:=⟨⟨0,0,0⟩,⟨0,0,[]⟩⟩
def wx(l:List aV)(i:SID)(ok no:PV):PV:=match l.findIdx? (λx=>decide (x.id=i))with
 |some k=>match l[k]? with
  |some x=>.tup [aJ (l.take k++l.drop (k+1)),dk x,ok]
  |none=>.junk
 |none=>.tup [aJ [],dk zM,no]
theorem KG{m:Nat}(l:List aV)(hl:xj l)(i:SID):aj aG (m+2) 35 [aJ l,ug i]=some (wx l i (.bool true) (.bool false),[]):=by
 refine am (F:=nA) rfl rfl rfl ?_ (.inl rfl);have hl0:=hl.1;have hf:=tZ (m:=m) l hl0 i;generalize aj aG (m+1)=C at*;generalize aY aG=V;simp only[ug,wl]at hf;have e0:aJ []=.lst [] false:=rfl;have ez:eI []=.lst [] false:=rfl;simp only[wx,nA,ug,wl];cases hq:l.findIdx? (λx=>decide (x.id=i))with
 |some k=>
  have e1:bR l i=(k:Int):=by simp[bR,fM,hq]
  rw[e1]at hf;rw[U0]at hq;obtain⟨hk,_⟩:=hq;obtain⟨x,hx,hm⟩:=aN hk;have ix:=dR hx;have ha:=bT (k:=k) (by omega);have s1:=qB (l:=l) (k:=k) (by omega);have s2:=qf (l:=l) (k:=k+1) (by omega);have a1:=nG (a:=[]) (b:=l.take k) (by simp;omega);have a2:=nG (a:=l.take k) (b:=l.drop (k+1)) (by simp;omega);have g1:aI .lss .i64 (k:Int) .i64 0=some (.bool false):=by rw[rM,TP (by omega)]
  simp only[co]at ix;simp only[hx];simp only[e0,TL]at a1;simp only[dk,co];simp only[wa,↓reduceIte,Nat.reduceEqDiff,reduceCtorEq,Nat.reduceAdd,Tz,Env.ofArgs_at,TS,hf,g1,ha,s1,s2,a1,a2,ix]
 |none=>
  have e1:bR l i= -1:=by simp[bR,fM,hq]
  rw[e1]at hf;have g1:aI .lss .i64 (-1) .i64 0=some (.bool true):=rfl;simp only[dk,co,zM,e0,ez];simp only[wa,↓reduceIte,Nat.reduceEqDiff,reduceCtorEq,Nat.reduceAdd,Tz,Env.ofArgs_at,TS,hf,g1]
theorem mB{C:b6}{V:Nat->List PV->List PV->Bool}{HD BD:VC}{b n:Nat}(hn:n<1099511627775)(St:Nat->Env->Prop)(Q:Env->Prop)
  (hgo:∀k env,k<n->St k env->∃e1 e2,aL C V HD env=some (.norm e1)/\aL C V BD e1=some (.norm e2)/\St (k+1) e2)
  (hend:∀env,St n env->∃e,aL C V HD env=some (.exit b e)/\Q e){env:Env}(h0:St 0 env):
  ∃e,aL C V (.block b (.loop (.seq HD BD))) env=some (.norm e)/\Q e:=by
 have key:∀(d k j:Nat)(env:Env),k+d=n->St k env->∃e,eR (aL C V (.seq HD BD)) (d+1+j) env=some (.exit b e)/\Q e:=by
  intro d;induction d with
  |zero=>
   intro k j env hk hs;obtain rfl:k=n:=by omega
   obtain⟨e,h1,h2⟩:=hend env hs;refine⟨e,?_,h2⟩;rw[show 0+1+j=j+1 by omega];simp only[eR,aL,h1]
  |succ d ih=>
   intro k j env hk hs;obtain⟨e1,e2,h1,h2,h3⟩:=hgo k env (by omega) hs;obtain⟨e,h4,h5⟩:=ih (k+1) j e2 (by omega) h3;refine⟨e,?_,h5⟩;rw[show d+1+1+j=(d+1+j)+1 by omega];simp only[eR,aL,h1,h2];exact h4
 obtain⟨e,h1,h2⟩:=key n 0 (1099511627775-n) env (by omega) h0;refine⟨e,iS ?_,h2⟩;simp only[aL];rw[show n+1+(1099511627775-n)=DZ by rw[wm];omega]at h1;exact h1
theorem Mz{l:List aV}{m:aV}{k:Nat}(h:k<vt l m):∃x,l[k]?=some x/\fh x.id m.id=true:=by
 have hk:k<l.length:=by have:=Az l m;omega
 refine⟨l[k],TD hk,?_⟩;unfold vt at h;split at h
 ·rename_i j hj;rw[U0]at hj;have:=hj.2.2 k h;simpa using this
 ·rename_i hq;rw[List.findIdx?_eq_none_iff]at hq;have:=hq l[k] (List.getElem_mem hk);simpa using this
theorem ML{l:List aV}{m x:aV}(h:l[vt l m]?=some x):fh x.id m.id=false:=by
 cases hq:l.findIdx? (λy=> !fh y.id m.id)with
 |some j=>
  have e:vt l m=j:=by simp[vt,hq]
  rw[U0]at hq;obtain⟨h1,h2,_⟩:=hq;rw[e,TD h1]at h;cases h;simpa using h2
 |none=>
  have e:vt l m=l.length:=by simp[vt,hq]
  rw[e,TO (TN _)]at h;cases h
def wj(l:List aV)(m:aV):PV:=if bR l m.id<0 then .tup [aJ (Dt l m),.bool true]else .tup [aJ [],.bool false]
theorem NS{m:Nat}(l:List aV)(hl:l.length<1000000000)(x:aV):aj aG (m+2) 33 [aJ l,dk x]=some (wj l x,[]):=by
 refine am (F:=ph) rfl rfl rfl ?_ (.inl rfl);have hf:=tZ (m:=m) l hl x.id;have hle:=λy:aV=>FI (m:=m) y.id x.id;have ll:bO (aJ l)=some (.int .i64 l.length):=jG;have hat:=Az l x;have e0:aJ []=.lst [] false:=rfl;have s1:=qB hat;have s2:=qf hat;have a1:=nG (a:=[]) (b:=l.take (vt l x)) (by simp;omega);have a2:=nG (a:=l.take (vt l x)) (b:=[x]) (by simp;omega);have a3:=nG (a:=l.take (vt l x)++[x]) (b:=l.drop (vt l x)) (by simp;omega);have ex:aJ [x]=.lst [.agg [.int .i64 x.id.frm,.int .i64 x.id.n,.int .i64 x.id.copy,.int .i64 x.note.to,.int .i64 x.note.handler,eI x.note.args]] false:=rfl;generalize aj aG (m+1)=C at*;generalize aY aG=V;simp only[ug,wl]at hf hle;simp only[e0,TL]at a1;rw[ex]at a2;simp only[wj,ph,rN];by_cases h0:bR l x.id<0
 ·have g0:aI .geq .i64 (bR l x.id) .i64 0=some (.bool false):=by rw[Hp];simp[h0]
  rw[TB h0];simp only[dk,co];refine nx (by simp only[wa,↓reduceIte,Nat.reduceAdd,Tz,Env.ofArgs_at,TS];rfl) ?_;refine nx (by simp only[wa,↓reduceIte,reduceCtorEq,Env.ofArgs_at,TS,hf,g0];rfl) ?_;refine nx (by simp only[wa,↓reduceIte];rfl) ?_;refine oE (mB (n:=vt l x) (by omega) (λk e=>e 0=aJ l/\e 3=.lptr (co x)/\e 6=.int .i64 (k:Nat)) (λe=>e 0=aJ l/\e 3=.lptr (co x)/\e 6=.int .i64 (vt l x:Nat)) (λk e hk ⟨h1,h2,h3⟩=>?_) (λe ⟨h1,h2,h3⟩=>?_) ⟨by simp[Env.ofArgs_at],by simp[co],by simp⟩) (λe ⟨h1,h2,h3⟩=>?_)
  ·obtain⟨y,hy,hly⟩:=Mz hk;have iy:=dR hy;have hc:=hle y;rw[hly]at hc;have hb:aI .lss .i64 (k:Int) .i64 (l.length:Int)=some (.bool true):=by rw[bA,T3 (by omega)]
   have ha:=bT (k:=k) (by omega);simp only[co]at iy h2;refine⟨_,_,by simp only[wa,↓reduceIte,Nat.reduceEqDiff,reduceCtorEq,Nat.reduceAdd,Nat.reduceLeDiff,Tz,h1,h2,h3,ll,hb,iy,hc];rfl,by simp only[wa,↓reduceIte,Nat.reduceEqDiff,h3,ha];rfl,?_⟩;simp[h1,h2,co]
  ·simp only[co]at h2;by_cases hq:vt l x<l.length
   ·obtain⟨y,hy,_⟩:=aN hq;have iy:=dR hy;have hc:=hle y;rw[ML hy]at hc;have hb:aI .lss .i64 (vt l x:Int) .i64 (l.length:Int)=some (.bool true):=by rw[bA,T3 hq]
    simp only[co]at iy;refine⟨_,by simp only[wa,↓reduceIte,Nat.reduceEqDiff,reduceCtorEq,Nat.reduceAdd,Nat.reduceLeDiff,Tz,h1,h2,h3,ll,hb,iy,hc];rfl,?_⟩;simp[h1,h2,h3,co]
   ·have hb:aI .lss .i64 (vt l x:Int) .i64 (l.length:Int)=some (.bool false):=by rw[bA,TP hq]
    refine⟨_,by simp only[wa,↓reduceIte,Nat.reduceEqDiff,reduceCtorEq,h1,h3,ll,hb,ff];rfl,?_⟩;simp[h1,h2,h3,co]
  ·simp only[co]at h2;simp only[wa,↓reduceIte,Nat.reduceEqDiff,Nat.reduceAdd,Tz,h1,h2,h3,s1,s2,a1,a2,a3];rfl
 ·have g0:aI .geq .i64 (bR l x.id) .i64 0=some (.bool true):=by rw[Hp];simp[h0]
  rw[TF h0,e0];simp only[dk,co];simp only[wa,↓reduceIte,Nat.reduceEqDiff,reduceCtorEq,Nat.reduceAdd,Tz,Env.ofArgs_at,TS,hf,g0]
theorem Jc{C:b6}{V:Nat->List PV->List PV->Bool}{HD BD:VC}{b n k0:Nat}(hn:n<1099511627775)(hk0:k0<=n)(p:Nat->Bool)(R:PV)(St:Nat->Env->Prop)(Q:Env->Prop)
  (hgo:∀k env,k0<=k->k<n->p k=true->St k env->∃e1 e2,aL C V HD env=some (.norm e1)/\aL C V BD e1=some (.norm e2)/\St (k+1) e2)
  (hret:∀k env,k0<=k->k<n->p k=false->St k env->∃e1,aL C V HD env=some (.norm e1)/\aL C V BD e1=some (.ret R []))
  (hend:∀env,St n env->∃e,aL C V HD env=some (.exit b e)/\Q e){env:Env}(h0:St k0 env):
  ((∀k,k0<=k->k<n->p k=true)/\∃e,aL C V (.block b (.loop (.seq HD BD))) env=some (.norm e)/\Q e)∨((∃k,k0<=k/\k<n/\p k=false)/\aL C V (.block b (.loop (.seq HD BD))) env=some (.ret R [])):=by
 have key:∀(d k j:Nat)(env:Env),k+d=n->k0<=k->St k env->((∀i,k<=i->i<n->p i=true)/\∃e,eR (aL C V (.seq HD BD)) (d+1+j) env=some (.exit b e)/\Q e)∨((∃i,k<=i/\i<n/\p i=false)/\eR (aL C V (.seq HD BD)) (d+1+j) env=some (.ret R [])):=by
  intro d;induction d with
  |zero=>
   intro k j env hk hkk hs;obtain rfl:k=n:=by omega
   obtain⟨e,h1,h2⟩:=hend env hs;refine .inl ⟨λi hi hi'=>by omega,e,?_,h2⟩;rw[show 0+1+j=j+1 by omega];simp only[eR,aL,h1]
  | succ d ih=>
   intro k j env hk hkk hs;rw[show d+1+1+j=(d+1+j)+1 by omega];cases hp:p k with
   | true=>
    obtain⟨e1,e2,h1,h2,h3⟩:=hgo k env hkk (by omega) hp hs;rcases ih (k+1) j e2 (by omega) (by omega) h3 with⟨a,e,h4,h5⟩|⟨⟨i,a1,a2,a3⟩,h4⟩
    ·refine .inl ⟨λi hi hi'=>?_,e,?_,h5⟩
     ·rcases T5 k i with h|h
      ·exact a i (by omega) hi'
      ·obtain rfl:i=k:=by omega
       exact hp
     ·simp only[eR,aL,h1,h2];exact h4
    ·refine .inr ⟨⟨i,by omega,a2,a3⟩,?_⟩;simp only[eR,aL,h1,h2];exact h4
   |false=>
    obtain⟨e1,h1,h2⟩:=hret k env hkk (by omega) hp hs;refine .inr ⟨⟨k,TN _,by omega,hp⟩,?_⟩;simp only[eR,aL,h1,h2]
 have hb:n-k0+1+(1099511627775-(n-k0))=DZ:=by rw[wm];omega
 rcases key (n-k0) k0 (1099511627775-(n-k0)) env (by omega) (TN _) h0 with⟨a,e,h1,h2⟩|⟨a,h1⟩
 ·refine .inl ⟨a,e,iS ?_,h2⟩;rw[hb]at h1;simp only[aL];exact h1
 ·refine .inr ⟨a,bt ?_⟩;rw[hb]at h1;simp only[aL];exact h1
theorem rb{C:b6}{V:Nat->List PV->List PV->Bool}{HD BD K:VC}{b n k0:Nat}{X0:Option vg}(hn:n<1099511627775)(hk0:k0<=n)(p:Nat->Bool)(R:PV)(St:Nat->Env->Prop)(Q:Env->Prop)
  (hgo:∀k env,k0<=k->k<n->p k=true->St k env->∃e1 e2,aL C V HD env=some (.norm e1)/\aL C V BD e1=some (.norm e2)/\St (k+1) e2)
  (hret:∀k env,k0<=k->k<n->p k=false->St k env->∃e1,aL C V HD env=some (.norm e1)/\aL C V BD e1=some (.ret R []))
  (hend:∀env,St n env->∃e,aL C V HD env=some (.exit b e)/\Q e)
  (hk:(∀k,k0<=k->k<n->p k=true)->∀e,Q e->aL C V K e=X0)(hr:∀k,k0<=k->k<n->p k=false->X0=some (.ret R [])){env:Env}(h0:St k0 env):
  aL C V (.seq (.block b (.loop (.seq HD BD))) K) env=X0:=by
 rcases Jc (C:=C) (V:=V) hn hk0 p R St Q hgo hret hend h0 with⟨a,e,h1,h2⟩|⟨⟨k,a1,a2,a3⟩,h1⟩
 ·exact nx h1 (hk a e h2)
 ·rw[ah h1,hr k a1 a2 a3]
def qn(l:List aV)(k:Nat):Bool:=match l[k]?,l[k+1]? with|some x,some y=>fh x.id y.id|_,_=>true
def nc(l:List aV):Bool:=decide (∀k,k<l.length->qn l k=true)
theorem wB{k:Nat}(h0:1<=k)(h:k<4611686018427387903):aI .sub .i64 (k:Int) .i64 1=some (.int .i64 ((k-1:Nat):Int)):=by
 have e:IntKind.i64.wrap ((k:Int)-1)=((k-1:Nat):Int):=(uB (by omega) (by omega)).trans (by omega);simp only[aI,ne_eq,UJ,TU,e]
theorem tH{l:List aV}{k:Nat}(h0:1<=k)(hk:k<l.length):∃x y,l[k-1]?=some x/\l[k]?=some y/\qn l (k-1)=fh x.id y.id:=by
 have h1:k-1<l.length:=by omega
 refine⟨l[k-1],l[k],TD h1,TD hk,?_⟩;unfold qn;rw[show k-1+1=k by omega,TD h1,TD hk]
theorem xt{l:List aV}{n:Nat}(hn:l.length<=n)(h:∀k,1<=k->k<n->qn l (k-1)=true):nc l=true:=T3 λk hk=>by
 by_cases hk1:k+1<l.length
 ·have:=h (k+1) (by omega) (by omega);simpa using this
 ·have:l[k+1]?=none:=TO (by omega);unfold qn;rw[this];cases l[k]?<;>rfl
theorem zI{l:List aV}{k:Nat}(h0:1<=k)(hk:k<l.length)(h:qn l (k-1)=false):nc l=false:=TP λh'=>by
 have:=h' (k-1) (by omega);rw[this]at h;cases h
theorem Ha{m:Nat}(l:List aV)(hl:l.length<1000000000):aj aG (m+2) 38 [aJ l]=some (.bool (nc l),[]):=by
 refine am (F:=jX) rfl rfl rfl ?_ (.inr rfl);have hle:=λx y:aV=>FI (m:=m) x.id y.id;generalize aj aG (m+1)=C at*;generalize aY aG=V;have ll:bO (aJ l)=some (.int .i64 l.length):=jG;simp only[ug,wl]at hle;simp only[jX,oa];refine nx (by simp only[wa];rfl) ?_;rw[mM];refine nx (by simp only[wa,↓reduceIte];rfl) ?_;refine rb (n:=max l.length 1) (k0:=1) (by omega) (by omega) (λk=>qn l (k-1)) (.bool false) (λk e=>e 0=aJ l/\e 3=.int .i64 (k:Nat)) (λ_=>True)
  (λk e hk hkn hp ⟨h1,h2⟩=>?_) (λk e hk hkn hp ⟨h1,h2⟩=>?_) (λe ⟨h1,h2⟩=>?_) (λa e _=>?_) (λk a1 a2 a3=>?_) ⟨by simp[Env.ofArgs_at],by simp⟩
 ·obtain⟨x,y,hx,hy,hr⟩:=tH hk (show k<l.length by omega);rw[hr]at hp;have ix:=dR hx;have iy:=dR hy;have hc:=hle x y;rw[hp]at hc;have hb:aI .lss .i64 (k:Int) .i64 (l.length:Int)=some (.bool true):=by rw[bA,T3 (by omega)]
  have hs:=wB hk (by omega);have ha:=bT (k:=k) (by omega);simp only[co]at ix iy;refine⟨_,_,by simp only[wa,↓reduceIte,h1,h2,ll,hb];rfl,by simp only[wa,↓reduceIte,Nat.reduceEqDiff,Nat.reduceAdd,Nat.reduceLeDiff,Tz,h1,h2,hs,ix,iy,hc,un,Uy,ha];rfl,?_⟩;simp[h1]
 ·obtain⟨x,y,hx,hy,hr⟩:=tH hk (show k<l.length by omega);rw[hr]at hp;have ix:=dR hx;have iy:=dR hy;have hc:=hle x y;rw[hp]at hc;have hb:aI .lss .i64 (k:Int) .i64 (l.length:Int)=some (.bool true):=by rw[bA,T3 (by omega)]
  have hs:=wB hk (by omega);simp only[co]at ix iy;exact⟨_,by simp only[wa,↓reduceIte,h1,h2,ll,hb];rfl,by simp only[wa,↓reduceIte,Nat.reduceAdd,Nat.reduceLeDiff,Tz,h1,h2,hs,ix,iy,hc,un,UQ]⟩
 ·have hb:aI .lss .i64 (max l.length 1:Nat) .i64 (l.length:Int)=some (.bool false):=by rw[bA,TP (by omega)]
  exact⟨_,by simp only[wa,↓reduceIte,h1,h2,ll,hb];rfl,trivial⟩
 ·rw[xt (by omega) a];simp only[wa,↓reduceIte]
 ·rw[zI a1 (by omega) a3]
theorem BV{C:b6}{V:Nat->List PV->List PV->Bool}{c:X}{BODY K:VC}{vi b n k0:Nat}{X0:Option vg}(hn:n<1099511627775)(hk0:k0<=n)(p:Nat->Bool)(R:PV)(St:Nat->Env->Prop)(Q:Env->Prop)
  (hgo:∀k env,k0<=k->k<n->p k=true->St k env->∃e1 e2,aL C V (IE c b) env=some (.norm e1)/\aL C V (.seq BODY (uF vi)) e1=some (.norm e2)/\St (k+1) e2)
  (hret:∀k env,k0<=k->k<n->p k=false->St k env->∃e1,aL C V (IE c b) env=some (.norm e1)/\aL C V (.seq BODY (uF vi)) e1=some (.ret R []))
  (hend:∀env,St n env->∃e,aL C V (IE c b) env=some (.exit b e)/\Q e)
  (hk:(∀k,k0<=k->k<n->p k=true)->∀e,Q e->aL C V K e=X0)(hr:∀k,k0<=k->k<n->p k=false->X0=some (.ret R [])){env:Env}(h0:St k0 env):
  aL C V (.seq (.block b (.loop (.seq (.st [.asg [c] []]) (.seq (.cond c .skip (.exit b)) (.seq BODY (uF vi)))))) K) env=X0:=by
 have:=rb (C:=C) (V:=V) (K:=K) hn hk0 p R St Q hgo hret hend hk hr h0;rw[<-this,aL.eq_def,aL.eq_def C V (.seq _ K)];simp only;rw[Kt]
theorem JJ{m:Nat}(l:List aV)(hl:l.length<1000000000):aj aG (m+5) 37 [aJ l]=some (.bool (nc l),[]):=by
 refine am (F:=jU) rfl rfl rfl ?_ (.inr rfl);have hle:=λx y:aV=>JS (m:=m) x.id y.id;generalize aj aG (m+4)=C at*;generalize aY aG=V;have ll:bO (aJ l)=some (.int .i64 l.length):=jG;simp only[ug,wl]at hle;simp only[jU,n6];refine nx (by simp only[wa];rfl) ?_;rw[mM];refine nx (by simp only[wa,↓reduceIte,Env.ofArgs_at,TS,ll];rfl) ?_;have g0:aI .gtr .i64 ((0:Nat):Int) .i64 0=some (.bool false):=rfl;have g1:∀k:Nat,1<=k->aI .gtr .i64 (k:Int) .i64 0=some (.bool true):=λk hk=>by simp[aI];omega
 have a0:=bT (k:=0) (by omega);refine BV (n:=l.length) (k0:=0) (by omega) (by omega) (λk=>decide (k=0)||qn l (k-1)) (.bool false) (λk e=>e 0=aJ l/\e 5=.int .i64 l.length/\e 6=.int .i64 (k:Nat)) (λ_=>True)
  (λk e hk hkn hp ⟨h1,h2,h3⟩=>?_) (λk e hk hkn hp ⟨h1,h2,h3⟩=>?_) (λe ⟨h1,h2,h3⟩=>?_) (λa e _=>?_) (λk a1 a2 a3=>?_) ⟨by simp[Env.ofArgs_at],by simp,by simp⟩
 ·have hb:aI .lss .i64 (k:Int) .i64 (l.length:Int)=some (.bool true):=by rw[bA,T3 (by omega)]
  by_cases hk0:k=0
  ·subst hk0;refine⟨_,_,pz (n:=l.length) (k:=0) (by simp only[X.ev,h3,h2,ac,bin,bA])|>.trans (by rw[TB hkn]),by simp only[wa,↓reduceIte,Nat.reduceEqDiff,reduceCtorEq,Nat.reduceAdd,h1,h3,g0,ff,a0];rfl,?_⟩;simp[h1,h2]
  ·simp only[TP hk0,US]at hp;obtain⟨x,y,hx,hy,hr⟩:=tH (show 1<=k by omega) hkn;rw[hr]at hp;have ix:=dR hx;have iy:=dR hy;have hc:=hle x y;rw[hp]at hc;have hs:=wB (show 1<=k by omega) (by omega);have ha:=bT (k:=k) (by omega);have hg:=g1 k (by omega);simp only[co]at ix iy;refine⟨_,_,pz (n:=l.length) (k:=k) (by simp only[X.ev,h3,h2,ac,bin,bA])|>.trans (by rw[TB hkn]),by simp only[wa,↓reduceIte,Nat.reduceEqDiff,reduceCtorEq,Nat.reduceAdd,Nat.reduceLeDiff,Tz,h1,h3,hg,hs,ix,iy,hc,un,Uy,ha];rfl,?_⟩;simp[h1,h2]
 ·have hk0:k≠0:=λh=>by simp[h]at hp
  simp only[TP hk0,US]at hp;obtain⟨x,y,hx,hy,hr⟩:=tH (show 1<=k by omega) hkn;rw[hr]at hp;have ix:=dR hx;have iy:=dR hy;have hc:=hle x y;rw[hp]at hc;have hs:=wB (show 1<=k by omega) (by omega);have hg:=g1 k (by omega);simp only[co]at ix iy;exact⟨_,pz (n:=l.length) (k:=k) (by simp only[X.ev,h3,h2,ac,bin,bA])|>.trans (by rw[TB hkn]),by simp only[wa,↓reduceIte,Nat.reduceEqDiff,reduceCtorEq,Nat.reduceAdd,Nat.reduceLeDiff,Tz,h1,h3,hg,hs,ix,iy,hc,un,UQ]⟩
 ·exact⟨_,pz (n:=l.length) (k:=l.length) (by simp only[X.ev,h3,h2,ac,bin,bA])|>.trans (by rw[TF (Nat.lt_irrefl _)]),trivial⟩
 ·rw[xt (n:=l.length) (TN _) λk h1 h2=>by
   have:=a k (UN _) h2;simpa[show k≠0 by omega]using this]
  simp only[wa,↓reduceIte]
 ·have hk0:k≠0:=λh=>by simp[h]at a3
  simp only[TP hk0,US]at a3;rw[zI (by omega) a2 a3]
def ta(l:List aV)(k:Nat):Bool:=match l[k]? with|some x=>decide (x.note.args.length<=6)|none=>true
def rK(l:List aV):Bool:=decide (l.length<=50)&&decide (∀k,k<l.length->ta l k=true)
theorem Ia{l:List aV}{k:Nat}(hk:k<l.length)(h:ta l k=false):rK l=false:=by
 have:decide (∀k,k<l.length->ta l k=true)=false:=TP λh'=>by rw[h' k hk]at h;cases h
 rw[rK,this,VD]
theorem GD{l:List aV}(h:∀k,k<min l.length 60->ta l k=true):rK l=decide (l.length<=50):=by
 by_cases hl:l.length<=50
 ·have:decide (∀k,k<l.length->ta l k=true)=true:=T3 λk hk=>h k (by omega);rw[rK,this,Us]
 ·rw[rK,TP hl,Un]
theorem KI{m:Nat}(l:List aV):aj aG (m+1) 30 [aJ l]=some (.bool (rK l),[]):=by
 refine am (F:=lD) rfl rfl rfl ?_ (.inr rfl);generalize aj aG m=C;generalize aY aG=V;have ll:bO (aJ l)=some (.int .i64 l.length):=jG;simp only[lD,pJ];refine nx (by simp only[wa];rfl) ?_;rw[mM];refine nx (by simp only[wa,↓reduceIte];rfl) ?_;refine rb (n:=min l.length 60) (k0:=0) (by omega) (by omega) (λk=>ta l k) (.bool false) (λk e=>e 0=aJ l/\e 3=.int .i64 (k:Nat)) (λe=>e 0=aJ l)
  (λk e hk hkn hp ⟨h1,h2⟩=>?_) (λk e hk hkn hp ⟨h1,h2⟩=>?_) (λe ⟨h1,h2⟩=>?_) (λa e h1=>?_) (λk a1 a2 a3=>?_) ⟨by simp[Env.ofArgs_at],by simp⟩
 ·obtain⟨x,hx,_⟩:=aN (show k<l.length by omega);simp only[ta,hx]at hp;have ix:=dR hx;have hb:aI .lss .i64 (k:Int) .i64 (l.length:Int)=some (.bool true):=by rw[bA,T3 (by omega)]
  have hb2:aI .lss .i64 (k:Int) .i64 60=some (.bool true):=by rw[rM,T3 (by omega)]
  have hg:aI .gtr .i64 (x.note.args.length:Int) .i64 6=some (.bool false):=by
   have:=UE hp;simp[aI]<;>omega
  have ha:=bT (k:=k) (by omega);simp only[co]at ix;refine⟨_,_,by simp only[wa,↓reduceIte,h1,h2,ll,hb,hb2];rfl,by simp only[wa,↓reduceIte,h1,h2,ix,cE,hg,ha];rfl,?_⟩;simp[h1]
 ·obtain⟨x,hx,_⟩:=aN (show k<l.length by omega);simp only[ta,hx]at hp;have ix:=dR hx;have hb:aI .lss .i64 (k:Int) .i64 (l.length:Int)=some (.bool true):=by rw[bA,T3 (by omega)]
  have hb2:aI .lss .i64 (k:Int) .i64 60=some (.bool true):=by rw[rM,T3 (by omega)]
  have hg:aI .gtr .i64 (x.note.args.length:Int) .i64 6=some (.bool true):=by
   have:=of_decide_eq_false hp;simp[aI]<;>omega
  simp only[co]at ix;exact⟨_,by simp only[wa,↓reduceIte,h1,h2,ll,hb,hb2];rfl,by simp only[wa,↓reduceIte,h1,h2,ix,cE,hg]⟩
 ·by_cases hq:l.length<=60
  ·have hb:aI .lss .i64 (min l.length 60:Nat) .i64 (l.length:Int)=some (.bool false):=by rw[bA,TP (by omega)]
   exact⟨_,by simp only[wa,↓reduceIte,h1,h2,ll,hb],h1⟩
  ·have hb:aI .lss .i64 (min l.length 60:Nat) .i64 (l.length:Int)=some (.bool true):=by rw[bA,T3 (by omega)]
   have hb2:aI .lss .i64 (min l.length 60:Nat) .i64 60=some (.bool false):=by rw[rM,TP (by omega)]
   exact⟨_,by simp only[wa,↓reduceIte,h1,h2,ll,hb,hb2],h1⟩
 ·have hq:aI .leq .i64 (l.length:Int) .i64 50=some (.bool (rK l)):=by
   rw[GD λk hk=>a k (UN _) hk];simp only[aI,ne_eq,UJ,TU];by_cases h:l.length<=50
   ·simp[h]<;>omega
   ·simp[h]<;>omega
  simp only[wa,↓reduceIte,h1,ll,hq]
 ·rw[Ia (by omega) a3]
theorem JT{l:List aV}{i:SID}(h:¬bR l i<0):∃(k:Nat)(x:aV),bR l i=k/\l.findIdx? (λx=>decide (x.id=i))=some k/\l[k]?=some x/\x.id=i:=by
 unfold bR fM at h⊢;split at h
 ·rename_i k hk;have hk':=hk;rw[U0]at hk;obtain⟨h1,h2,_⟩:=hk;exact⟨k,l[k],rfl,hk',TD h1,UE h2⟩
 ·omega
theorem Kx{l:List aV}{m x:aV}:x∈Dt l m↔x=m∨x∈l:=by
 simp only[Dt,Vi,T1];constructor
 ·rintro ((h|h)|h)
  ·exact .inr (UI h)
  ·exact .inl h
  ·exact .inr (UH h)
 ·rintro (h|h)
  ·exact .inl (.inr h)
  ·rw[<-Vt (vt l m) l]at h;rcases List.mem_append.1 h with h|h
   ·exact .inl (.inl h)
   ·exact .inr h
theorem KC(l:List aV)(m:aV):(Dt l m).length=l.length+1:=by
 have:=Az l m;simp only[Dt,Ud,T7,Ur,TJ,Um];omega
structure Sc (now inn:List aV):Prop where
 len:now.length=inn.length
 mem:∀x,x∈now↔x∈inn
 few:∀x∈inn,x.note.args.length<=6
def Sz(k:Nat):aV:=⟨⟨(k %3:Nat),(k/3:Nat),0⟩,⟨(k %2:Nat),0,[(k:Int)]⟩⟩
structure R4 (now:List aV) (ins:List Bool) (b:Nat):Prop where
 len:ins.length=30
 mem:∀x,x∈now↔∃k,k<b/\ins[k]?=some true/\x=Sz k
end Gv
