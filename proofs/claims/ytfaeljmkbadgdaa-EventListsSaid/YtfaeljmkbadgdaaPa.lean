/- A part of the proof that the law is true of all its inputs, by an interpreter that is proved sound. -/
import Derived.Test.YtfaeljmkbadgdaaEc
import Derived.Test.YtfaeljmkbadgdaaVc
import Derived.Test.YtfaeljmkbadgdaaVw
import Derived.KernelRfl
namespace Gv
open Go
def nb:Nat->Nat->List Nat
 |0,_=>[]
 |k+1,u=>if 128<=u then(u %128+128)::nb k (u/128)else[u]
def zz(n:Int):Nat:=if 0<=n then(2*n).toNat else(-2*n-1).toNat
theorem qK{x:Int}(h1: -9223372036854775808<=x)(h2:x<=9223372036854775807):IntKind.i64.wrap x=x:=by
 rw[IntKind.wrap_i64];omega
def It(l:List Nat):List PV:=l.map λ(n:Nat)=>PV.int .u8 (n:Int)
def eJ(n:Int):List Nat:=nb 10 (zz n)
def val:List Nat->Nat
 |[]=>0
 |c::cs=>c %128+128*val cs
structure SInstr where
  op:Int
  a:Int
  deriving DecidableEq
structure SHandler where
  args:Int
  code:List SInstr
  deriving DecidableEq
structure SActor where
  regs:List Int
  cap:Int
  timer:Int
  armed:Bool
  deriving DecidableEq
structure SNote where
  to:Int
  handler:Int
  args:List Int
  deriving DecidableEq
structure SProg where
  handlers:List SHandler
  actors:List SActor
  boot:List SNote
  fuel:Int
  deriving DecidableEq
structure SBudget where
  drop:Int
  dup:Int
  time:Int
  crash:Int
  deriving DecidableEq
structure SLimits where
  depth:Int
  runs:Int
  deriving DecidableEq
structure STask where
  prog:SProg
  watch:List (List SInstr)
  budget:SBudget
  limits:SLimits
  deriving DecidableEq
structure SID where
  frm:Int
  n:Int
  copy:Int
  deriving DecidableEq
structure SEvent where
  kind:Int
  id:SID
  who:Int
  deriving DecidableEq
def su(n:Int):Prop:= -9223372036854775808<=n/\n<=9223372036854775807
def SInstr.ok(i:SInstr):Prop:=su i.op/\su i.a
def SHandler.ok(h:SHandler):Prop:=su h.args/\∀i∈h.code,i.ok
def SActor.ok(a:SActor):Prop:=(∀n∈a.regs,su n)/\su a.cap/\su a.timer
def SNote.ok(n:SNote):Prop:=su n.to/\su n.handler/\∀x∈n.args,su x
def SProg.ok(p:SProg):Prop:=(∀h∈p.handlers,h.ok)/\(∀a∈p.actors,a.ok)/\(∀n∈p.boot,n.ok)/\su p.fuel
def SBudget.ok(b:SBudget):Prop:=su b.drop/\su b.dup/\su b.time/\su b.crash
def SLimits.ok(c:SLimits):Prop:=su c.depth/\su c.runs
def STask.ok(t:STask):Prop:=t.prog.ok/\(∀w∈t.watch,∀i∈w,i.ok)/\t.budget.ok/\t.limits.ok
def SID.ok(i:SID):Prop:=su i.frm/\su i.n/\su i.copy
def SEvent.ok(e:SEvent):Prop:=su e.kind/\e.id.ok/\su e.who
def eB(l:List Nat):PV:=.lst (It l) false
def eI(l:List Int):PV:=.lst (l.map λn=>.int .i64 n) false
def jX(i:SInstr):PV:=.agg [.int .i64 i.op,.int .i64 i.a]
def eD(l:List SInstr):PV:=.lst (l.map jX) false
def cw(h:SHandler):PV:=.agg [.int .i64 h.args,eD h.code]
def gy(a:SActor):PV:=.agg [eI a.regs,.int .i64 a.cap,.int .i64 a.timer,.bool a.armed]
def jr(n:SNote):PV:=.agg [.int .i64 n.to,.int .i64 n.handler,eI n.args]
def xF(p:SProg):List PV:=[.lst (p.handlers.map cw) false,.lst (p.actors.map gy) false,.lst (p.boot.map jr) false,.int .i64 p.fuel]
def bd(b:SBudget):List PV:=[.int .i64 b.drop,.int .i64 b.dup,.int .i64 b.time,.int .i64 b.crash]
def Gc(c:SLimits):List PV:=[.int .i64 c.depth,.int .i64 c.runs]
def M8(t:STask):List PV:=xF t.prog++[.lst (t.watch.map eD) false]++bd t.budget++Gc t.limits
def zy(i:SID):List PV:=[.int .i64 i.frm,.int .i64 i.n,.int .i64 i.copy]
def dL(e:SEvent):List PV:=[.int .i64 e.kind,.int .i64 e.id.frm,.int .i64 e.id.n,.int .i64 e.id.copy,.int .i64 e.who]
def bp(e:SEvent):PV:=.agg (dL e)
def aE(l:List SEvent):PV:=.lst (l.map bp) false
def ML(l:List Int):List Nat:=l.flatMap eJ
def DY(l:List Int):List Nat:=eJ l.length++ML l
def G3(i:SInstr):List Nat:=eJ i.op++eJ i.a
def Dp(l:List SInstr):List Nat:=eJ l.length++l.flatMap G3
def C3(h:SHandler):List Nat:=eJ h.args++Dp h.code
def K4(b:Bool):Int:=if b then 1 else 0
def Gt(a:SActor):List Nat:=DY a.regs++(eJ a.cap++eJ a.timer++eJ (K4 a.armed))
def Jg(n:SNote):List Nat:=eJ n.to++eJ n.handler++DY n.args
def IS(p:SProg):List Nat:=eJ p.handlers.length++p.handlers.flatMap C3++(eJ p.actors.length++p.actors.flatMap Gt)++(eJ p.boot.length++p.boot.flatMap Jg)++eJ p.fuel
def Ic:List Nat:=[71,65,86,49]
def Ml(t:STask):List Nat:=Ic++IS t.prog++(eJ t.watch.length++t.watch.flatMap Dp)++ML [t.budget.drop,t.budget.dup,t.budget.time,t.budget.crash,t.limits.depth,t.limits.runs]
def GH(e:SEvent):List Nat:=ML [e.kind,e.id.frm,e.id.n,e.id.copy,e.who]
def MT(l:List SEvent):List Nat:=eJ l.length++l.flatMap GH
variable{C:bT}{V:Nat->List PV->List PV->Bool}
theorem vq(a b c:VC)(env:Env):aI C V (.seq a (.seq b c)) env=aI C V (.seq (.seq a b) c) env:=by
 simp only[aI];cases aI C V a env with
 |none=>rfl
 |some r=>cases r<;>rfl
theorem rO{f g:Env->Option sE}(h:∀env,f env=g env):∀(n:Nat)(env:Env),dv f n env=dv g n env
 |0,_=>rfl
 |n+1,env=>by
  simp only[dv,h];cases g env with
  |none=>rfl
  |some r=>cases r<;>first|exact rO h n _|rfl
theorem uo(a b c:VC)(env:Env):aI C V (.loop (.seq a (.seq b c))) env=aI C V (.loop (.seq (.seq a b) c)) env:=by
 simp only[aI];exact rO (λe=>vq a b c e) _ _
theorem FO{k:Nat}(h:k<4611686018427387904):IntKind.i64.wrap (k:Int)=k:=qK (x:=(k:Int)) (by omega) (by omega)
theorem ey{k:Nat}(h:k<4611686018427387903):a9 .add .i64 (k:Int) .i64 1=some (.int .i64 ((k+1:Nat):Int)):=by
 simp only[a9];rw[Nw (by decide),show((k:Int)+1)=((k+1:Nat):Int)from rfl,FO (k:=k+1) (by omega)]
theorem eA(k n:Nat):a9 .lss .i64 (k:Int) .i64 (n:Int)=some (.bool (decide (k<n))):=by simp[a9]
theorem ou:yV=1099511627776:=rfl
theorem uJ{H BODY:VC}{vi b n:Nat}(hn:n<1099511627775)(St:Nat->Env->Prop)(Stop:sE->Prop)
  (hset:∀k env v,St k env->St k (env.set vi v))
  (hhead:∀k env,k<=n->St k env->env vi=.int .i64 (k:Nat)->aI C V H env=some (if k<n then .norm env else .exit b env))
  (hbody:∀k env,k<n->St k env->env vi=.int .i64 (k:Nat)->∃r,aI C V BODY env=some r/\((∃env',r=.norm env'/\St (k+1) env'/\env' vi=.int .i64 (k:Nat))∨((∀e,r≠ .norm e)/\Stop r))):
  ∀{env:Env},St 0 env->env vi=.int .i64 0->∃r,aI C V (.loop (.seq H (.seq BODY (.st [.asg [] [(vi,.bin .add (.v vi) (.int .i64 1))]])))) env=some r/\((∃env',r=.exit b env'/\St n env'/\env' vi=.int .i64 (n:Nat))∨((∀e,r≠ .norm e)/\Stop r)):=by
 have key:∀(d k j:Nat){env:Env},k+d=n->St k env->env vi=.int .i64 (k:Nat)->∃r,dv (aI C V (.seq H (.seq BODY (.st [.asg [] [(vi,.bin .add (.v vi) (.int .i64 1))]])))) (d+1+j) env=some r/\((∃env',r=.exit b env'/\St n env'/\env' vi=.int .i64 (n:Nat))∨((∀e,r≠ .norm e)/\Stop r)):=by
  intro d;induction d with
  |zero=>
   intro k j env hk hs hv;have hkn:k=n:=by omega
   subst hkn;refine⟨.exit b env,?_,.inl ⟨env,rfl,hs,hv⟩⟩;rw[show 0+1+j=j+1 by omega];simp only[dv,aI,hhead k env (Ny _) hs hv,Nat.lt_irrefl,Oc]
  | succ d ih=>
   intro k j env hk hs hv;have hkn:k<n:=by omega
   rw[show d+1+1+j=(d+1+j)+1 by omega];obtain⟨r,hr,hcase⟩:=hbody k env hkn hs hv;rcases hcase with⟨env',rfl,hs',hv'⟩|⟨hnn,hst⟩
   ·obtain⟨r2,h2,h3⟩:=ih (k+1) j (env:=env'.set vi (.int .i64 ((k+1:Nat):Int))) (by omega) (hset _ _ _ hs') (by simp);refine⟨r2,?_,h3⟩;have ha:=ey (k:=k) (by omega);simp only[dv,aI,hhead k env (by omega) hs hv,Nt hkn,hr,cS,VS.run,am,Oa,bR,X.ev,hv',ac,bin,ha];exact h2
   ·refine⟨r,?_,.inr ⟨hnn,hst⟩⟩;simp only[dv,aI,hhead k env (by omega) hs hv,Nt hkn,hr];cases r with
    |norm e=>exact absurd rfl (hnn e)
    |exit i e=>rfl
    |ret x os=>rfl
 intro env h0 hv;obtain⟨r,h1,h2⟩:=key n 0 (1099511627775-n) (by omega) h0 hv;refine⟨r,?_,h2⟩;simp only[aI];rw[show n+1+(1099511627775-n)=yV by rw[ou];omega]at h1;exact h1
theorem nJ{α:Type}{f:α->PV}{sz k:Nat}{xs:List α}{x:α}(h:xs[k]?=some x)(hs:(f x).cells.length=sz):au sz (.lst (xs.map f) false) (.int .i64 (k:Nat))=some (.lptr (f x).cells):=by
 have hk:k<xs.length:=(List.getElem?_eq_some_iff.1 h).1;have h1:(0:Int)<=(k:Int)/\(k:Int)<((xs.map f).length:Int):=by rw[Ob];omega
 have h2:(xs.map f)[(Int.toNat (k:Int))]?=some (f x):=by rw[Pl,NE,h];rfl
 simp only[au];rw[Nt h1,h2];simp only;rw[Nt hs]
theorem kS{α:Type}{f:α->PV}{xs:List α}:dp (.lst (xs.map f) false)=some (.int .i64 (xs.length:Nat)):=by simp[dp]
end Gv
namespace Gv
open Go
variable{C:bT}{V:Nat->List PV->List PV->Bool}
theorem gk{BODY:VC}{vi vn b n:Nat}(hn:n<1099511627775)(St:Nat->Env->Prop)
  (hset:∀k env v,St k env->St k (env.set vi v))(hvn:∀k env,St k env->env vn=.int .i64 (n:Nat))
  (hbody:∀k env,k<n->St k env->env vi=.int .i64 (k:Nat)->∃env',aI C V BODY env=some (.norm env')/\St (k+1) env'/\env' vi=.int .i64 (k:Nat))
  {env:Env}(h0:St 0 env)(hv:env vi=.int .i64 0):
  ∃env',aI C V (.block b (.loop (.seq (.st [.asg [(.bin .lss (.v vi) (.v vn))] []]) (.seq (.cond (.bin .lss (.v vi) (.v vn)) .skip (.exit b)) (.seq BODY (.st [.asg [] [(vi,.bin .add (.v vi) (.int .i64 1))]])))))) env=some (.norm env')/\St n env':=by
 obtain⟨r,h1,h2⟩:=uJ (C:=C) (V:=V) (b:=b) (H:=.seq (.st [.asg [(.bin .lss (.v vi) (.v vn))] []]) (.cond (.bin .lss (.v vi) (.v vn)) .skip (.exit b))) (BODY:=BODY) hn St (λ_=>False) hset
  (λk env hk hs hv=>by
   have h3:=hvn k env hs;by_cases hkn:k<n
   ·simp only[aI,cS,VS.run,am,X.ev,hv,h3,ac,bin,eA,hkn,Po,OP,Om,Oa,bR]
   ·simp only[aI,cS,VS.run,am,X.ev,hv,h3,ac,bin,eA,hkn,decide_false,OP,Om,Oa,bR,Oc])
  (λk env hk hs hv=>by
   obtain⟨e,h3,h4,h5⟩:=hbody k env hk hs hv;exact⟨_,h3,.inl ⟨e,rfl,h4,h5⟩⟩) h0 hv
 rcases h2 with⟨e,rfl,h3,_⟩|⟨_,h3⟩
 ·refine⟨e,?_,h3⟩;have h4:=(uo (C:=C) (V:=V) (.st [.asg [(.bin .lss (.v vi) (.v vn))] []]) (.cond (.bin .lss (.v vi) (.v vn)) .skip (.exit b)) (.seq BODY (.st [.asg [] [(vi,.bin .add (.v vi) (.int .i64 1))]])) env).trans h1;exact iA h4
 ·exact h3.elim
theorem F3{HEAD BODY:VC}{vi b n:Nat}(hn:n<1099511627775)(p:Nat->Bool)(R:PV)(St:Nat->Env->Prop)
  (hset:∀k env v,St k env->St k (env.set vi v))
  (hhead:∀k env,k<=n->St k env->env vi=.int .i64 (k:Nat)->aI C V HEAD env=some (if k<n then .norm env else .exit b env))
  (hbody:∀k env,k<n->St k env->env vi=.int .i64 (k:Nat)->∃r,aI C V BODY env=some r/\(if p k then∃env',r=.norm env'/\St (k+1) env'/\env' vi=.int .i64 (k:Nat)else r=.ret R []))
  {env:Env}(h0:St 0 env)(hv:env vi=.int .i64 0):
  ∃r,aI C V (.block b (.loop (.seq HEAD (.seq BODY (.st [.asg [] [(vi,.bin .add (.v vi) (.int .i64 1))]]))))) env=some r/\(if(∀k,k<n->p k=true)then∃env',r=.norm env'/\St n env' else r=.ret R []):=by
 obtain⟨r,h1,h2⟩:=uJ (C:=C) (V:=V) (b:=b) (H:=HEAD) (BODY:=BODY) hn (λk e=>St k e/\∀j,j<k->p j=true) (λr=>r=.ret R []/\¬ ∀k,k<n->p k=true) (λk env v h=>⟨hset k env v h.1,h.2⟩)
  (λk env hk hs hv=>hhead k env hk hs.1 hv)
  (λk env hk hs hv=>by
   obtain⟨r,h3,h4⟩:=hbody k env hk hs.1 hv;cases hp:p k with
   |true=>
    rw[hp,Nt rfl]at h4;obtain⟨e,h5,h6,h7⟩:=h4;refine⟨r,h3,.inl ⟨e,h5,⟨h6,λj hj=>?_⟩,h7⟩⟩;by_cases hjk:j=k
    ·subst hjk;exact hp
    ·exact hs.2 j (by omega)
   |false=>
    rw[hp]at h4;simp only[NL,Oc]at h4;refine⟨r,h3,.inr ⟨(λe he=>(by rw[h4]at he;cases he)),h4,(λh=>(by have:=h k hk;rw[hp]at this;cases this))⟩⟩) ⟨h0,λj hj=>by omega⟩ hv
 rcases h2 with⟨e,rfl,⟨h3,h4⟩,_⟩|⟨h3,h4,h5⟩
 ·exact⟨_,iA h1,by rw[Nt h4];exact⟨e,rfl,h3⟩⟩
 ·subst h4;exact⟨_,aU h1,by rw[Nw h5]⟩
@[simp] theorem BW (l:List Int):PV.fits (eI l) none=true:=rfl
@[simp] theorem Bl (l:List Nat):PV.fits (eB l) none=true:=rfl
@[simp] theorem sR (l:List SInstr):PV.fits (eD l) none=true:=rfl
@[simp] theorem Bp (l:List Int):PV.isCell (eI l)=true:=rfl
@[simp] theorem BS (l:List Nat):PV.isCell (eB l)=true:=rfl
@[simp] theorem uv (l:List SInstr):PV.isCell (eD l)=true:=rfl
@[simp] theorem zp (l:List Int):PV.cells (eI l)=[eI l]:=rfl
@[simp] theorem x9 (l:List Nat):PV.cells (eB l)=[eB l]:=rfl
@[simp] theorem rS (l:List SInstr):PV.cells (eD l)=[eD l]:=rfl
theorem yN(k:IntKind)(n:Int):PV.fits (.int k n) none=true:=rfl
theorem vY(b:Bool):PV.fits (.bool b) none=true:=rfl
theorem xQ(b:List UInt8):PV.fits (.str b) none=true:=rfl
theorem zd(l:List PV)(c:Bool):PV.fits (.lst l c) none=true:=rfl
theorem yT(l:List PV)(n:Nat):PV.fits (.agg l) (some n)=(l.length==n):=rfl
theorem vM:PV.fits .nilp none=true:=rfl
theorem vu(l:List PV):PV.fits (.lptr l) none=true:=rfl
theorem A6(f:Nat)(l:List PV):PV.fits (.fn f l) none=true:=rfl
theorem l8(k:IntKind)(n:Int):PV.isCell (.int k n)=true:=rfl
theorem rc(b:Bool):PV.isCell (.bool b)=true:=rfl
theorem yp(b:List UInt8):PV.isCell (.str b)=true:=rfl
theorem yt(l:List PV)(c:Bool):PV.isCell (.lst l c)=true:=rfl
theorem v8:PV.isCell .nilp=true:=rfl
theorem wg(l:List PV):PV.isCell (.lptr l)=true:=rfl
theorem BG(f:Nat)(l:List PV):PV.isCell (.fn f l)=true:=rfl
theorem vZ(k:IntKind)(n:Int):PV.cells (.int k n)=[.int k n]:=rfl
theorem ux(b:Bool):PV.cells (.bool b)=[.bool b]:=rfl
theorem vI(l:List PV)(c:Bool):PV.cells (.lst l c)=[.lst l c]:=rfl
theorem vF(l:List PV):PV.cells (.agg l)=l:=rfl
theorem MW(a:Int):PV.lst [.int .i64 a] false=eI [a]:=rfl
theorem oW{k:Nat}{l:List Int}{x:Int}(h:l[k]?=some x):au 1 (eI l) (.int .i64 (k:Nat))=some (.lptr [.int .i64 x]):=nJ (f:=λn=>PV.int .i64 n) h rfl
theorem jm{l:List Int}:dp (eI l)=some (.int .i64 l.length):=kS
theorem xT{k:Nat}{l:List SInstr}{x:SInstr}(h:l[k]?=some x):au 2 (eD l) (.int .i64 (k:Nat))=some (.lptr [.int .i64 x.op,.int .i64 x.a]):=nJ (f:=jX) h rfl
theorem lY{l:List SInstr}:dp (eD l)=some (.int .i64 l.length):=kS
theorem Hv{k:Nat}{l:List SHandler}{x:SHandler}(h:l[k]?=some x):au 2 (.lst (l.map cw) false) (.int .i64 (k:Nat))=some (.lptr [.int .i64 x.args,eD x.code]):=nJ (f:=cw) h rfl
theorem HS{k:Nat}{l:List SActor}{x:SActor}(h:l[k]?=some x):au 4 (.lst (l.map gy) false) (.int .i64 (k:Nat))=some (.lptr [eI x.regs,.int .i64 x.cap,.int .i64 x.timer,.bool x.armed]):=nJ (f:=gy) h rfl
theorem HB{k:Nat}{l:List SNote}{x:SNote}(h:l[k]?=some x):au 3 (.lst (l.map jr) false) (.int .i64 (k:Nat))=some (.lptr [.int .i64 x.to,.int .i64 x.handler,eI x.args]):=nJ (f:=jr) h rfl
theorem Ll{k:Nat}{l:List SEvent}{x:SEvent}(h:l[k]?=some x):au 5 (.lst (l.map bp) false) (.int .i64 (k:Nat))=some (.lptr (dL x)):=nJ (f:=bp) h rfl
theorem eY{α:Type}{l:List α}{k:Nat}{x:α}(h:l[k]?=some x):l.take (k+1)=l.take k++[x]:=by
 rw[List.take_add_one,h];rfl
theorem bo{α:Type}{l:List α}{k:Nat}(h:k<l.length):∃x,l[k]?=some x/\x∈l:=⟨l[k],Ns h,List.getElem_mem h⟩
section
variable{C:bT}{V:Nat->List PV->List PV->Bool}
theorem nx{a b:VC}{env e:Env}{x:Option sE}(h:aI C V a env=some (.norm e))(k:aI C V b e=x):aI C V (.seq a b) env=x:=by rw[Gm h];exact k
theorem lC{a b:VC}{env:Env}{x:Option sE}{P:Env->Prop}(h:∃e,aI C V a env=some (.norm e)/\P e)(k:∀e,P e->aI C V b e=x):aI C V (.seq a b) env=x:=by
 obtain⟨e,h1,h2⟩:=h;exact nx h1 (k e h2)
theorem rU(a b c:VC)(env:Env):aI C V (.seq (.seq a b) c) env=aI C V (.seq a (.seq b c)) env:=(vq a b c env).symm
end
theorem MY:type_of%(And.intro @aI.eq_1 (And.intro @aI.eq_2 (And.intro @aI.eq_3 (And.intro @aI.eq_4 (And.intro @aI.eq_5 (And.intro @aI.eq_6 (And.intro @aI.eq_7 (And.intro @aI.eq_8 (And.intro @cS.eq_1 (And.intro @cS.eq_2 (And.intro @VS.run.eq_1 (And.intro @VS.run.eq_2 (And.intro @VS.run.eq_3 (And.intro @am.eq_1 (And.intro @am.eq_2 (And.intro @bR.eq_1 (And.intro @bR.eq_2 (And.intro @eu.eq_1 (And.intro @eu.eq_2 (And.intro @X.ev.eq_1 (And.intro @X.ev.eq_2 (And.intro @X.ev.eq_3 (And.intro @X.ev.eq_4 (And.intro @X.ev.eq_5 (And.intro @X.ev.eq_6 (And.intro @X.ev.eq_7 (And.intro @X.ev.eq_8 (And.intro @X.ev.eq_9 (And.intro @X.ev.eq_10 (@X.ev.eq_11)))))))))))))))))))))))))))))):=(And.intro @aI.eq_1 (And.intro @aI.eq_2 (And.intro @aI.eq_3 (And.intro @aI.eq_4 (And.intro @aI.eq_5 (And.intro @aI.eq_6 (And.intro @aI.eq_7 (And.intro @aI.eq_8 (And.intro @cS.eq_1 (And.intro @cS.eq_2 (And.intro @VS.run.eq_1 (And.intro @VS.run.eq_2 (And.intro @VS.run.eq_3 (And.intro @am.eq_1 (And.intro @am.eq_2 (And.intro @bR.eq_1 (And.intro @bR.eq_2 (And.intro @eu.eq_1 (And.intro @eu.eq_2 (And.intro @X.ev.eq_1 (And.intro @X.ev.eq_2 (And.intro @X.ev.eq_3 (And.intro @X.ev.eq_4 (And.intro @X.ev.eq_5 (And.intro @X.ev.eq_6 (And.intro @X.ev.eq_7 (And.intro @X.ev.eq_8 (And.intro @X.ev.eq_9 (And.intro @X.ev.eq_10 (@X.ev.eq_11))))))))))))))))))))))))))))))
theorem Nb:type_of%(And.intro @X.ev.eq_12 (And.intro @X.ev.eq_13 (And.intro @X.ev.eq_14 (And.intro @X.ev.eq_15 (And.intro @X.ev.eq_16 (And.intro @X.ev.eq_17 (And.intro @X.ev.eq_18 (And.intro @X.ev.eq_19 (And.intro @X.ev.eq_20 (And.intro @X.ev.eq_21 (And.intro @X.ev.eq_22 (And.intro @X.ev.eq_23 (And.intro @X.ev.eq_24 (And.intro @X.ev.eq_25 (And.intro @X.ev.eq_26 (And.intro @X.ev.eq_27 (And.intro @X.ev.eq_28 (And.intro @X.ev.eq_29 (And.intro @X.ev.eq_30 (And.intro @X.ev.eq_31 (And.intro @X.ev.eq_32 (And.intro @X.ev.eq_33 (And.intro @X.ev.eq_34 (And.intro @X.ev.eq_35 (And.intro @X.ev.eq_36 (And.intro @X.ev.eq_37 (And.intro @X.ev.eq_38 (And.intro @X.ev.eq_39 (And.intro @dQ.eq_1 (@dQ.eq_2)))))))))))))))))))))))))))))):=(And.intro @X.ev.eq_12 (And.intro @X.ev.eq_13 (And.intro @X.ev.eq_14 (And.intro @X.ev.eq_15 (And.intro @X.ev.eq_16 (And.intro @X.ev.eq_17 (And.intro @X.ev.eq_18 (And.intro @X.ev.eq_19 (And.intro @X.ev.eq_20 (And.intro @X.ev.eq_21 (And.intro @X.ev.eq_22 (And.intro @X.ev.eq_23 (And.intro @X.ev.eq_24 (And.intro @X.ev.eq_25 (And.intro @X.ev.eq_26 (And.intro @X.ev.eq_27 (And.intro @X.ev.eq_28 (And.intro @X.ev.eq_29 (And.intro @X.ev.eq_30 (And.intro @X.ev.eq_31 (And.intro @X.ev.eq_32 (And.intro @X.ev.eq_33 (And.intro @X.ev.eq_34 (And.intro @X.ev.eq_35 (And.intro @X.ev.eq_36 (And.intro @X.ev.eq_37 (And.intro @X.ev.eq_38 (And.intro @X.ev.eq_39 (And.intro @dQ.eq_1 (@dQ.eq_2))))))))))))))))))))))))))))))
theorem M3:type_of%(And.intro @bP.eq_1 (And.intro @bP.eq_2 (And.intro @ku.eq_1 (And.intro @ku.eq_2 (And.intro @bin.eq_1 (And.intro @bin.eq_2 (And.intro @bin.eq_3 (And.intro @bin.eq_4 (And.intro @bin.eq_5 (And.intro @bin.eq_6 (And.intro @BB.eq_1 (And.intro @BB.eq_2 (And.intro @sh.eq_1 (And.intro @sh.eq_2 (And.intro @Cm.eq_1 (And.intro @Cm.eq_2 (And.intro @lL.eq_1 (And.intro @db.eq_1 (And.intro @db.eq_2 (And.intro @ai.eq_1 (And.intro @ai.eq_2 (And.intro @Cp.eq_1 (And.intro @ba.eq_1 (And.intro @ba.eq_2 (And.intro @ba.eq_3 (And.intro @Env.sets.eq_1 (And.intro @Env.sets.eq_2 (And.intro @ac (And.intro @mo (@Env.set_at)))))))))))))))))))))))))))))):=(And.intro @bP.eq_1 (And.intro @bP.eq_2 (And.intro @ku.eq_1 (And.intro @ku.eq_2 (And.intro @bin.eq_1 (And.intro @bin.eq_2 (And.intro @bin.eq_3 (And.intro @bin.eq_4 (And.intro @bin.eq_5 (And.intro @bin.eq_6 (And.intro @BB.eq_1 (And.intro @BB.eq_2 (And.intro @sh.eq_1 (And.intro @sh.eq_2 (And.intro @Cm.eq_1 (And.intro @Cm.eq_2 (And.intro @lL.eq_1 (And.intro @db.eq_1 (And.intro @db.eq_2 (And.intro @ai.eq_1 (And.intro @ai.eq_2 (And.intro @Cp.eq_1 (And.intro @ba.eq_1 (And.intro @ba.eq_2 (And.intro @ba.eq_3 (And.intro @Env.sets.eq_1 (And.intro @Env.sets.eq_2 (And.intro @ac (And.intro @mo (@Env.set_at))))))))))))))))))))))))))))))
theorem M5:type_of%(And.intro @yN (And.intro @vY (And.intro @xQ (And.intro @zd (And.intro @yT (And.intro @vM (And.intro @vu (And.intro @A6 (And.intro @l8 (And.intro @rc (And.intro @yp (And.intro @yt (And.intro @v8 (And.intro @wg (And.intro @BG (And.intro @vZ (And.intro @ux (And.intro @vI (And.intro @vF (And.intro @zp (And.intro @x9 (And.intro @rS (And.intro @BW (And.intro @Bl (And.intro @sR (And.intro @Bp (And.intro @BS (And.intro @uv (And.intro @OP (@O3)))))))))))))))))))))))))))))):=(And.intro @yN (And.intro @vY (And.intro @xQ (And.intro @zd (And.intro @yT (And.intro @vM (And.intro @vu (And.intro @A6 (And.intro @l8 (And.intro @rc (And.intro @yp (And.intro @yt (And.intro @v8 (And.intro @wg (And.intro @BG (And.intro @vZ (And.intro @ux (And.intro @vI (And.intro @vF (And.intro @zp (And.intro @x9 (And.intro @rS (And.intro @BW (And.intro @Bl (And.intro @sR (And.intro @Bp (And.intro @BS (And.intro @uv (And.intro @OP (@O3))))))))))))))))))))))))))))))
theorem M9:type_of%(And.intro @Nz (And.intro @Oo (And.intro @List.drop_succ_cons.{0} (And.intro @Pt (And.intro @Pa (And.intro @List.take_zero.{0} (And.intro @NW (And.intro @N9 (And.intro @Om (And.intro @Ow (And.intro @Oi (And.intro @Ny (And.intro @NL (And.intro @and_self (@Pj))))))))))))))):=(And.intro @Nz (And.intro @Oo (And.intro @List.drop_succ_cons.{0} (And.intro @Pt (And.intro @Pa (And.intro @List.take_zero.{0} (And.intro @NW (And.intro @N9 (And.intro @Om (And.intro @Ow (And.intro @Oi (And.intro @Ny (And.intro @NL (And.intro @and_self (@Pj)))))))))))))))
theorem wa:type_of%(And.intro MY (And.intro Nb (And.intro M3 (And.intro M5 M9)))):=And.intro MY (And.intro Nb (And.intro M3 (And.intro M5 M9)))
end Gv
namespace Gv
open Go
variable{C:bT}{V:Nat->List PV->List PV->Bool}
theorem wU{HEAD BODY K:VC}{vi b n:Nat}{X0:Option sE}(hn:n<1099511627775)(p:Nat->Bool)(R:PV)(St:Nat->Env->Prop)(P:Prop)
  (hset:∀k env v,St k env->St k (env.set vi v))
  (hhead:∀k env,k<=n->St k env->env vi=.int .i64 (k:Nat)->aI C V HEAD env=some (if k<n then .norm env else .exit b env))
  (hbody:∀k env,k<n->St k env->env vi=.int .i64 (k:Nat)->∃r,aI C V BODY env=some r/\(if p k then∃env',r=.norm env'/\St (k+1) env'/\env' vi=.int .i64 (k:Nat)else r=.ret R []))
  (hP:(∀k,k<n->p k=true)↔P)(hk:P->∀e,St n e->aI C V K e=X0)(hr:¬P->X0=some (.ret R []))
  {env:Env}(h0:St 0 env)(hv:env vi=.int .i64 0):
  aI C V (.seq (.block b (.loop (.seq HEAD (.seq BODY (.st [.asg [] [(vi,.bin .add (.v vi) (.int .i64 1))]]))))) K) env=X0:=by
 obtain⟨r,h1,h2⟩:=F3 (C:=C) (V:=V) hn p R St hset hhead hbody h0 hv;by_cases h:P
 ·rw[Nt (hP.2 h)]at h2;obtain⟨e,rfl,h3⟩:=h2;exact nx h1 (hk h e h3)
 ·rw[Nw (λh'=>h (hP.1 h'))]at h2;subst h2;rw[an h1,hr h]
structure bv where
 id:SID
 note:SNote
 deriving DecidableEq
def ig(m:bv):List PV:=[.int .i64 m.id.frm,.int .i64 m.id.n,.int .i64 m.id.copy,.int .i64 m.note.to,.int .i64 m.note.handler,eI m.note.args]
def eG(m:bv):PV:=.agg (ig m)
def aY(l:List bv):PV:=.lst (l.map eG) false
def xD(i:SID):PV:=.agg (zy i)
theorem z0(m:bv):(eG m).cells=ig m:=rfl
theorem qx{k:Nat}{l:List bv}{x:bv}(h:l[k]?=some x):au 6 (aY l) (.int .i64 (k:Nat))=some (.lptr (ig x)):=nJ (f:=eG) h rfl
theorem qL{l:List bv}:dp (aY l)=some (.int .i64 l.length):=kS
def cW(a b:SID):Bool:=if a.frm≠b.frm then decide (a.frm<b.frm)else if a.n≠b.n then decide (a.n<b.n)else decide (a.copy<b.copy)
def jd(x y:Int):Int:=if x<y then-1 else if y<x then 1 else 0
def zx(a b c:Int):Int:=if a≠0 then a else if b≠0 then b else c
theorem C2(a b:SID):decide (zx (jd a.frm b.frm) (jd a.n b.n) (jd a.copy b.copy)<0)=cW a b:=by
 simp only[zx,jd,cW];by_cases h1:a.frm<b.frm
 ·simp[h1,show a.frm≠b.frm by omega]
 ·by_cases h2:b.frm<a.frm
  ·simp[h1,h2,show a.frm≠b.frm by omega]
  ·have e:a.frm=b.frm:=by omega
   by_cases h3:a.n<b.n
   ·simp[e,h3,show a.n≠b.n by omega]
   ·by_cases h4:b.n<a.n
    ·simp[e,h3,h4,show a.n≠b.n by omega]
    ·have e2:a.n=b.n:=by omega
     simp only[e,e2,Int.lt_irrefl,Oc,ne_eq,OB];by_cases h5:a.copy<b.copy
     ·simp[h5]
     ·by_cases h6:b.copy<a.copy
      ·simp[h5,h6]
      ·simp[h5,h6]
variable{C:bT}{V:Nat->List PV->List PV->Bool}
abbrev GJ(c:X)(b:Nat):VC:=.seq (.st [.asg [c] []]) (.cond c .skip (.exit b))
abbrev tN(vi:Nat):VC:=.st [.asg [] [(vi,.bin .add (.v vi) (.int .i64 1))]]
theorem oU{c:X}{b n k:Nat}{env:Env}(h:c.ev env=some (.bool (decide (k<n)))):aI C V (GJ c b) env=some (if k<n then .norm env else .exit b env):=by
 by_cases hk:k<n
 ·simp only[aI,cS,VS.run,am,h,hk,Po,OP,Om,Oa,bR,ac]
 ·simp only[aI,cS,VS.run,am,h,hk,decide_false,OP,Om,Oa,bR,Oc,ac]
theorem Gi{c:X}{b vi:Nat}{BODY:VC}{env:Env}:aI C V (.block b (.loop (.seq (.st [.asg [c] []]) (.seq (.cond c .skip (.exit b)) (.seq BODY (tN vi)))))) env=aI C V (.block b (.loop (.seq (GJ c b) (.seq BODY (tN vi))))) env:=by
 have:=uo (C:=C) (V:=V) (.st [.asg [c] []]) (.cond c .skip (.exit b)) (.seq BODY (tN vi)) env;rw[aI.eq_def,aI.eq_def C V (.block b _)];simp only;rw[this]
theorem CD{c:X}{BODY:VC}{vi b n:Nat}(hn:n<1099511627775)(p:Nat->Bool)(R:Nat->PV)(St:Nat->Env->Prop)
  (hset:∀k env v,St k env->St k (env.set vi v))
  (hc:∀k env,k<=n->St k env->env vi=.int .i64 (k:Nat)->c.ev env=some (.bool (decide (k<n))))
  (hbody:∀k env,k<n->St k env->env vi=.int .i64 (k:Nat)->∃r,aI C V BODY env=some r/\(if p k then r=.ret (R k) []else∃env',r=.norm env'/\St (k+1) env'/\env' vi=.int .i64 (k:Nat)))
  {env:Env}(h0:St 0 env)(hv:env vi=.int .i64 0):
  ∃r,aI C V (.block b (.loop (.seq (GJ c b) (.seq BODY (tN vi))))) env=some r/\((∃k,k<n/\p k=true/\(∀j,j<k->p j=false)/\r=.ret (R k) [])∨((∀k,k<n->p k=false)/\∃env',r=.norm env'/\St n env')):=by
 obtain⟨r,h1,h2⟩:=uJ (C:=C) (V:=V) (b:=b) (H:=GJ c b) (BODY:=BODY) hn (λk e=>St k e/\∀j,j<k->p j=false) (λr=>∃k,k<n/\p k=true/\(∀j,j<k->p j=false)/\r=.ret (R k) []) (λk env v h=>⟨hset k env v h.1,h.2⟩)
  (λk env hk hs hv=>oU (hc k env hk hs.1 hv))
  (λk env hk hs hv=>by
   obtain⟨r,h3,h4⟩:=hbody k env hk hs.1 hv;cases hp:p k with
   |true=>
    rw[hp,Nt rfl]at h4;subst h4;exact⟨_,h3,.inr ⟨λe h=>(by cases h),k,hk,hp,hs.2,rfl⟩⟩
   |false=>
    rw[hp,Nw (by simp)]at h4;obtain⟨e,rfl,h5,h6⟩:=h4;refine⟨_,h3,.inl ⟨e,rfl,⟨h5,λj hj=>?_⟩,h6⟩⟩;rcases Nat.lt_succ_iff_lt_or_eq.1 hj with h|rfl
    ·exact hs.2 j h
    ·exact hp) ⟨h0,λj hj=>absurd hj (Nat.not_lt_zero _)⟩ hv
 rcases h2 with⟨e,rfl,h3,_⟩|⟨_,k,h3,h4,h5,rfl⟩
 ·exact⟨_,iA h1,.inr ⟨h3.2,e,rfl,h3.1⟩⟩
 ·exact⟨_,aU h1,.inl ⟨k,h3,h4,h5,rfl⟩⟩
theorem zh{c:X}{BODY K:VC}{vi b n:Nat}{X0:Option sE}(hn:n<1099511627775)(p:Nat->Bool)(R:Nat->PV)(St:Nat->Env->Prop)
  (hset:∀k env v,St k env->St k (env.set vi v))
  (hc:∀k env,k<=n->St k env->env vi=.int .i64 (k:Nat)->c.ev env=some (.bool (decide (k<n))))
  (hbody:∀k env,k<n->St k env->env vi=.int .i64 (k:Nat)->∃r,aI C V BODY env=some r/\(if p k then r=.ret (R k) []else∃env',r=.norm env'/\St (k+1) env'/\env' vi=.int .i64 (k:Nat)))
  (hr:∀k,k<n->p k=true->(∀j,j<k->p j=false)->X0=some (.ret (R k) []))(hk:(∀k,k<n->p k=false)->∀e,St n e->aI C V K e=X0)
  {env:Env}(h0:St 0 env)(hv:env vi=.int .i64 0):
  aI C V (.seq (.block b (.loop (.seq (GJ c b) (.seq BODY (tN vi))))) K) env=X0:=by
 obtain⟨r,h1,h2⟩:=CD (C:=C) (V:=V) hn p R St hset hc hbody h0 hv;rcases h2 with⟨k,a1,a2,a3,rfl⟩|⟨a1,e,rfl,a2⟩
 ·rw[an h1,hr k a1 a2 a3]
 ·exact nx h1 (hk a1 e a2)
theorem v6{c:X}{BODY K:VC}{vi b n:Nat}{X0:Option sE}(hn:n<1099511627775)(p:Nat->Bool)(R:Nat->PV)(St:Nat->Env->Prop)
  (hset:∀k env v,St k env->St k (env.set vi v))
  (hc:∀k env,k<=n->St k env->env vi=.int .i64 (k:Nat)->c.ev env=some (.bool (decide (k<n))))
  (hbody:∀k env,k<n->St k env->env vi=.int .i64 (k:Nat)->∃r,aI C V BODY env=some r/\(if p k then r=.ret (R k) []else∃env',r=.norm env'/\St (k+1) env'/\env' vi=.int .i64 (k:Nat)))
  (hr:∀k,k<n->p k=true->(∀j,j<k->p j=false)->X0=some (.ret (R k) []))(hk:(∀k,k<n->p k=false)->∀e,St n e->aI C V K e=X0)
  {env:Env}(h0:St 0 env)(hv:env vi=.int .i64 0):
  aI C V (.seq (.block b (.loop (.seq (.st [.asg [c] []]) (.seq (.cond c .skip (.exit b)) (.seq BODY (tN vi)))))) K) env=X0:=by
 have:=zh (C:=C) (V:=V) (K:=K) (X0:=X0) (b:=b) hn p R St hset hc hbody hr hk h0 hv;rw[<-this,aI.eq_def,aI.eq_def C V (.seq _ K)];simp only;rw[Gi]
theorem Kn(x:Int):a9 .neq .i64 x .i64 x=some (.bool false):=by simp[a9]
theorem A4{m:Nat}(x:Int):aj aK (m+1) 106 [.int .i64 x]=some (.bool false,[]):=by
 refine aq (F:=fT) rfl rfl rfl ?_ (.inr rfl);simp only[fT];simp only[wa,↓reduceIte,Env.ofArgs_at,NQ,Kn]
theorem Bg{m:Nat}(x y:Int):aj aK (m+2) 103 [.int .i64 x,.int .i64 y]=some (.int .i64 (jd x y),[]):=by
 refine aq (F:=ew) rfl rfl rfl ?_ (.inr rfl);have h1:=A4 (m:=m) x;have h2:=A4 (m:=m) y;generalize aj aK (m+1)=C at*;generalize bi aK=V;have hl:a9 .lss .i64 x .i64 y=some (.bool (decide (x<y))):=by simp[a9]
 have hg:a9 .gtr .i64 x .i64 y=some (.bool (decide (y<x))):=by simp[a9]
 simp only[ew];by_cases a:x<y
 ·simp only[wa,↓reduceIte,Nat.reduceEqDiff,reduceCtorEq,Env.ofArgs_at,NQ,h1,h2,hl,a,Po,jd]
 ·by_cases b:y<x
  ·simp only[wa,↓reduceIte,Nat.reduceEqDiff,reduceCtorEq,Env.ofArgs_at,NQ,h1,h2,hl,hg,a,b,Po,decide_false,jd]
  ·simp only[wa,↓reduceIte,Nat.reduceEqDiff,reduceCtorEq,Env.ofArgs_at,NQ,h1,h2,hl,hg,a,b,decide_false,jd]
theorem J2{m:Nat}(a b c:Int):aj aK (m+1) 102 [.lst [.int .i64 a,.int .i64 b,.int .i64 c] false]=some (.int .i64 (zx a b c),[]):=by
 refine aq (F:=jv) rfl rfl rfl ?_ (.inr rfl);generalize aj aK m=C;generalize bi aK=V;have hx:∀k x,[a,b,c][k]?=some x->au 1 (.lst [.int .i64 a,.int .i64 b,.int .i64 c] false) (.int .i64 (k:Nat))=some (.lptr [.int .i64 x]):=λk x h=>oW (l:=[a,b,c]) h;have hl:dp (.lst [.int .i64 a,.int .i64 b,.int .i64 c] false)=some (.int .i64 (3:Nat)):=jm (l:=[a,b,c]);generalize hL:PV.lst [.int .i64 a,.int .i64 b,.int .i64 c] false=L at hx hl;simp only[jv,na];refine nx (by simp only[wa,↓reduceIte];rfl) ?_;rw[rU];refine nx (by simp only[wa,↓reduceIte,reduceCtorEq,Env.ofArgs_at,NQ,hl];rfl) ?_;refine v6 (n:=3) (by omega) (λk=>decide (([a,b,c][k]?).getD 0≠0)) (λk=>.int .i64 (([a,b,c][k]?).getD 0)) (λ_ e=>e 6=L/\e 3=.int .i64 0/\e 7=.int .i64 (3:Nat)) (λk e v h=>by simpa using h)
  (λk e hk h hv=>by simp only[X.ev,hv,h.2.2,ac,bin,eA]) (λk e hk ⟨h1,h2,h3⟩ hv=>?_) (λk hk hp hj=>?_) (λhp e h=>?_) ⟨by simp[],by simp,by simp⟩ (by simp)
 ·obtain⟨x,hx',_⟩:=bo (l:=[a,b,c]) (k:=k) hk;have hi:=hx k x hx';by_cases h0:x=0
  ·subst h0;have hn:=Kn 0;refine⟨_,by simp only[wa,↓reduceIte,Nat.reduceEqDiff,h1,h2,hv,hi,hn];rfl,?_⟩;simp[hx',h1,h2,h3,hv]
  ·have hn:a9 .neq .i64 x .i64 0=some (.bool true):=by simp[a9,h0]
   refine⟨_,by simp only[wa,↓reduceIte,Nat.reduceEqDiff,h1,h2,hv,hi,hn];rfl,?_⟩;simp[hx',h0]
 ·match k,hk with
  |0,_=>simp at hp;simp[zx,hp]
  |1,_=>have:=hj 0 (by omega);simp at hp this;simp[zx,hp,this]
  |2,_=>have h0:=hj 0 (by omega);have h1:=hj 1 (by omega);simp at hp h0 h1;simp[zx,h0,h1]
 ·have h0:=hp 0 (by omega);have h1:=hp 1 (by omega);have h2:=hp 2 (by omega);simp at h0 h1 h2;simp only[wa,↓reduceIte,h.2.1];simp[zx,h0,h1,h2]
theorem BF{m:Nat}(a b:SID):aj aK (m+3) 96 [xD a,xD b]=some (.int .i64 (zx (jd a.frm b.frm) (jd a.n b.n) (jd a.copy b.copy)),[]):=by
 refine aq (F:=iO) rfl rfl rfl ?_ (.inr rfl);have h1:=Bg (m:=m) a.frm b.frm;have h2:=Bg (m:=m) a.n b.n;have h3:=Bg (m:=m) a.copy b.copy;have h4:=J2 (m:=m+1) (jd a.frm b.frm) (jd a.n b.n) (jd a.copy b.copy);generalize aj aK (m+2)=C at*;generalize bi aK=V;simp only[xD,zy,iO];simp only[wa,↓reduceIte,Nat.reduceEqDiff,Nat.reduceAdd,Nq,Env.ofArgs_at,NQ,h1,h2,h3,h4]
theorem Fb{m:Nat}(a b:SID):aj aK (m+4) 75 [xD a,xD b]=some (.bool (cW a b),[]):=by
 refine aq (F:=ju) rfl rfl rfl ?_ (.inr rfl);have h1:=BF (m:=m) a b;generalize aj aK (m+3)=C at*;generalize bi aK=V;have hl:a9 .lss .i64 (zx (jd a.frm b.frm) (jd a.n b.n) (jd a.copy b.copy)) .i64 0=some (.bool (cW a b)):=by
  rw[<-C2];simp[a9]
 simp only[xD,zy]at h1;simp only[xD,zy,ju];simp only[wa,↓reduceIte,Nat.reduceEqDiff,Nat.reduceAdd,Nq,Env.ofArgs_at,NQ,h1,hl]
theorem vP(x y:Int):a9 .lss .i64 x .i64 y=some (.bool (decide (x<y))):=by simp[a9]
theorem B5(x y:Int):a9 .neq .i64 x .i64 y=some (.bool (decide (x≠y))):=by
 by_cases h:x=y<;>simp[a9,h]
theorem G1{m:Nat}(a b:SID):aj aK (m+1) 78 [xD a,xD b]=some (.bool (cW a b),[]):=by
 refine aq (F:=lg) rfl rfl rfl ?_ (.inr rfl);generalize aj aK m=C;generalize bi aK=V;simp only[xD,zy,lg];by_cases h1:a.frm=b.frm
 ·have e1:a9 .neq .i64 a.frm .i64 b.frm=some (.bool false):=by rw[B5];simp[h1]
  by_cases h2:a.n=b.n
  ·have e2:a9 .neq .i64 a.n .i64 b.n=some (.bool false):=by rw[B5];simp[h2]
   simp only[wa,↓reduceIte,Nat.reduceEqDiff,Nat.reduceAdd,Nq,Env.ofArgs_at,NQ,vP,e1,e2];simp[cW,h1,h2]
  ·have e2:a9 .neq .i64 a.n .i64 b.n=some (.bool true):=by rw[B5];simp[h2]
   simp only[wa,↓reduceIte,Nat.reduceEqDiff,Nat.reduceAdd,Nq,Env.ofArgs_at,NQ,vP,e1,e2];simp[cW,h1,h2]
 ·have e1:a9 .neq .i64 a.frm .i64 b.frm=some (.bool true):=by rw[B5];simp[h1]
  simp only[wa,↓reduceIte,Nat.reduceEqDiff,Nat.reduceAdd,Nq,Env.ofArgs_at,NQ,vP,e1];simp[cW,h1]
theorem LY(x y:SID):pR false [false,false,false] (.agg [.int .i64 x.frm,.int .i64 x.n,.int .i64 x.copy]) (.agg [.int .i64 y.frm,.int .i64 y.n,.int .i64 y.copy])=some (.bool (decide (x=y))):=by
 have:decide (x=y)=(decide (x.frm=y.frm)&&(decide (x.n=y.n)&&decide (x.copy=y.copy))):=by
  cases x;cases y;simp only[SID.mk.injEq,Bool.decide_and]
 rw[this];have h:∀a b:Int,(a==b)=decide (a=b):=λa b=>by by_cases h:a=b<;>simp[h]
 simp[pR,aH,h]
theorem Ga{m:Nat}(x:bv)(i:SID):aj aK (m+1) 81 [eG x,.lptr (zy i)]=some (.bool (decide (x.id=i)),[]):=by
 refine aq (F:=iU) rfl rfl rfl ?_ (.inr rfl);generalize aj aK m=C;generalize bi aK=V;have h:=LY x.id i;simp only[eG,ig,zy,iU];simp only[wa,↓reduceIte,Nat.reduceEqDiff,Nat.reduceAdd,Nq,Env.ofArgs_at,NQ,h]
theorem Jl{m:Nat}(x y:bv):aj aK (m+5) 74 [eG x,.lptr (ig y)]=some (.bool (!cW x.id y.id),[]):=by
 refine aq (F:=jI) rfl rfl rfl ?_ (.inr rfl);have h:=Fb (m:=m) x.id y.id;generalize aj aK (m+4)=C at*;generalize bi aK=V;simp only[xD,zy]at h;simp only[eG,ig,jI];simp only[wa,↓reduceIte,Nat.reduceEqDiff,Nat.reduceAdd,Nq,Env.ofArgs_at,NQ,h,un]
def f9{α:Type}(p:α->Bool)(l:List α):Int:=match l.findIdx? p with|some k=>(k:Int)|none=> -1
theorem C4{α:Type}{p:α->Bool}{l:List α}{k:Nat}(hk:k<l.length)(hp:∀x,l[k]?=some x->p x=true)(hj:∀j,j<k->∀x,l[j]?=some x->p x=false):f9 p l=k:=by
 have:l.findIdx? p=some k:=by
  rw[List.findIdx?_eq_some_iff_getElem];exact⟨hk,hp _ (Ns hk),λj hj'=>by
   have:=hj j hj' _ (Ns (by omega));simp[this]⟩
 simp[f9,this]
theorem v4{α:Type}{p:α->Bool}{l:List α}(hp:∀k,k<l.length->∀x,l[k]?=some x->p x=false):f9 p l= -1:=by
 have:l.findIdx? p=none:=by
  rw[List.findIdx?_eq_none_iff];intro x hx;obtain⟨k,hk⟩:=List.mem_iff_getElem?.1 hx;exact hp k (List.getElem?_eq_some_iff.1 hk).1 x hk
 simp[f9,this]
theorem AD{m fn:Nat}{caps:List PV}{p:bv->Bool}(l:List bv)(hl:l.length<1000000000)(hC:∀x∈l,aj aK m fn (eG x::caps)=some (.bool (p x),[]))(hV:∀x∈l,bi aK fn [eG x] caps=true):
  aj aK (m+1) 73 [aY l,.fn fn caps]=some (.int .i64 (f9 p l),[]):=by
 refine aq (F:=aT) rfl rfl rfl ?_ (.inr rfl);generalize aj aK m=C at*;generalize bi aK=V at*;have ll:dp (aY l)=some (.int .i64 l.length):=qL;simp only[aT,bU];refine nx (by simp only[wa];rfl) ?_;rw[rU];refine nx (by simp only[wa,↓reduceIte,Env.ofArgs_at,NQ,ll];rfl) ?_;refine v6 (n:=l.length) (by omega) (λk=>(l[k]?).elim false p) (λk=>.int .i64 (k:Nat)) (λ_ e=>e 0=aY l/\e 1=.fn fn caps/\e 7=.int .i64 l.length) (λk e v h=>by simpa using h)
  (λk e hk h hv=>by simp only[X.ev,hv,h.2.2,ac,bin,eA]) (λk e hk ⟨h1,h2,h3⟩ hv=>?_) (λk hk hp hj=>?_) (λhp e h=>?_) ⟨by simp[Env.ofArgs_at],by simp[Env.ofArgs_at],by simp⟩ (by simp)
 ·obtain⟨x,hx',hm⟩:=bo hk;have hi:=qx hx';have hc:=hC x hm;have hv':=hV x hm;simp only[eG,ig]at hc hv' hi;cases hp:p x with
  |true=>
   rw[hp]at hc;refine⟨_,by simp only[wa,↓reduceIte,Nat.reduceEqDiff,reduceCtorEq,Nat.reduceAdd,Nq,h1,h2,hv,hi,hv',OM,NB,hc];rfl,?_⟩;simp[hx',hp]
  |false=>
   rw[hp]at hc;refine⟨_,by simp only[wa,↓reduceIte,Nat.reduceEqDiff,reduceCtorEq,Nat.reduceAdd,Nq,h1,h2,hv,hi,hv',OM,NB,hc];rfl,?_⟩;simp[hx',hp,h1,h2,h3,hv]
 ·rw[C4 hk (λx hx=>by rw[hx]at hp;exact hp) λj hj' x hx=>by have:=hj j hj';rw[hx]at this;exact this]
 ·rw[v4 λk hk x hx=>by have:=hp k hk;rw[hx]at this;exact this];simp only[wa,↓reduceIte]
def ii(l:List bv)(i:SID):Int:=f9 (λx=>decide (x.id=i)) l
theorem Es{m:Nat}(l:List bv)(hl:l.length<1000000000)(i:SID):aj aK (m+3) 39 [aY l,xD i]=some (.int .i64 (ii l i),[]):=by
 refine aq (F:=kM) rfl rfl rfl ?_ (.inr rfl);have h:=AD (m:=m+1) (fn:=81) (caps:=[.lptr (zy i)]) (p:=λx=>decide (x.id=i)) l hl (λx _=>Ga x i) (λx _=>rfl);generalize aj aK (m+2)=C at*;generalize bi aK=V;simp only[zy]at h;have hm:Hm 81 (.tup [.lptr [.int .i64 i.frm,.int .i64 i.n,.int .i64 i.copy]])=some (.fn 81 [.lptr [.int .i64 i.frm,.int .i64 i.n,.int .i64 i.copy]]):=rfl;simp only[xD,zy,kM];simp only[wa,↓reduceIte,reduceCtorEq,Nat.reduceAdd,Nq,Env.ofArgs_at,NQ,hm,h];rfl
theorem sX:∀l:List Int,bO 1 (l.map λn=>PV.int .i64 n)=true
 |[]=>rfl
 |x::l=>by simp only[N5,bO,PV.cells,NW,N9,Nq,Om,sX l]
theorem Br{m:Nat}(l:List Int)(hl:l.length<1000000000):aj aK (m+1) 105 [eI l]=some (eI l,[]):=by
 refine vH (F:=pL) rfl rfl rfl ?_ rfl (.inr ?_)
 ·generalize aj aK m=C;generalize bi aK=V;have ha:jl 1 (.lst [] false) (eI l)=some (eI l):=by
   simp only[eI,jl];rw[Nt ⟨sX l,by simp[bB];omega⟩];rfl
  simp only[pL];simp only[wa,↓reduceIte,Env.ofArgs_at,NQ,jm,ha]
 ·simp[eI,qy]
theorem AE{m:Nat}(x:SNote)(hl:x.args.length<1000000000):aj aK (m+2) 99 [jr x]=some (jr x,[]):=by
 refine aq (F:=fR) rfl rfl rfl ?_ (.inl rfl);have h:=Br (m:=m) x.args hl;generalize aj aK (m+1)=C at*;generalize bi aK=V;simp only[jr,fR];simp only[wa,↓reduceIte,Nat.reduceEqDiff,Nat.reduceAdd,Nq,Env.ofArgs_at,NQ,h]
theorem HJ{m:Nat}(x:bv)(hl:x.note.args.length<1000000000):aj aK (m+3) 77 [eG x]=some (eG x,[]):=by
 refine aq (F:=mI) rfl rfl rfl ?_ (.inl rfl);have h:=AE (m:=m) x.note hl;generalize aj aK (m+2)=C at*;generalize bi aK=V;simp only[jr]at h;simp only[eG,ig,mI];simp only[wa,↓reduceIte,Nat.reduceEqDiff,Nat.reduceAdd,Nq,Env.ofArgs_at,NQ,h]
def Gu(l:List bv):Prop:=l.length<1000000000/\∀x∈l,x.note.args.length<1000000000
theorem yF:∀l:List bv,bO 6 (l.map eG)=true
 |[]=>rfl
 |x::l=>by simp only[N5,bO,z0,ig,NW,N9,Nat.reduceAdd,Nq,Om,yF l]
theorem AY{a b:List bv}(h:a.length+b.length<2147483648):jl 6 (aY a) (aY b)=some (aY (a++b)):=by
 simp only[aY,jl];rw[Nt ⟨yF b,by simp only[Ob];exact h⟩,OO]
theorem Jc{m:Nat}(l:List bv)(hl:Gu l):aj aK (m+4) 44 [aY l]=some (aY l,[]):=by
 refine aq (F:=kP) rfl rfl rfl ?_ (.inl rfl);have ho:=λx(hx:x∈l)=>HJ (m:=m) x (hl.2 x hx);generalize aj aK (m+3)=C at*;generalize bi aK=V;have ll:dp (aY l)=some (.int .i64 l.length):=qL;have hl0:=hl.1;simp only[kP,nA];refine nx (by simp only[wa,↓reduceIte];rfl) ?_;rw[rU];refine nx (by simp only[wa,↓reduceIte,reduceCtorEq,Env.ofArgs_at,NQ,ll];rfl) ?_;refine lC (gk (n:=l.length) (by omega) (λk e=>e 5=aY l/\e 6=.int .i64 l.length/\e 2=aY (l.take k)) (λk e v h=>by simpa using h) (λk e h=>h.2.1) (λk e hk ⟨h1,h2,h3⟩ hv=>?_) ⟨by simp[],by simp,by simp[aY]⟩ (by simp)) (λe h=>?_)
 ·obtain⟨x,hx',hm⟩:=bo hk;have hi:=qx hx';have hc:=ho x hm;have ha:=AY (a:=l.take k) (b:=[x]) (by simp;omega);simp only[eG,ig]at hc hi;simp only[aY,N5,Pd,eG,ig]at ha h3;refine⟨_,by simp only[wa,↓reduceIte,Nat.reduceEqDiff,Nat.reduceAdd,Nq,h1,h3,hv,hi,hc,ha];rfl,?_,by simp[hv]⟩;rw[eY hx'];simp[h1,h2,aY,eG,ig]
 ·refine nx (by simp only[wa];rfl) ?_;simp only[wa,h.2.2];rw[OX]
theorem BH(x y:Int):a9 .eql .i64 x .i64 y=some (.bool (decide (x=y))):=by
 by_cases h:x=y<;>simp[a9,h]
def Fv(l:List bv)(w:Int):Nat:=l.countP λx=>decide (x.note.to=w)
theorem ID(l:List bv)(w:Int):Fv l w<=l.length:=List.countP_le_length
theorem Fe(l:List bv)(x:bv)(w:Int):Fv (l++[x]) w=Fv l w+if x.note.to=w then 1 else 0:=by
 simp[Fv,List.countP_append,List.countP_cons]
theorem MV{m:Nat}(l:List bv)(hl:l.length<1000000000)(w:Int):aj aK (m+1) 41 [aY l,.int .i64 w]=some (.int .i64 (Fv l w:Nat),[]):=by
 refine aq (F:=oC) rfl rfl rfl ?_ (.inr rfl);generalize aj aK m=C;generalize bi aK=V;have ll:dp (aY l)=some (.int .i64 l.length):=qL;simp only[oC,pZ];refine nx (by simp only[wa,↓reduceIte];rfl) ?_;rw[rU];refine nx (by simp only[wa,↓reduceIte,reduceCtorEq,Env.ofArgs_at,NQ,ll];rfl) ?_;refine lC (gk (n:=l.length) (by omega) (λk e=>e 7=aY l/\e 8=.int .i64 l.length/\e 1=.int .i64 w/\e 4=.int .i64 (Fv (l.take k) w:Nat)) (λk e v h=>by simpa using h) (λk e h=>h.2.1) (λk e hk ⟨h1,h2,h3,h4⟩ hv=>?_) ⟨by simp[],by simp,by simp[Env.ofArgs_at],by simp[Fv]⟩ (by simp)) (λe h=>?_)
 ·obtain⟨x,hx',hm⟩:=bo hk;have hi:=qx hx';simp only[ig]at hi;have hle:=ID (l.take k) w;have hlt:(l.take k).length<=k:=by simp;omega
  have ha:=ey (k:=Fv (l.take k) w) (by omega);rw[eY hx',Fe];by_cases hp:x.note.to=w
  ·have he:a9 .eql .i64 x.note.to .i64 w=some (.bool true):=by rw[BH,Oh hp]
   refine⟨_,by simp only[wa,↓reduceIte,Nat.reduceEqDiff,Nat.reduceAdd,Nq,h1,h3,h4,hv,hi,he,ha];rfl,?_,by simp[hv]⟩;simp[h1,h2,h3,hp]
  ·have he:a9 .eql .i64 x.note.to .i64 w=some (.bool false):=by rw[BH,N3 hp]
   refine⟨_,by simp only[wa,↓reduceIte,Nat.reduceEqDiff,Nat.reduceAdd,Nq,h1,h3,hv,hi,he];rfl,?_,by simp[hv]⟩;simp[h1,h2,h3,h4,hp]
 ·refine nx (by simp only[wa];rfl) ?_;simp only[wa,h.2.2.2];rw[OX]
theorem ff:(false==true)=false:=rfl
theorem tf:(true==false)=false:=rfl
theorem tt:(false==false)=true:=rfl
theorem LI(x y:SID):pR true [false,false,false] (.agg [.int .i64 x.frm,.int .i64 x.n,.int .i64 x.copy]) (.agg [.int .i64 y.frm,.int .i64 y.n,.int .i64 y.copy])=some (.bool (!decide (x=y))):=by
 have:decide (x=y)=(decide (x.frm=y.frm)&&(decide (x.n=y.n)&&decide (x.copy=y.copy))):=by
  cases x;cases y;simp only[SID.mk.injEq,Bool.decide_and]
 rw[this];have h:∀a b:Int,(a==b)=decide (a=b):=λa b=>by by_cases h:a=b<;>simp[h]
 simp[pR,aH,h]
theorem DT(l:List Int):aM (eI l)=eI l:=by
 have:∀l:List Int,az (l.map λn=>PV.int .i64 n)=l.map λn=>PV.int .i64 n:=by
  intro l;induction l with
  |nil=>rfl
  |cons x l ih=>simp only[N5,az,aM,ih]
 simp only[eI,aM,this]
theorem A1:∀l:List bv,az (l.map eG)=l.map eG
 |[]=>rfl
 |x::l=>by
  have h:=DT x.note.args;simp only[N5,az,A1 l,eG,ig,aM,h]
theorem En(l:List bv):aM (.lst (l.map eG) false)=aY l:=by simp only[aM,A1,aY]
theorem yd(l:List bv):kz (l.map eG) 6=true:=by cases l<;>rfl
theorem Fk{l:List bv}{k:Nat}(h:k<=l.length):dK 6 (aY l) (.tup []) (.int .i64 (k:Nat)) (.tup [])=some (aY (l.take k)):=by
 rw[<-En (l.take k)];simp[aY,dK,kE,cA,aG,nM,yd,h,List.map_take]
theorem Er{l:List bv}{k:Nat}(h:k<=l.length):dK 6 (aY l) (.int .i64 (k:Nat)) (.tup []) (.tup [])=some (aY (l.drop k)):=by
 rw[<-En (l.drop k)];simp[aY,dK,kE,cA,aG,nM,yd,h,List.map_drop];rw[OG (by simp)]
theorem Lo{m:Nat}(l:List bv)(hl:l.length<1000000000){k:Nat}(hk:k<=l.length)(x:bv):aj aK (m+1) 76 [aY l,.int .i64 (k:Nat),aY [x]]=some (aY (l.take k++[x]++l.drop k),[]):=by
 refine aq (F:=yR) rfl rfl rfl ?_ (.inl rfl);generalize aj aK m=C;generalize bi aK=V;have h1:=Fk hk;have h2:=Er hk;have h3:=AY (a:=l.take k) (b:=[x]) (by simp;omega);have h4:=AY (a:=l.take k++[x]) (b:=l.drop k) (by simp;omega);have hp:(EH (aY [x])).isSome=true:=rfl;have hb:(a9 .eql .i64 (k:Nat) .i64 0).isSome=true:=rfl;simp only[yR];simp only[wa,↓reduceIte,Env.ofArgs_at,NQ,h1,h2,h3,h4,hp,hb,NZ]
def Fz(l:List bv)(m:bv):Nat:=match l.findIdx? (λx=> !cW x.id m.id)with|some k=>k|none=>l.length
theorem El(l:List bv)(m:bv):Fz l m<=l.length:=by
 unfold Fz;split
 ·rename_i k hk;rw[List.findIdx?_eq_some_iff_getElem]at hk;obtain⟨h,_⟩:=hk;omega
 ·exact Ny _
def zO(l:List bv)(m:bv):List bv:=l.take (Fz l m)++[m]++l.drop (Fz l m)
def xl(l:List bv)(m:bv):PV:=if ii l m.id<0 then .tup [aY (zO l m),.int .i64 0]else .tup [aY [],.int .i64 1]
theorem FK(x:Int):a9 .geq .i64 x .i64 0=some (.bool (!decide (x<0))):=by
 simp only[a9,ne_eq,OB,Oc];by_cases h:x<0
 ·simp[h]
 ·simp[h];omega
theorem KM{m:Nat}(l:List bv)(hl:Gu l)(x:bv)(hx:x.note.args.length<1000000000):aj aK (m+7) 32 [aY l,eG x]=some (xl l x,[]):=by
 refine aq (F:=mO) rfl rfl rfl ?_ (.inl rfl);have hl0:=hl.1;have hf:=Es (m:=m+3) l hl0 x.id;have hi:=AD (m:=m+5) (fn:=74) (caps:=[.lptr (ig x)]) (p:=λy=> !cW y.id x.id) l hl0 (λy _=>Jl y x) (λy _=>rfl);have hc:=Jc (m:=m+2) l hl;have ho:=HJ (m:=m+3) x hx;have hn:=Lo (m:=m+5) l hl0 (El l x) x;have ll:dp (aY l)=some (.int .i64 l.length):=qL;generalize aj aK (m+6)=C at*;generalize bi aK=V;have hm:Hm 74 (.tup [.lptr [.int .i64 x.id.frm,.int .i64 x.id.n,.int .i64 x.id.copy,.int .i64 x.note.to,.int .i64 x.note.handler,eI x.note.args]])=some (.fn 74 [.lptr [.int .i64 x.id.frm,.int .i64 x.id.n,.int .i64 x.id.copy,.int .i64 x.note.to,.int .i64 x.note.handler,eI x.note.args]]):=rfl;simp only[xD,zy]at hf;simp only[ig]at hi;simp only[eG,ig]at ho;have hn':C 76 [aY l,.int .i64 (Fz l x:Nat),.lst [.agg [.int .i64 x.id.frm,.int .i64 x.id.n,.int .i64 x.id.copy,.int .i64 x.note.to,.int .i64 x.note.handler,eI x.note.args]] false]=some (aY (zO l x),[]):=hn;have e0:aY []=.lst [] false:=rfl;simp only[xl,eG,ig,mO];by_cases h0:ii l x.id<0
 ·have g0:a9 .geq .i64 (ii l x.id) .i64 0=some (.bool false):=by rw[FK];simp[h0]
  rw[Nt h0];cases hq:l.findIdx? (λy=> !cW y.id x.id)with
  |some k=>
   have e1:f9 (λy:bv=> !cW y.id x.id) l=(k:Int):=by simp[f9,hq]
   have e2:Fz l x=k:=by simp[Fz,hq]
   rw[e1]at hi;rw[e2]at hn';have g1:a9 .lss .i64 (k:Int) .i64 0=some (.bool false):=by rw[vP,N3 (by omega)]
   simp only[wa,↓reduceIte,Nat.reduceEqDiff,reduceCtorEq,Nat.reduceAdd,Nq,Env.ofArgs_at,NQ,hf,g0,hm,hi,g1,hc,ho,hn']
  |none=>
   have e1:f9 (λy:bv=> !cW y.id x.id) l= -1:=by simp[f9,hq]
   have e2:Fz l x=l.length:=by simp[Fz,hq]
   rw[e1]at hi;rw[e2]at hn';have g1:a9 .lss .i64 (-1) .i64 0=some (.bool true):=rfl;simp only[wa,↓reduceIte,Nat.reduceEqDiff,reduceCtorEq,Nat.reduceAdd,Nq,Env.ofArgs_at,NQ,hf,g0,hm,hi,g1,ll,hc,ho,hn']
 ·have g0:a9 .geq .i64 (ii l x.id) .i64 0=some (.bool true):=by rw[FK];simp[h0]
  rw[Nw h0,e0];simp only[wa,↓reduceIte,Nat.reduceEqDiff,reduceCtorEq,Nat.reduceAdd,Nq,Env.ofArgs_at,NQ,hf,g0]
end Gv
namespace Gv
open Go
theorem kk{C:bT}{V:Nat->List PV->List PV->Bool}{HD BD:VC}{b n:Nat}(hn:n<1099511627775)(St:Nat->Env->Prop)(Q:Env->Prop)
  (hgo:∀k env,k<n->St k env->∃e1 e2,aI C V HD env=some (.norm e1)/\aI C V BD e1=some (.norm e2)/\St (k+1) e2)
  (hend:∀env,St n env->∃e,aI C V HD env=some (.exit b e)/\Q e){env:Env}(h0:St 0 env):
  ∃e,aI C V (.block b (.loop (.seq HD BD))) env=some (.norm e)/\Q e:=by
 have key:∀(d k j:Nat)(env:Env),k+d=n->St k env->∃e,dv (aI C V (.seq HD BD)) (d+1+j) env=some (.exit b e)/\Q e:=by
  intro d;induction d with
  |zero=>
   intro k j env hk hs;obtain rfl:k=n:=by omega
   obtain⟨e,h1,h2⟩:=hend env hs;refine⟨e,?_,h2⟩;rw[show 0+1+j=j+1 by omega];simp only[dv,aI,h1]
  |succ d ih=>
   intro k j env hk hs;obtain⟨e1,e2,h1,h2,h3⟩:=hgo k env (by omega) hs;obtain⟨e,h4,h5⟩:=ih (k+1) j e2 (by omega) h3;refine⟨e,?_,h5⟩;rw[show d+1+1+j=(d+1+j)+1 by omega];simp only[dv,aI,h1,h2];exact h4
 obtain⟨e,h1,h2⟩:=key n 0 (1099511627775-n) env (by omega) h0;refine⟨e,iA ?_,h2⟩;simp only[aI];rw[show n+1+(1099511627775-n)=yV by rw[ou];omega]at h1;exact h1
theorem EQ{C:bT}{V:Nat->List PV->List PV->Bool}{HD BD:VC}{b n k0:Nat}(hn:n<1099511627775)(hk0:k0<=n)(p:Nat->Bool)(R:PV)(St:Nat->Env->Prop)(Q:Env->Prop)
  (hgo:∀k env,k0<=k->k<n->p k=true->St k env->∃e1 e2,aI C V HD env=some (.norm e1)/\aI C V BD e1=some (.norm e2)/\St (k+1) e2)
  (hret:∀k env,k0<=k->k<n->p k=false->St k env->∃e1,aI C V HD env=some (.norm e1)/\aI C V BD e1=some (.ret R []))
  (hend:∀env,St n env->∃e,aI C V HD env=some (.exit b e)/\Q e){env:Env}(h0:St k0 env):
  ((∀k,k0<=k->k<n->p k=true)/\∃e,aI C V (.block b (.loop (.seq HD BD))) env=some (.norm e)/\Q e)∨((∃k,k0<=k/\k<n/\p k=false)/\aI C V (.block b (.loop (.seq HD BD))) env=some (.ret R [])):=by
 have key:∀(d k j:Nat)(env:Env),k+d=n->k0<=k->St k env->((∀i,k<=i->i<n->p i=true)/\∃e,dv (aI C V (.seq HD BD)) (d+1+j) env=some (.exit b e)/\Q e)∨((∃i,k<=i/\i<n/\p i=false)/\dv (aI C V (.seq HD BD)) (d+1+j) env=some (.ret R [])):=by
  intro d;induction d with
  |zero=>
   intro k j env hk hkk hs;obtain rfl:k=n:=by omega
   obtain⟨e,h1,h2⟩:=hend env hs;refine .inl ⟨λi hi hi'=>by omega,e,?_,h2⟩;rw[show 0+1+j=j+1 by omega];simp only[dv,aI,h1]
  | succ d ih=>
   intro k j env hk hkk hs;rw[show d+1+1+j=(d+1+j)+1 by omega];cases hp:p k with
   | true=>
    obtain⟨e1,e2,h1,h2,h3⟩:=hgo k env hkk (by omega) hp hs;rcases ih (k+1) j e2 (by omega) (by omega) h3 with⟨a,e,h4,h5⟩|⟨⟨i,a1,a2,a3⟩,h4⟩
    ·refine .inl ⟨λi hi hi'=>?_,e,?_,h5⟩
     ·rcases NI k i with h|h
      ·exact a i (by omega) hi'
      ·obtain rfl:i=k:=by omega
       exact hp
     ·simp only[dv,aI,h1,h2];exact h4
    ·refine .inr ⟨⟨i,by omega,a2,a3⟩,?_⟩;simp only[dv,aI,h1,h2];exact h4
   |false=>
    obtain⟨e1,h1,h2⟩:=hret k env hkk (by omega) hp hs;refine .inr ⟨⟨k,Ny _,by omega,hp⟩,?_⟩;simp only[dv,aI,h1,h2]
 have hb:n-k0+1+(1099511627775-(n-k0))=yV:=by rw[ou];omega
 rcases key (n-k0) k0 (1099511627775-(n-k0)) env (by omega) (Ny _) h0 with⟨a,e,h1,h2⟩|⟨a,h1⟩
 ·refine .inl ⟨a,e,iA ?_,h2⟩;rw[hb]at h1;simp only[aI];exact h1
 ·refine .inr ⟨a,aU ?_⟩;rw[hb]at h1;simp only[aI];exact h1
theorem FM{C:bT}{V:Nat->List PV->List PV->Bool}{HD BD K:VC}{b n k0:Nat}{X0:Option sE}(hn:n<1099511627775)(hk0:k0<=n)(p:Nat->Bool)(R:PV)(St:Nat->Env->Prop)(Q:Env->Prop)
  (hgo:∀k env,k0<=k->k<n->p k=true->St k env->∃e1 e2,aI C V HD env=some (.norm e1)/\aI C V BD e1=some (.norm e2)/\St (k+1) e2)
  (hret:∀k env,k0<=k->k<n->p k=false->St k env->∃e1,aI C V HD env=some (.norm e1)/\aI C V BD e1=some (.ret R []))
  (hend:∀env,St n env->∃e,aI C V HD env=some (.exit b e)/\Q e)
  (hk:(∀k,k0<=k->k<n->p k=true)->∀e,Q e->aI C V K e=X0)(hr:∀k,k0<=k->k<n->p k=false->X0=some (.ret R [])){env:Env}(h0:St k0 env):
  aI C V (.seq (.block b (.loop (.seq HD BD))) K) env=X0:=by
 rcases EQ (C:=C) (V:=V) hn hk0 p R St Q hgo hret hend h0 with⟨a,e,h1,h2⟩|⟨⟨k,a1,a2,a3⟩,h1⟩
 ·exact nx h1 (hk a e h2)
 ·rw[an h1,hr k a1 a2 a3]
def mN(l:List bv)(k:Nat):Bool:=match l[k]?,l[k+1]? with|some x,some y=>cW x.id y.id|_,_=>true
def gZ(l:List bv):Bool:=decide (∀k,k<l.length->mN l k=true)
theorem oI{k:Nat}(h0:1<=k)(h:k<4611686018427387903):a9 .sub .i64 (k:Int) .i64 1=some (.int .i64 ((k-1:Nat):Int)):=by
 have e:IntKind.i64.wrap ((k:Int)-1)=((k-1:Nat):Int):=(qK (by omega) (by omega)).trans (by omega);simp only[a9,ne_eq,OB,Oc,e]
theorem zk{l:List bv}{k:Nat}(h0:1<=k)(hk:k<l.length):∃x y,l[k-1]?=some x/\l[k]?=some y/\mN l (k-1)=cW x.id y.id:=by
 have h1:k-1<l.length:=by omega
 refine⟨l[k-1],l[k],Ns h1,Ns hk,?_⟩;unfold mN;rw[show k-1+1=k by omega,Ns h1,Ns hk]
theorem zZ{l:List bv}{n:Nat}(hn:l.length<=n)(h:∀k,1<=k->k<n->mN l (k-1)=true):gZ l=true:=Oh λk hk=>by
 by_cases hk1:k+1<l.length
 ·have:=h (k+1) (by omega) (by omega);simpa using this
 ·have:l[k+1]?=none:=NA (by omega);unfold mN;rw[this];cases l[k]?<;>rfl
theorem Dk{l:List bv}{k:Nat}(h0:1<=k)(hk:k<l.length)(h:mN l (k-1)=false):gZ l=false:=N3 λh'=>by
 have:=h' (k-1) (by omega);rw[this]at h;cases h
theorem za{C:bT}{V:Nat->List PV->List PV->Bool}{c:X}{BODY K:VC}{vi b n k0:Nat}{X0:Option sE}(hn:n<1099511627775)(hk0:k0<=n)(p:Nat->Bool)(R:PV)(St:Nat->Env->Prop)(Q:Env->Prop)
  (hgo:∀k env,k0<=k->k<n->p k=true->St k env->∃e1 e2,aI C V (GJ c b) env=some (.norm e1)/\aI C V (.seq BODY (tN vi)) e1=some (.norm e2)/\St (k+1) e2)
  (hret:∀k env,k0<=k->k<n->p k=false->St k env->∃e1,aI C V (GJ c b) env=some (.norm e1)/\aI C V (.seq BODY (tN vi)) e1=some (.ret R []))
  (hend:∀env,St n env->∃e,aI C V (GJ c b) env=some (.exit b e)/\Q e)
  (hk:(∀k,k0<=k->k<n->p k=true)->∀e,Q e->aI C V K e=X0)(hr:∀k,k0<=k->k<n->p k=false->X0=some (.ret R [])){env:Env}(h0:St k0 env):
  aI C V (.seq (.block b (.loop (.seq (.st [.asg [c] []]) (.seq (.cond c .skip (.exit b)) (.seq BODY (tN vi)))))) K) env=X0:=by
 have:=FM (C:=C) (V:=V) (K:=K) hn hk0 p R St Q hgo hret hend hk hr h0;rw[<-this,aI.eq_def,aI.eq_def C V (.seq _ K)];simp only;rw[Gi]
theorem Dv{m:Nat}(l:List bv)(hl:l.length<1000000000):aj aK (m+5) 37 [aY l]=some (.bool (gZ l),[]):=by
 refine aq (F:=iM) rfl rfl rfl ?_ (.inr rfl);have hle:=λx y:bv=>Fb (m:=m) x.id y.id;generalize aj aK (m+4)=C at*;generalize bi aK=V;have ll:dp (aY l)=some (.int .i64 l.length):=qL;simp only[xD,zy]at hle;simp only[iM,lP];refine nx (by simp only[wa];rfl) ?_;rw[rU];refine nx (by simp only[wa,↓reduceIte,Env.ofArgs_at,NQ,ll];rfl) ?_;have g0:a9 .gtr .i64 ((0:Nat):Int) .i64 0=some (.bool false):=rfl;have g1:∀k:Nat,1<=k->a9 .gtr .i64 (k:Int) .i64 0=some (.bool true):=λk hk=>by simp[a9];omega
 have a0:=ey (k:=0) (by omega);refine za (n:=l.length) (k0:=0) (by omega) (by omega) (λk=>decide (k=0)||mN l (k-1)) (.bool false) (λk e=>e 0=aY l/\e 5=.int .i64 l.length/\e 6=.int .i64 (k:Nat)) (λ_=>True)
  (λk e hk hkn hp ⟨h1,h2,h3⟩=>?_) (λk e hk hkn hp ⟨h1,h2,h3⟩=>?_) (λe ⟨h1,h2,h3⟩=>?_) (λa e _=>?_) (λk a1 a2 a3=>?_) ⟨by simp[Env.ofArgs_at],by simp,by simp⟩
 ·have hb:a9 .lss .i64 (k:Int) .i64 (l.length:Int)=some (.bool true):=by rw[eA,Oh (by omega)]
  by_cases hk0:k=0
  ·subst hk0;refine⟨_,_,oU (n:=l.length) (k:=0) (by simp only[X.ev,h3,h2,ac,bin,eA])|>.trans (by rw[Nt hkn]),by simp only[wa,↓reduceIte,Nat.reduceEqDiff,reduceCtorEq,Nat.reduceAdd,h1,h3,g0,ff,a0];rfl,?_⟩;simp[h1,h2]
  ·simp only[N3 hk0,O0]at hp;obtain⟨x,y,hx,hy,hr⟩:=zk (show 1<=k by omega) hkn;rw[hr]at hp;have ix:=qx hx;have iy:=qx hy;have hc:=hle x y;rw[hp]at hc;have hs:=oI (show 1<=k by omega) (by omega);have ha:=ey (k:=k) (by omega);have hg:=g1 k (by omega);simp only[ig]at ix iy;refine⟨_,_,oU (n:=l.length) (k:=k) (by simp only[X.ev,h3,h2,ac,bin,eA])|>.trans (by rw[Nt hkn]),by simp only[wa,↓reduceIte,Nat.reduceEqDiff,reduceCtorEq,Nat.reduceAdd,Nat.reduceLeDiff,Nq,h1,h3,hg,hs,ix,iy,hc,un,Pk,ha];rfl,?_⟩;simp[h1,h2]
 ·have hk0:k≠0:=λh=>by simp[h]at hp
  simp only[N3 hk0,O0]at hp;obtain⟨x,y,hx,hy,hr⟩:=zk (show 1<=k by omega) hkn;rw[hr]at hp;have ix:=qx hx;have iy:=qx hy;have hc:=hle x y;rw[hp]at hc;have hs:=oI (show 1<=k by omega) (by omega);have hg:=g1 k (by omega);simp only[ig]at ix iy;exact⟨_,oU (n:=l.length) (k:=k) (by simp only[X.ev,h3,h2,ac,bin,eA])|>.trans (by rw[Nt hkn]),by simp only[wa,↓reduceIte,Nat.reduceEqDiff,reduceCtorEq,Nat.reduceAdd,Nat.reduceLeDiff,Nq,h1,h3,hg,hs,ix,iy,hc,un,Bool.not_false]⟩
 ·exact⟨_,oU (n:=l.length) (k:=l.length) (by simp only[X.ev,h3,h2,ac,bin,eA])|>.trans (by rw[Nw (Nat.lt_irrefl _)]),trivial⟩
 ·rw[zZ (n:=l.length) (Ny _) λk h1 h2=>by
   have:=a k (OF _) h2;simpa[show k≠0 by omega]using this]
  simp only[wa,↓reduceIte]
 ·have hk0:k≠0:=λh=>by simp[h]at a3
  simp only[N3 hk0,O0]at a3;rw[Dk (by omega) a2 a3]
end Gv
namespace Gv
open Go
theorem yq{l:List bv}{i:SID}(h:¬ii l i<0):∃(k:Nat)(x:bv),ii l i=k/\l.findIdx? (λx=>decide (x.id=i))=some k/\l[k]?=some x/\x.id=i:=by
 unfold ii f9 at h⊢;split at h
 ·rename_i k hk;have hk':=hk;rw[List.findIdx?_eq_some_iff_getElem]at hk;obtain⟨h1,h2,_⟩:=hk;exact⟨k,l[k],rfl,hk',Ns h1,OJ h2⟩
 ·omega
theorem GF{l:List bv}{m x:bv}:x∈zO l m↔x=m∨x∈l:=by
 simp only[zO,OT,NJ];constructor
 ·rintro ((h|h)|h)
  ·exact .inr (OE h)
  ·exact .inl h
  ·exact .inr (OD h)
 ·rintro (h|h)
  ·exact .inl (.inr h)
  ·rw[<-Pf (Fz l m) l]at h;rcases List.mem_append.1 h with h|h
   ·exact .inl (.inl h)
   ·exact .inr h
theorem BP(l:List bv)(m:bv):(zO l m).length=l.length+1:=by
 have:=El l m;simp only[zO,NR,NP,Oj,NW,N9];omega
structure MN (now inn:List bv):Prop where
 len:now.length=inn.length
 mem:∀x,x∈now↔x∈inn
 few:∀x∈inn,x.note.args.length<=6
def Mc(k:Nat):bv:=⟨⟨(k %3:Nat),(k/3:Nat),0⟩,⟨(k %2:Nat),0,[(k:Int)]⟩⟩
structure Me (now:List bv) (ins:List Bool) (b:Nat):Prop where
 len:ins.length=30
 mem:∀x,x∈now↔∃k,k<b/\ins[k]?=some true/\x=Mc k
end Gv
