/- A part of the proof that the law is true of all its inputs, by an interpreter that is proved sound. -/
import Derived.Test.YtfaeljmkbadgdaaGreatEc
import Derived.Test.YtfaeljmkbadgdaaGreatVc
import Derived.Test.YtfaeljmkbadgdaaGreatVw
import Derived.KernelRfl
namespace Gv
open Go
def nb:Nat->Nat->List Nat
 |0,_=>[]
 |k+1,u=>if 128<=u then(u %128+128)::nb k (u/128)else[u]
def zz(n:Int):Nat:=if 0<=n then(2*n).toNat else(-2*n-1).toNat
theorem sA{x:Int}(h1: -9223372036854775808<=x)(h2:x<=9223372036854775807):IntKind.i64.wrap x=x:=by
 rw[IntKind.wrap_i64];omega
def Kp(l:List Nat):List PV:=l.map λ(n:Nat)=>PV.int .u8 (n:Int)
def eU(n:Int):List Nat:=nb 10 (zz n)
def val:List Nat->Nat
 |[]=>0
 |c::cs=>c %128+128*val cs
structure SInstr where
  op:Int
  a:Int
  deriving DecidableEq
structure SHandler where
  args:Int
  code:List SInstr
  deriving DecidableEq
structure SActor where
  regs:List Int
  cap:Int
  timer:Int
  armed:Bool
  deriving DecidableEq
structure SNote where
  to:Int
  handler:Int
  args:List Int
  deriving DecidableEq
structure SProg where
  handlers:List SHandler
  actors:List SActor
  boot:List SNote
  fuel:Int
  deriving DecidableEq
structure SBudget where
  drop:Int
  dup:Int
  time:Int
  crash:Int
  deriving DecidableEq
structure SLimits where
  depth:Int
  runs:Int
  deriving DecidableEq
structure STask where
  prog:SProg
  watch:List (List SInstr)
  budget:SBudget
  limits:SLimits
  deriving DecidableEq
structure SID where
  frm:Int
  n:Int
  copy:Int
  deriving DecidableEq
structure SEvent where
  kind:Int
  id:SID
  who:Int
  deriving DecidableEq
def uj(n:Int):Prop:= -9223372036854775808<=n/\n<=9223372036854775807
def SInstr.ok(i:SInstr):Prop:=uj i.op/\uj i.a
def SHandler.ok(h:SHandler):Prop:=uj h.args/\∀i∈h.code,i.ok
def SActor.ok(a:SActor):Prop:=(∀n∈a.regs,uj n)/\uj a.cap/\uj a.timer
def SNote.ok(n:SNote):Prop:=uj n.to/\uj n.handler/\∀x∈n.args,uj x
def SProg.ok(p:SProg):Prop:=(∀h∈p.handlers,h.ok)/\(∀a∈p.actors,a.ok)/\(∀n∈p.boot,n.ok)/\uj p.fuel
def SBudget.ok(b:SBudget):Prop:=uj b.drop/\uj b.dup/\uj b.time/\uj b.crash
def SLimits.ok(c:SLimits):Prop:=uj c.depth/\uj c.runs
def STask.ok(t:STask):Prop:=t.prog.ok/\(∀w∈t.watch,∀i∈w,i.ok)/\t.budget.ok/\t.limits.ok
def SID.ok(i:SID):Prop:=uj i.frm/\uj i.n/\uj i.copy
def SEvent.ok(e:SEvent):Prop:=uj e.kind/\e.id.ok/\uj e.who
def eB(l:List Nat):PV:=.lst (Kp l) false
def eI(l:List Int):PV:=.lst (l.map λn=>.int .i64 n) false
def iG(i:SInstr):PV:=.agg [.int .i64 i.op,.int .i64 i.a]
def cM(l:List SInstr):PV:=.lst (l.map iG) false
def cN(h:SHandler):PV:=.agg [.int .i64 h.args,cM h.code]
def iq(a:SActor):PV:=.agg [eI a.regs,.int .i64 a.cap,.int .i64 a.timer,.bool a.armed]
def jX(n:SNote):PV:=.agg [.int .i64 n.to,.int .i64 n.handler,eI n.args]
def AB(p:SProg):List PV:=[.lst (p.handlers.map cN) false,.lst (p.actors.map iq) false,.lst (p.boot.map jX) false,.int .i64 p.fuel]
def aE(b:SBudget):List PV:=[.int .i64 b.drop,.int .i64 b.dup,.int .i64 b.time,.int .i64 b.crash]
def Hz(c:SLimits):List PV:=[.int .i64 c.depth,.int .i64 c.runs]
def OQ(t:STask):List PV:=AB t.prog++[.lst (t.watch.map cM) false]++aE t.budget++Hz t.limits
def A2(i:SID):List PV:=[.int .i64 i.frm,.int .i64 i.n,.int .i64 i.copy]
def dC(e:SEvent):List PV:=[.int .i64 e.kind,.int .i64 e.id.frm,.int .i64 e.id.n,.int .i64 e.id.copy,.int .i64 e.who]
def ba(e:SEvent):PV:=.agg (dC e)
def aH(l:List SEvent):PV:=.lst (l.map ba) false
def N7(l:List Int):List Nat:=l.flatMap eU
def Fz(l:List Int):List Nat:=eU l.length++N7 l
def HV(i:SInstr):List Nat:=eU i.op++eU i.a
def ET(l:List SInstr):List Nat:=eU l.length++l.flatMap HV
def D4(h:SHandler):List Nat:=eU h.args++ET h.code
def Ny(b:Bool):Int:=if b then 1 else 0
def Hg(a:SActor):List Nat:=Fz a.regs++(eU a.cap++eU a.timer++eU (Ny a.armed))
def JP(n:SNote):List Nat:=eU n.to++eU n.handler++Fz n.args
def Kl(p:SProg):List Nat:=eU p.handlers.length++p.handlers.flatMap D4++(eU p.actors.length++p.actors.flatMap Hg)++(eU p.boot.length++p.boot.flatMap JP)++eU p.fuel
def Kr:List Nat:=[71,65,86,49]
def OI(t:STask):List Nat:=Kr++Kl t.prog++(eU t.watch.length++t.watch.flatMap ET)++N7 [t.budget.drop,t.budget.dup,t.budget.time,t.budget.crash,t.limits.depth,t.limits.runs]
def HQ(e:SEvent):List Nat:=N7 [e.kind,e.id.frm,e.id.n,e.id.copy,e.who]
def Oi(l:List SEvent):List Nat:=eU l.length++l.flatMap HQ
variable{C:bK}{V:Nat->List PV->List PV->Bool}
theorem xh(a b c:VC)(env:Env):aF C V (.seq a (.seq b c)) env=aF C V (.seq (.seq a b) c) env:=by
 simp only[aF];cases aF C V a env with
 |none=>rfl
 |some r=>cases r<;>rfl
theorem tC{f g:Env->Option ti}(h:∀env,f env=g env):∀(n:Nat)(env:Env),dS f n env=dS g n env
 |0,_=>rfl
 |n+1,env=>by
  simp only[dS,h];cases g env with
  |none=>rfl
  |some r=>cases r<;>first|exact tC h n _|rfl
theorem vQ(a b c:VC)(env:Env):aF C V (.loop (.seq a (.seq b c))) env=aF C V (.loop (.seq (.seq a b) c)) env:=by
 simp only[aF];exact tC (λe=>xh a b c e) _ _
theorem Hd{k:Nat}(h:k<4611686018427387904):IntKind.i64.wrap (k:Int)=k:=sA (x:=(k:Int)) (by omega) (by omega)
theorem bV{k:Nat}(h:k<4611686018427387903):aY .add .i64 (k:Int) .i64 1=some (.int .i64 ((k+1:Nat):Int)):=by
 simp only[aY];rw[Pd (by decide),show((k:Int)+1)=((k+1:Nat):Int)from rfl,Hd (k:=k+1) (by omega)]
theorem cK(k n:Nat):aY .lss .i64 (k:Int) .i64 (n:Int)=some (.bool (decide (k<n))):=by simp[aY]
theorem pR:zq=1099511627776:=rfl
theorem v7{H BODY:VC}{vi b n:Nat}(hn:n<1099511627775)(St:Nat->Env->Prop)(Stop:ti->Prop)
  (hset:∀k env v,St k env->St k (env.set vi v))
  (hhead:∀k env,k<=n->St k env->env vi=.int .i64 (k:Nat)->aF C V H env=some (if k<n then .norm env else .exit b env))
  (hbody:∀k env,k<n->St k env->env vi=.int .i64 (k:Nat)->∃r,aF C V BODY env=some r/\((∃env',r=.norm env'/\St (k+1) env'/\env' vi=.int .i64 (k:Nat))∨((∀e,r≠ .norm e)/\Stop r))):
  ∀{env:Env},St 0 env->env vi=.int .i64 0->∃r,aF C V (.loop (.seq H (.seq BODY (.st [.asg [] [(vi,.bin .add (.v vi) (.int .i64 1))]])))) env=some r/\((∃env',r=.exit b env'/\St n env'/\env' vi=.int .i64 (n:Nat))∨((∀e,r≠ .norm e)/\Stop r)):=by
 have key:∀(d k j:Nat){env:Env},k+d=n->St k env->env vi=.int .i64 (k:Nat)->∃r,dS (aF C V (.seq H (.seq BODY (.st [.asg [] [(vi,.bin .add (.v vi) (.int .i64 1))]])))) (d+1+j) env=some r/\((∃env',r=.exit b env'/\St n env'/\env' vi=.int .i64 (n:Nat))∨((∀e,r≠ .norm e)/\Stop r)):=by
  intro d;induction d with
  |zero=>
   intro k j env hk hs hv;have hkn:k=n:=by omega
   subst hkn;refine⟨.exit b env,?_,.inl ⟨env,rfl,hs,hv⟩⟩;rw[show 0+1+j=j+1 by omega];simp only[dS,aF,hhead k env (Pf _) hs hv,Nat.lt_irrefl,PS]
  | succ d ih=>
   intro k j env hk hs hv;have hkn:k<n:=by omega
   rw[show d+1+1+j=(d+1+j)+1 by omega];obtain⟨r,hr,hcase⟩:=hbody k env hkn hs hv;rcases hcase with⟨env',rfl,hs',hv'⟩|⟨hnn,hst⟩
   ·obtain⟨r2,h2,h3⟩:=ih (k+1) j (env:=env'.set vi (.int .i64 ((k+1:Nat):Int))) (by omega) (hset _ _ _ hs') (by simp);refine⟨r2,?_,h3⟩;have ha:=bV (k:=k) (by omega);simp only[dS,aF,hhead k env (by omega) hs hv,O9 hkn,hr,dp,VS.run,ao,PQ,bW,X.ev,hv',ac,bin,ha];exact h2
   ·refine⟨r,?_,.inr ⟨hnn,hst⟩⟩;simp only[dS,aF,hhead k env (by omega) hs hv,O9 hkn,hr];cases r with
    |norm e=>exact absurd rfl (hnn e)
    |exit i e=>rfl
    |ret x os=>rfl
 intro env h0 hv;obtain⟨r,h1,h2⟩:=key n 0 (1099511627775-n) (by omega) h0 hv;refine⟨r,?_,h2⟩;simp only[aF];rw[show n+1+(1099511627775-n)=zq by rw[pR];omega]at h1;exact h1
theorem oE{α:Type}{f:α->PV}{sz k:Nat}{xs:List α}{x:α}(h:xs[k]?=some x)(hs:(f x).cells.length=sz):au sz (.lst (xs.map f) false) (.int .i64 (k:Nat))=some (.lptr (f x).cells):=by
 have hk:k<xs.length:=(List.getElem?_eq_some_iff.1 h).1;have h1:(0:Int)<=(k:Int)/\(k:Int)<((xs.map f).length:Int):=by rw[PU];omega
 have h2:(xs.map f)[(Int.toNat (k:Int))]?=some (f x):=by rw[Int.toNat_natCast,Pk,h];rfl
 simp only[au];rw[O9 h1,h2];simp only;rw[O9 hs]
theorem lS{α:Type}{f:α->PV}{xs:List α}:cB (.lst (xs.map f) false)=some (.int .i64 (xs.length:Nat)):=by simp[cB]
end Gv
namespace Gv
open Go
variable{C:bK}{V:Nat->List PV->List PV->Bool}
theorem pn{BODY:VC}{vi vn b n:Nat}(hn:n<1099511627775)(St:Nat->Env->Prop)
  (hset:∀k env v,St k env->St k (env.set vi v))(hvn:∀k env,St k env->env vn=.int .i64 (n:Nat))
  (hbody:∀k env,k<n->St k env->env vi=.int .i64 (k:Nat)->∃env',aF C V BODY env=some (.norm env')/\St (k+1) env'/\env' vi=.int .i64 (k:Nat))
  {env:Env}(h0:St 0 env)(hv:env vi=.int .i64 0):
  ∃env',aF C V (.block b (.loop (.seq (.st [.asg [(.bin .lss (.v vi) (.v vn))] []]) (.seq (.cond (.bin .lss (.v vi) (.v vn)) .skip (.exit b)) (.seq BODY (.st [.asg [] [(vi,.bin .add (.v vi) (.int .i64 1))]])))))) env=some (.norm env')/\St n env':=by
 obtain⟨r,h1,h2⟩:=v7 (C:=C) (V:=V) (b:=b) (H:=.seq (.st [.asg [(.bin .lss (.v vi) (.v vn))] []]) (.cond (.bin .lss (.v vi) (.v vn)) .skip (.exit b))) (BODY:=BODY) hn St (λ_=>False) hset
  (λk env hk hs hv=>by
   have h3:=hvn k env hs;by_cases hkn:k<n
   ·simp only[aF,dp,VS.run,ao,X.ev,hv,h3,ac,bin,cK,hkn,QZ,QD,PY,PQ,bW]
   ·simp only[aF,dp,VS.run,ao,X.ev,hv,h3,ac,bin,cK,hkn,Ri,QD,PY,PQ,bW,PS])
  (λk env hk hs hv=>by
   obtain⟨e,h3,h4,h5⟩:=hbody k env hk hs hv;exact⟨_,h3,.inl ⟨e,rfl,h4,h5⟩⟩) h0 hv
 rcases h2 with⟨e,rfl,h3,_⟩|⟨_,h3⟩
 ·refine⟨e,?_,h3⟩;have h4:=(vQ (C:=C) (V:=V) (.st [.asg [(.bin .lss (.v vi) (.v vn))] []]) (.cond (.bin .lss (.v vi) (.v vn)) .skip (.exit b)) (.seq BODY (.st [.asg [] [(vi,.bin .add (.v vi) (.int .i64 1))]])) env).trans h1;exact fD h4
 ·exact h3.elim
theorem Hm{HEAD BODY:VC}{vi b n:Nat}(hn:n<1099511627775)(p:Nat->Bool)(R:PV)(St:Nat->Env->Prop)
  (hset:∀k env v,St k env->St k (env.set vi v))
  (hhead:∀k env,k<=n->St k env->env vi=.int .i64 (k:Nat)->aF C V HEAD env=some (if k<n then .norm env else .exit b env))
  (hbody:∀k env,k<n->St k env->env vi=.int .i64 (k:Nat)->∃r,aF C V BODY env=some r/\(if p k then∃env',r=.norm env'/\St (k+1) env'/\env' vi=.int .i64 (k:Nat)else r=.ret R []))
  {env:Env}(h0:St 0 env)(hv:env vi=.int .i64 0):
  ∃r,aF C V (.block b (.loop (.seq HEAD (.seq BODY (.st [.asg [] [(vi,.bin .add (.v vi) (.int .i64 1))]]))))) env=some r/\(if(∀k,k<n->p k=true)then∃env',r=.norm env'/\St n env' else r=.ret R []):=by
 obtain⟨r,h1,h2⟩:=v7 (C:=C) (V:=V) (b:=b) (H:=HEAD) (BODY:=BODY) hn (λk e=>St k e/\∀j,j<k->p j=true) (λr=>r=.ret R []/\¬ ∀k,k<n->p k=true) (λk env v h=>⟨hset k env v h.1,h.2⟩)
  (λk env hk hs hv=>hhead k env hk hs.1 hv)
  (λk env hk hs hv=>by
   obtain⟨r,h3,h4⟩:=hbody k env hk hs.1 hv;cases hp:p k with
   |true=>
    rw[hp,O9 rfl]at h4;obtain⟨e,h5,h6,h7⟩:=h4;refine⟨r,h3,.inl ⟨e,h5,⟨h6,λj hj=>?_⟩,h7⟩⟩;by_cases hjk:j=k
    ·subst hjk;exact hp
    ·exact hs.2 j (by omega)
   |false=>
    rw[hp]at h4;simp only[Ps,PS]at h4;refine⟨r,h3,.inr ⟨(λe he=>(by rw[h4]at he;cases he)),h4,(λh=>(by have:=h k hk;rw[hp]at this;cases this))⟩⟩) ⟨h0,λj hj=>by omega⟩ hv
 rcases h2 with⟨e,rfl,⟨h3,h4⟩,_⟩|⟨h3,h4,h5⟩
 ·exact⟨_,fD h1,by rw[O9 h4];exact⟨e,rfl,h3⟩⟩
 ·subst h4;exact⟨_,aM h1,by rw[Pd h5]⟩
@[simp] theorem CE (l:List Int):PV.fits (eI l) none=true:=rfl
@[simp] theorem CX (l:List Nat):PV.fits (eB l) none=true:=rfl
@[simp] theorem uA (l:List SInstr):PV.fits (cM l) none=true:=rfl
@[simp] theorem CJ (l:List Int):PV.isCell (eI l)=true:=rfl
@[simp] theorem Df (l:List Nat):PV.isCell (eB l)=true:=rfl
@[simp] theorem v9 (l:List SInstr):PV.isCell (cM l)=true:=rfl
@[simp] theorem z6 (l:List Int):PV.cells (eI l)=[eI l]:=rfl
@[simp] theorem z8 (l:List Nat):PV.cells (eB l)=[eB l]:=rfl
@[simp] theorem tD (l:List SInstr):PV.cells (cM l)=[cM l]:=rfl
theorem Ah(k:IntKind)(n:Int):PV.fits (.int k n) none=true:=rfl
theorem wX(b:Bool):PV.fits (.bool b) none=true:=rfl
theorem zn(b:List UInt8):PV.fits (.str b) none=true:=rfl
theorem zA(l:List PV)(c:Bool):PV.fits (.lst l c) none=true:=rfl
theorem zI(l:List PV)(n:Nat):PV.fits (.agg l) (some n)=(l.length==n):=rfl
theorem w9:PV.fits .nilp none=true:=rfl
theorem xp(l:List PV):PV.fits (.lptr l) none=true:=rfl
theorem Cz(f:Nat)(l:List PV):PV.fits (.fn f l) none=true:=rfl
theorem iF(k:IntKind)(n:Int):PV.isCell (.int k n)=true:=rfl
theorem pQ(b:Bool):PV.isCell (.bool b)=true:=rfl
theorem AZ(b:List UInt8):PV.isCell (.str b)=true:=rfl
theorem zN(l:List PV)(c:Bool):PV.isCell (.lst l c)=true:=rfl
theorem xC:PV.isCell .nilp=true:=rfl
theorem xD(l:List PV):PV.isCell (.lptr l)=true:=rfl
theorem De(f:Nat)(l:List PV):PV.isCell (.fn f l)=true:=rfl
theorem xm(k:IntKind)(n:Int):PV.cells (.int k n)=[.int k n]:=rfl
theorem ux(b:Bool):PV.cells (.bool b)=[.bool b]:=rfl
theorem xe(l:List PV)(c:Bool):PV.cells (.lst l c)=[.lst l c]:=rfl
theorem xM(l:List PV):PV.cells (.agg l)=l:=rfl
theorem NT(a:Int):PV.lst [.int .i64 a] false=eI [a]:=rfl
theorem jt{k:Nat}{l:List Int}{x:Int}(h:l[k]?=some x):au 1 (eI l) (.int .i64 (k:Nat))=some (.lptr [.int .i64 x]):=oE (f:=λn=>PV.int .i64 n) h rfl
theorem dP{l:List Int}:cB (eI l)=some (.int .i64 l.length):=lS
theorem qM{k:Nat}{l:List SInstr}{x:SInstr}(h:l[k]?=some x):au 2 (cM l) (.int .i64 (k:Nat))=some (.lptr [.int .i64 x.op,.int .i64 x.a]):=oE (f:=iG) h rfl
theorem jc{l:List SInstr}:cB (cM l)=some (.int .i64 l.length):=lS
theorem IU{k:Nat}{l:List SHandler}{x:SHandler}(h:l[k]?=some x):au 2 (.lst (l.map cN) false) (.int .i64 (k:Nat))=some (.lptr [.int .i64 x.args,cM x.code]):=oE (f:=cN) h rfl
theorem IZ{k:Nat}{l:List SActor}{x:SActor}(h:l[k]?=some x):au 4 (.lst (l.map iq) false) (.int .i64 (k:Nat))=some (.lptr [eI x.regs,.int .i64 x.cap,.int .i64 x.timer,.bool x.armed]):=oE (f:=iq) h rfl
theorem IR{k:Nat}{l:List SNote}{x:SNote}(h:l[k]?=some x):au 3 (.lst (l.map jX) false) (.int .i64 (k:Nat))=some (.lptr [.int .i64 x.to,.int .i64 x.handler,eI x.args]):=oE (f:=jX) h rfl
theorem Nq{k:Nat}{l:List SEvent}{x:SEvent}(h:l[k]?=some x):au 5 (.lst (l.map ba) false) (.int .i64 (k:Nat))=some (.lptr (dC x)):=oE (f:=ba) h rfl
theorem pS{α:Type}{l:List α}{k:Nat}{x:α}(h:l[k]?=some x):l.take (k+1)=l.take k++[x]:=by
 rw[List.take_add_one,h];rfl
theorem aP{α:Type}{l:List α}{k:Nat}(h:k<l.length):∃x,l[k]?=some x/\x∈l:=⟨l[k],Pa h,List.getElem_mem h⟩
section
variable{C:bK}{V:Nat->List PV->List PV->Bool}
theorem nx{a b:VC}{env e:Env}{x:Option ti}(h:aF C V a env=some (.norm e))(k:aF C V b e=x):aF C V (.seq a b) env=x:=by rw[IB h];exact k
theorem sJ{a b:VC}{env:Env}{x:Option ti}{P:Env->Prop}(h:∃e,aF C V a env=some (.norm e)/\P e)(k:∀e,P e->aF C V b e=x):aF C V (.seq a b) env=x:=by
 obtain⟨e,h1,h2⟩:=h;exact nx h1 (k e h2)
theorem oR(a b c:VC)(env:Env):aF C V (.seq (.seq a b) c) env=aF C V (.seq a (.seq b c)) env:=(xh a b c env).symm
end
theorem OJ:type_of%(And.intro @aF.eq_1 (And.intro @aF.eq_2 (And.intro @aF.eq_3 (And.intro @aF.eq_4 (And.intro @aF.eq_5 (And.intro @aF.eq_6 (And.intro @aF.eq_7 (And.intro @aF.eq_8 (And.intro @dp.eq_1 (And.intro @dp.eq_2 (And.intro @VS.run.eq_1 (And.intro @VS.run.eq_2 (And.intro @VS.run.eq_3 (And.intro @ao.eq_1 (And.intro @ao.eq_2 (And.intro @bW.eq_1 (And.intro @bW.eq_2 (And.intro @eO.eq_1 (And.intro @eO.eq_2 (And.intro @X.ev.eq_1 (And.intro @X.ev.eq_2 (And.intro @X.ev.eq_3 (And.intro @X.ev.eq_4 (And.intro @X.ev.eq_5 (And.intro @X.ev.eq_6 (And.intro @X.ev.eq_7 (And.intro @X.ev.eq_8 (And.intro @X.ev.eq_9 (And.intro @X.ev.eq_10 (@X.ev.eq_11)))))))))))))))))))))))))))))):=(And.intro @aF.eq_1 (And.intro @aF.eq_2 (And.intro @aF.eq_3 (And.intro @aF.eq_4 (And.intro @aF.eq_5 (And.intro @aF.eq_6 (And.intro @aF.eq_7 (And.intro @aF.eq_8 (And.intro @dp.eq_1 (And.intro @dp.eq_2 (And.intro @VS.run.eq_1 (And.intro @VS.run.eq_2 (And.intro @VS.run.eq_3 (And.intro @ao.eq_1 (And.intro @ao.eq_2 (And.intro @bW.eq_1 (And.intro @bW.eq_2 (And.intro @eO.eq_1 (And.intro @eO.eq_2 (And.intro @X.ev.eq_1 (And.intro @X.ev.eq_2 (And.intro @X.ev.eq_3 (And.intro @X.ev.eq_4 (And.intro @X.ev.eq_5 (And.intro @X.ev.eq_6 (And.intro @X.ev.eq_7 (And.intro @X.ev.eq_8 (And.intro @X.ev.eq_9 (And.intro @X.ev.eq_10 (@X.ev.eq_11))))))))))))))))))))))))))))))
theorem OK:type_of%(And.intro @X.ev.eq_12 (And.intro @X.ev.eq_13 (And.intro @X.ev.eq_14 (And.intro @X.ev.eq_15 (And.intro @X.ev.eq_16 (And.intro @X.ev.eq_17 (And.intro @X.ev.eq_18 (And.intro @X.ev.eq_19 (And.intro @X.ev.eq_20 (And.intro @X.ev.eq_21 (And.intro @X.ev.eq_22 (And.intro @X.ev.eq_23 (And.intro @X.ev.eq_24 (And.intro @X.ev.eq_25 (And.intro @X.ev.eq_26 (And.intro @X.ev.eq_27 (And.intro @X.ev.eq_28 (And.intro @X.ev.eq_29 (And.intro @X.ev.eq_30 (And.intro @X.ev.eq_31 (And.intro @X.ev.eq_32 (And.intro @X.ev.eq_33 (And.intro @X.ev.eq_34 (And.intro @X.ev.eq_35 (And.intro @X.ev.eq_36 (And.intro @X.ev.eq_37 (And.intro @X.ev.eq_38 (And.intro @X.ev.eq_39 (And.intro @eg.eq_1 (@eg.eq_2)))))))))))))))))))))))))))))):=(And.intro @X.ev.eq_12 (And.intro @X.ev.eq_13 (And.intro @X.ev.eq_14 (And.intro @X.ev.eq_15 (And.intro @X.ev.eq_16 (And.intro @X.ev.eq_17 (And.intro @X.ev.eq_18 (And.intro @X.ev.eq_19 (And.intro @X.ev.eq_20 (And.intro @X.ev.eq_21 (And.intro @X.ev.eq_22 (And.intro @X.ev.eq_23 (And.intro @X.ev.eq_24 (And.intro @X.ev.eq_25 (And.intro @X.ev.eq_26 (And.intro @X.ev.eq_27 (And.intro @X.ev.eq_28 (And.intro @X.ev.eq_29 (And.intro @X.ev.eq_30 (And.intro @X.ev.eq_31 (And.intro @X.ev.eq_32 (And.intro @X.ev.eq_33 (And.intro @X.ev.eq_34 (And.intro @X.ev.eq_35 (And.intro @X.ev.eq_36 (And.intro @X.ev.eq_37 (And.intro @X.ev.eq_38 (And.intro @X.ev.eq_39 (And.intro @eg.eq_1 (@eg.eq_2))))))))))))))))))))))))))))))
theorem OT:type_of%(And.intro @bT.eq_1 (And.intro @bT.eq_2 (And.intro @kR.eq_1 (And.intro @kR.eq_2 (And.intro @bin.eq_1 (And.intro @bin.eq_2 (And.intro @bin.eq_3 (And.intro @bin.eq_4 (And.intro @bin.eq_5 (And.intro @bin.eq_6 (And.intro @Cw.eq_1 (And.intro @Cw.eq_2 (And.intro @tV.eq_1 (And.intro @tV.eq_2 (And.intro @Ef.eq_1 (And.intro @Ef.eq_2 (And.intro @mM.eq_1 (And.intro @dD.eq_1 (And.intro @dD.eq_2 (And.intro @aj.eq_1 (And.intro @aj.eq_2 (And.intro @D2.eq_1 (And.intro @bl.eq_1 (And.intro @bl.eq_2 (And.intro @bl.eq_3 (And.intro @Env.sets.eq_1 (And.intro @Env.sets.eq_2 (And.intro @ac (And.intro @nP (@Env.set_at)))))))))))))))))))))))))))))):=(And.intro @bT.eq_1 (And.intro @bT.eq_2 (And.intro @kR.eq_1 (And.intro @kR.eq_2 (And.intro @bin.eq_1 (And.intro @bin.eq_2 (And.intro @bin.eq_3 (And.intro @bin.eq_4 (And.intro @bin.eq_5 (And.intro @bin.eq_6 (And.intro @Cw.eq_1 (And.intro @Cw.eq_2 (And.intro @tV.eq_1 (And.intro @tV.eq_2 (And.intro @Ef.eq_1 (And.intro @Ef.eq_2 (And.intro @mM.eq_1 (And.intro @dD.eq_1 (And.intro @dD.eq_2 (And.intro @aj.eq_1 (And.intro @aj.eq_2 (And.intro @D2.eq_1 (And.intro @bl.eq_1 (And.intro @bl.eq_2 (And.intro @bl.eq_3 (And.intro @Env.sets.eq_1 (And.intro @Env.sets.eq_2 (And.intro @ac (And.intro @nP (@Env.set_at))))))))))))))))))))))))))))))
theorem OO:type_of%(And.intro @Ah (And.intro @wX (And.intro @zn (And.intro @zA (And.intro @zI (And.intro @w9 (And.intro @xp (And.intro @Cz (And.intro @iF (And.intro @pQ (And.intro @AZ (And.intro @zN (And.intro @xC (And.intro @xD (And.intro @De (And.intro @xm (And.intro @ux (And.intro @xe (And.intro @xM (And.intro @z6 (And.intro @z8 (And.intro @tD (And.intro @CE (And.intro @CX (And.intro @uA (And.intro @CJ (And.intro @Df (And.intro @v9 (And.intro @QD (@QW)))))))))))))))))))))))))))))):=(And.intro @Ah (And.intro @wX (And.intro @zn (And.intro @zA (And.intro @zI (And.intro @w9 (And.intro @xp (And.intro @Cz (And.intro @iF (And.intro @pQ (And.intro @AZ (And.intro @zN (And.intro @xC (And.intro @xD (And.intro @De (And.intro @xm (And.intro @ux (And.intro @xe (And.intro @xM (And.intro @z6 (And.intro @z8 (And.intro @tD (And.intro @CE (And.intro @CX (And.intro @uA (And.intro @CJ (And.intro @Df (And.intro @v9 (And.intro @QD (@QW))))))))))))))))))))))))))))))
theorem OR:type_of%(And.intro @Pg (And.intro @Qc (And.intro @List.drop_succ_cons.{0} (And.intro @Rf (And.intro @Q3 (And.intro @List.take_zero.{0} (And.intro @PJ (And.intro @PT (And.intro @PY (And.intro @PX (And.intro @P2 (And.intro @Pf (And.intro @Ps (And.intro @and_self (@Rc))))))))))))))):=(And.intro @Pg (And.intro @Qc (And.intro @List.drop_succ_cons.{0} (And.intro @Rf (And.intro @Q3 (And.intro @List.take_zero.{0} (And.intro @PJ (And.intro @PT (And.intro @PY (And.intro @PX (And.intro @P2 (And.intro @Pf (And.intro @Ps (And.intro @and_self (@Rc)))))))))))))))
theorem wa:type_of%(And.intro OJ (And.intro OK (And.intro OT (And.intro OO OR)))):=And.intro OJ (And.intro OK (And.intro OT (And.intro OO OR)))
end Gv
namespace Gv
open Go
variable{C:bK}{V:Nat->List PV->List PV->Bool}
theorem ua{HEAD BODY K:VC}{vi b n:Nat}{X0:Option ti}(hn:n<1099511627775)(p:Nat->Bool)(R:PV)(St:Nat->Env->Prop)(P:Prop)
  (hset:∀k env v,St k env->St k (env.set vi v))
  (hhead:∀k env,k<=n->St k env->env vi=.int .i64 (k:Nat)->aF C V HEAD env=some (if k<n then .norm env else .exit b env))
  (hbody:∀k env,k<n->St k env->env vi=.int .i64 (k:Nat)->∃r,aF C V BODY env=some r/\(if p k then∃env',r=.norm env'/\St (k+1) env'/\env' vi=.int .i64 (k:Nat)else r=.ret R []))
  (hP:(∀k,k<n->p k=true)↔P)(hk:P->∀e,St n e->aF C V K e=X0)(hr:¬P->X0=some (.ret R []))
  {env:Env}(h0:St 0 env)(hv:env vi=.int .i64 0):
  aF C V (.seq (.block b (.loop (.seq HEAD (.seq BODY (.st [.asg [] [(vi,.bin .add (.v vi) (.int .i64 1))]]))))) K) env=X0:=by
 obtain⟨r,h1,h2⟩:=Hm (C:=C) (V:=V) hn p R St hset hhead hbody h0 hv;by_cases h:P
 ·rw[O9 (hP.2 h)]at h2;obtain⟨e,rfl,h3⟩:=h2;exact nx h1 (hk h e h3)
 ·rw[Pd (λh'=>h (hP.1 h'))]at h2;subst h2;rw[ai h1,hr h]
structure b6 where
 id:SID
 note:SNote
 deriving DecidableEq
def mG(m:b6):List PV:=[.int .i64 m.id.frm,.int .i64 m.id.n,.int .i64 m.id.copy,.int .i64 m.note.to,.int .i64 m.note.handler,eI m.note.args]
def pU(m:b6):PV:=.agg (mG m)
def cg(l:List b6):PV:=.lst (l.map pU) false
def y9(i:SID):PV:=.agg (A2 i)
theorem iS{k:Nat}{l:List b6}{x:b6}(h:l[k]?=some x):au 6 (cg l) (.int .i64 (k:Nat))=some (.lptr (mG x)):=oE (f:=pU) h rfl
theorem pa{l:List b6}:cB (cg l)=some (.int .i64 l.length):=lS
def gg(a b:SID):Bool:=if a.frm≠b.frm then decide (a.frm<b.frm)else if a.n≠b.n then decide (a.n<b.n)else decide (a.copy<b.copy)
def jC(x y:Int):Int:=if x<y then-1 else if y<x then 1 else 0
def A1(a b c:Int):Int:=if a≠0 then a else if b≠0 then b else c
theorem Ej(a b:SID):decide (A1 (jC a.frm b.frm) (jC a.n b.n) (jC a.copy b.copy)<0)=gg a b:=by
 simp only[A1,jC,gg];by_cases h1:a.frm<b.frm
 ·simp[h1,show a.frm≠b.frm by omega]
 ·by_cases h2:b.frm<a.frm
  ·simp[h1,h2,show a.frm≠b.frm by omega]
  ·have e:a.frm=b.frm:=by omega
   by_cases h3:a.n<b.n
   ·simp[e,h3,show a.n≠b.n by omega]
   ·by_cases h4:b.n<a.n
    ·simp[e,h3,h4,show a.n≠b.n by omega]
    ·have e2:a.n=b.n:=by omega
     simp only[e,e2,Int.lt_irrefl,PS,ne_eq,Qg];by_cases h5:a.copy<b.copy
     ·simp[h5]
     ·by_cases h6:b.copy<a.copy
      ·simp[h5,h6]
      ·simp[h5,h6]
variable{C:bK}{V:Nat->List PV->List PV->Bool}
abbrev FW(c:X)(b:Nat):VC:=.seq (.st [.asg [c] []]) (.cond c .skip (.exit b))
abbrev rU(vi:Nat):VC:=.st [.asg [] [(vi,.bin .add (.v vi) (.int .i64 1))]]
theorem p7{c:X}{b n k:Nat}{env:Env}(h:c.ev env=some (.bool (decide (k<n)))):aF C V (FW c b) env=some (if k<n then .norm env else .exit b env):=by
 by_cases hk:k<n
 ·simp only[aF,dp,VS.run,ao,h,hk,QZ,QD,PY,PQ,bW,ac]
 ·simp only[aF,dp,VS.run,ao,h,hk,Ri,QD,PY,PQ,bW,PS,ac]
theorem Ha{c:X}{b vi:Nat}{BODY:VC}{env:Env}:aF C V (.block b (.loop (.seq (.st [.asg [c] []]) (.seq (.cond c .skip (.exit b)) (.seq BODY (rU vi)))))) env=aF C V (.block b (.loop (.seq (FW c b) (.seq BODY (rU vi))))) env:=by
 have:=vQ (C:=C) (V:=V) (.st [.asg [c] []]) (.cond c .skip (.exit b)) (.seq BODY (rU vi)) env;rw[aF.eq_def,aF.eq_def C V (.block b _)];simp only;rw[this]
theorem xL{c:X}{BODY:VC}{vi b n:Nat}(hn:n<1099511627775)(p:Nat->Bool)(R:Nat->PV)(St:Nat->Env->Prop)
  (hset:∀k env v,St k env->St k (env.set vi v))
  (hc:∀k env,k<=n->St k env->env vi=.int .i64 (k:Nat)->c.ev env=some (.bool (decide (k<n))))
  (hbody:∀k env,k<n->St k env->env vi=.int .i64 (k:Nat)->∃r,aF C V BODY env=some r/\(if p k then r=.ret (R k) []else∃env',r=.norm env'/\St (k+1) env'/\env' vi=.int .i64 (k:Nat)))
  {env:Env}(h0:St 0 env)(hv:env vi=.int .i64 0):
  ∃r,aF C V (.block b (.loop (.seq (FW c b) (.seq BODY (rU vi))))) env=some r/\((∃k,k<n/\p k=true/\(∀j,j<k->p j=false)/\r=.ret (R k) [])∨((∀k,k<n->p k=false)/\∃env',r=.norm env'/\St n env')):=by
 obtain⟨r,h1,h2⟩:=v7 (C:=C) (V:=V) (b:=b) (H:=FW c b) (BODY:=BODY) hn (λk e=>St k e/\∀j,j<k->p j=false) (λr=>∃k,k<n/\p k=true/\(∀j,j<k->p j=false)/\r=.ret (R k) []) (λk env v h=>⟨hset k env v h.1,h.2⟩)
  (λk env hk hs hv=>p7 (hc k env hk hs.1 hv))
  (λk env hk hs hv=>by
   obtain⟨r,h3,h4⟩:=hbody k env hk hs.1 hv;cases hp:p k with
   |true=>
    rw[hp,O9 rfl]at h4;subst h4;exact⟨_,h3,.inr ⟨λe h=>(by cases h),k,hk,hp,hs.2,rfl⟩⟩
   |false=>
    rw[hp,Pd (by simp)]at h4;obtain⟨e,rfl,h5,h6⟩:=h4;refine⟨_,h3,.inl ⟨e,rfl,⟨h5,λj hj=>?_⟩,h6⟩⟩;rcases Nat.lt_succ_iff_lt_or_eq.1 hj with h|rfl
    ·exact hs.2 j h
    ·exact hp) ⟨h0,λj hj=>absurd hj (Nat.not_lt_zero _)⟩ hv
 rcases h2 with⟨e,rfl,h3,_⟩|⟨_,k,h3,h4,h5,rfl⟩
 ·exact⟨_,fD h1,.inr ⟨h3.2,e,rfl,h3.1⟩⟩
 ·exact⟨_,aM h1,.inl ⟨k,h3,h4,h5,rfl⟩⟩
theorem we{c:X}{BODY K:VC}{vi b n:Nat}{X0:Option ti}(hn:n<1099511627775)(p:Nat->Bool)(R:Nat->PV)(St:Nat->Env->Prop)
  (hset:∀k env v,St k env->St k (env.set vi v))
  (hc:∀k env,k<=n->St k env->env vi=.int .i64 (k:Nat)->c.ev env=some (.bool (decide (k<n))))
  (hbody:∀k env,k<n->St k env->env vi=.int .i64 (k:Nat)->∃r,aF C V BODY env=some r/\(if p k then r=.ret (R k) []else∃env',r=.norm env'/\St (k+1) env'/\env' vi=.int .i64 (k:Nat)))
  (hr:∀k,k<n->p k=true->(∀j,j<k->p j=false)->X0=some (.ret (R k) []))(hk:(∀k,k<n->p k=false)->∀e,St n e->aF C V K e=X0)
  {env:Env}(h0:St 0 env)(hv:env vi=.int .i64 0):
  aF C V (.seq (.block b (.loop (.seq (FW c b) (.seq BODY (rU vi))))) K) env=X0:=by
 obtain⟨r,h1,h2⟩:=xL (C:=C) (V:=V) hn p R St hset hc hbody h0 hv;rcases h2 with⟨k,a1,a2,a3,rfl⟩|⟨a1,e,rfl,a2⟩
 ·rw[ai h1,hr k a1 a2 a3]
 ·exact nx h1 (hk a1 e a2)
theorem wZ{c:X}{BODY K:VC}{vi b n:Nat}{X0:Option ti}(hn:n<1099511627775)(p:Nat->Bool)(R:Nat->PV)(St:Nat->Env->Prop)
  (hset:∀k env v,St k env->St k (env.set vi v))
  (hc:∀k env,k<=n->St k env->env vi=.int .i64 (k:Nat)->c.ev env=some (.bool (decide (k<n))))
  (hbody:∀k env,k<n->St k env->env vi=.int .i64 (k:Nat)->∃r,aF C V BODY env=some r/\(if p k then r=.ret (R k) []else∃env',r=.norm env'/\St (k+1) env'/\env' vi=.int .i64 (k:Nat)))
  (hr:∀k,k<n->p k=true->(∀j,j<k->p j=false)->X0=some (.ret (R k) []))(hk:(∀k,k<n->p k=false)->∀e,St n e->aF C V K e=X0)
  {env:Env}(h0:St 0 env)(hv:env vi=.int .i64 0):
  aF C V (.seq (.block b (.loop (.seq (.st [.asg [c] []]) (.seq (.cond c .skip (.exit b)) (.seq BODY (rU vi)))))) K) env=X0:=by
 have:=we (C:=C) (V:=V) (K:=K) (X0:=X0) (b:=b) hn p R St hset hc hbody hr hk h0 hv;rw[<-this,aF.eq_def,aF.eq_def C V (.seq _ K)];simp only;rw[Ha]
theorem MK(x:Int):aY .neq .i64 x .i64 x=some (.bool false):=by simp[aY]
theorem Cv{m:Nat}(x:Int):ak aI (m+1) 106 [.int .i64 x]=some (.bool false,[]):=by
 refine an (F:=gD) rfl rfl rfl ?_ (.inr rfl);simp only[gD];simp only[wa,↓reduceIte,Env.ofArgs_at,PK,MK]
theorem Cf{m:Nat}(x y:Int):ak aI (m+2) 103 [.int .i64 x,.int .i64 y]=some (.int .i64 (jC x y),[]):=by
 refine an (F:=eP) rfl rfl rfl ?_ (.inr rfl);have h1:=Cv (m:=m) x;have h2:=Cv (m:=m) y;generalize ak aI (m+1)=C at*;generalize bc aI=V;have hl:aY .lss .i64 x .i64 y=some (.bool (decide (x<y))):=by simp[aY]
 have hg:aY .gtr .i64 x .i64 y=some (.bool (decide (y<x))):=by simp[aY]
 simp only[eP];by_cases a:x<y
 ·simp only[wa,↓reduceIte,Nat.reduceEqDiff,reduceCtorEq,Env.ofArgs_at,PK,h1,h2,hl,a,QZ,jC]
 ·by_cases b:y<x
  ·simp only[wa,↓reduceIte,Nat.reduceEqDiff,reduceCtorEq,Env.ofArgs_at,PK,h1,h2,hl,hg,a,b,QZ,Ri,jC]
  ·simp only[wa,↓reduceIte,Nat.reduceEqDiff,reduceCtorEq,Env.ofArgs_at,PK,h1,h2,hl,hg,a,b,Ri,jC]
theorem Li{m:Nat}(a b c:Int):ak aI (m+1) 102 [.lst [.int .i64 a,.int .i64 b,.int .i64 c] false]=some (.int .i64 (A1 a b c),[]):=by
 refine an (F:=kk) rfl rfl rfl ?_ (.inr rfl);generalize ak aI m=C;generalize bc aI=V;have hx:∀k x,[a,b,c][k]?=some x->au 1 (.lst [.int .i64 a,.int .i64 b,.int .i64 c] false) (.int .i64 (k:Nat))=some (.lptr [.int .i64 x]):=λk x h=>jt (l:=[a,b,c]) h;have hl:cB (.lst [.int .i64 a,.int .i64 b,.int .i64 c] false)=some (.int .i64 (3:Nat)):=dP (l:=[a,b,c]);generalize hL:PV.lst [.int .i64 a,.int .i64 b,.int .i64 c] false=L at hx hl;simp only[kk,n7];refine nx (by simp only[wa,↓reduceIte];rfl) ?_;rw[oR];refine nx (by simp only[wa,↓reduceIte,reduceCtorEq,Env.ofArgs_at,PK,hl];rfl) ?_;refine wZ (n:=3) (by omega) (λk=>decide (([a,b,c][k]?).getD 0≠0)) (λk=>.int .i64 (([a,b,c][k]?).getD 0)) (λ_ e=>e 6=L/\e 3=.int .i64 0/\e 7=.int .i64 (3:Nat)) (λk e v h=>by simpa using h)
  (λk e hk h hv=>by simp only[X.ev,hv,h.2.2,ac,bin,cK]) (λk e hk ⟨h1,h2,h3⟩ hv=>?_) (λk hk hp hj=>?_) (λhp e h=>?_) ⟨by simp[],by simp,by simp⟩ (by simp)
 ·obtain⟨x,hx',_⟩:=aP (l:=[a,b,c]) (k:=k) hk;have hi:=hx k x hx';by_cases h0:x=0
  ·subst h0;have hn:=MK 0;refine⟨_,by simp only[wa,↓reduceIte,Nat.reduceEqDiff,h1,h2,hv,hi,hn];rfl,?_⟩;simp[hx',h1,h2,h3,hv]
  ·have hn:aY .neq .i64 x .i64 0=some (.bool true):=by simp[aY,h0]
   refine⟨_,by simp only[wa,↓reduceIte,Nat.reduceEqDiff,h1,h2,hv,hi,hn];rfl,?_⟩;simp[hx',h0]
 ·match k,hk with
  |0,_=>simp at hp;simp[A1,hp]
  |1,_=>have:=hj 0 (by omega);simp at hp this;simp[A1,hp,this]
  |2,_=>have h0:=hj 0 (by omega);have h1:=hj 1 (by omega);simp at hp h0 h1;simp[A1,h0,h1]
 ·have h0:=hp 0 (by omega);have h1:=hp 1 (by omega);have h2:=hp 2 (by omega);simp at h0 h1 h2;simp only[wa,↓reduceIte,h.2.1];simp[A1,h0,h1,h2]
theorem Dn{m:Nat}(a b:SID):ak aI (m+3) 96 [y9 a,y9 b]=some (.int .i64 (A1 (jC a.frm b.frm) (jC a.n b.n) (jC a.copy b.copy)),[]):=by
 refine an (F:=jj) rfl rfl rfl ?_ (.inr rfl);have h1:=Cf (m:=m) a.frm b.frm;have h2:=Cf (m:=m) a.n b.n;have h3:=Cf (m:=m) a.copy b.copy;have h4:=Li (m:=m+1) (jC a.frm b.frm) (jC a.n b.n) (jC a.copy b.copy);generalize ak aI (m+2)=C at*;generalize bc aI=V;simp only[y9,A2,jj];simp only[wa,↓reduceIte,Nat.reduceEqDiff,Nat.reduceAdd,O7,Env.ofArgs_at,PK,h1,h2,h3,h4]
theorem JJ{m:Nat}(a b:SID):ak aI (m+4) 75 [y9 a,y9 b]=some (.bool (gg a b),[]):=by
 refine an (F:=ky) rfl rfl rfl ?_ (.inr rfl);have h1:=Dn (m:=m) a b;generalize ak aI (m+3)=C at*;generalize bc aI=V;have hl:aY .lss .i64 (A1 (jC a.frm b.frm) (jC a.n b.n) (jC a.copy b.copy)) .i64 0=some (.bool (gg a b)):=by
  rw[<-Ej];simp[aY]
 simp only[y9,A2]at h1;simp only[y9,A2,ky];simp only[wa,↓reduceIte,Nat.reduceEqDiff,Nat.reduceAdd,O7,Env.ofArgs_at,PK,h1,hl]
theorem sZ(x y:Int):aY .lss .i64 x .i64 y=some (.bool (decide (x<y))):=by simp[aY]
theorem C1(x y:Int):aY .neq .i64 x .i64 y=some (.bool (decide (x≠y))):=by
 by_cases h:x=y<;>simp[aY,h]
theorem Ie{m:Nat}(a b:SID):ak aI (m+1) 78 [y9 a,y9 b]=some (.bool (gg a b),[]):=by
 refine an (F:=lO) rfl rfl rfl ?_ (.inr rfl);generalize ak aI m=C;generalize bc aI=V;simp only[y9,A2,lO];by_cases h1:a.frm=b.frm
 ·have e1:aY .neq .i64 a.frm .i64 b.frm=some (.bool false):=by rw[C1];simp[h1]
  by_cases h2:a.n=b.n
  ·have e2:aY .neq .i64 a.n .i64 b.n=some (.bool false):=by rw[C1];simp[h2]
   simp only[wa,↓reduceIte,Nat.reduceEqDiff,Nat.reduceAdd,O7,Env.ofArgs_at,PK,sZ,e1,e2];simp[gg,h1,h2]
  ·have e2:aY .neq .i64 a.n .i64 b.n=some (.bool true):=by rw[C1];simp[h2]
   simp only[wa,↓reduceIte,Nat.reduceEqDiff,Nat.reduceAdd,O7,Env.ofArgs_at,PK,sZ,e1,e2];simp[gg,h1,h2]
 ·have e1:aY .neq .i64 a.frm .i64 b.frm=some (.bool true):=by rw[C1];simp[h1]
  simp only[wa,↓reduceIte,Nat.reduceEqDiff,Nat.reduceAdd,O7,Env.ofArgs_at,PK,sZ,e1];simp[gg,h1]
theorem J5(x y:SID):ou false [false,false,false] (.agg [.int .i64 x.frm,.int .i64 x.n,.int .i64 x.copy]) (.agg [.int .i64 y.frm,.int .i64 y.n,.int .i64 y.copy])=some (.bool (decide (x=y))):=by
 have:decide (x=y)=(decide (x.frm=y.frm)&&(decide (x.n=y.n)&&decide (x.copy=y.copy))):=by
  cases x;cases y;simp only[SID.mk.injEq,Bool.decide_and]
 rw[this];have h:∀a b:Int,(a==b)=decide (a=b):=λa b=>by by_cases h:a=b<;>simp[h]
 simp[ou,aK,h]
theorem G7{m:Nat}(x:b6)(i:SID):ak aI (m+1) 81 [pU x,.lptr (A2 i)]=some (.bool (decide (x.id=i)),[]):=by
 refine an (F:=jf) rfl rfl rfl ?_ (.inr rfl);generalize ak aI m=C;generalize bc aI=V;have h:=J5 x.id i;simp only[pU,mG,A2,jf];simp only[wa,↓reduceIte,Nat.reduceEqDiff,Nat.reduceAdd,O7,Env.ofArgs_at,PK,h]
def lk{α:Type}(p:α->Bool)(l:List α):Int:=match l.findIdx? p with|some k=>(k:Int)|none=> -1
theorem xu{α:Type}{p:α->Bool}{l:List α}{k:Nat}(hk:k<l.length)(hp:∀x,l[k]?=some x->p x=true)(hj:∀j,j<k->∀x,l[j]?=some x->p x=false):lk p l=k:=by
 have:l.findIdx? p=some k:=by
  rw[List.findIdx?_eq_some_iff_getElem];exact⟨hk,hp _ (Pa hk),λj hj'=>by
   have:=hj j hj' _ (Pa (by omega));simp[this]⟩
 simp[lk,this]
theorem sq{α:Type}{p:α->Bool}{l:List α}(hp:∀k,k<l.length->∀x,l[k]?=some x->p x=false):lk p l= -1:=by
 have:l.findIdx? p=none:=by
  rw[List.findIdx?_eq_none_iff];intro x hx;obtain⟨k,hk⟩:=List.mem_iff_getElem?.1 hx;exact hp k (List.getElem?_eq_some_iff.1 hk).1 x hk
 simp[lk,this]
theorem Ge{m fn:Nat}{caps:List PV}{p:b6->Bool}(l:List b6)(hl:l.length<1000000000)(hC:∀x∈l,ak aI m fn (pU x::caps)=some (.bool (p x),[]))(hV:∀x∈l,bc aI fn [pU x] caps=true):
  ak aI (m+1) 73 [cg l,.fn fn caps]=some (.int .i64 (lk p l),[]):=by
 refine an (F:=aZ) rfl rfl rfl ?_ (.inr rfl);generalize ak aI m=C at*;generalize bc aI=V at*;have ll:cB (cg l)=some (.int .i64 l.length):=pa;simp only[aZ,bY];refine nx (by simp only[wa];rfl) ?_;rw[oR];refine nx (by simp only[wa,↓reduceIte,Env.ofArgs_at,PK,ll];rfl) ?_;refine wZ (n:=l.length) (by omega) (λk=>(l[k]?).elim false p) (λk=>.int .i64 (k:Nat)) (λ_ e=>e 0=cg l/\e 1=.fn fn caps/\e 7=.int .i64 l.length) (λk e v h=>by simpa using h)
  (λk e hk h hv=>by simp only[X.ev,hv,h.2.2,ac,bin,cK]) (λk e hk ⟨h1,h2,h3⟩ hv=>?_) (λk hk hp hj=>?_) (λhp e h=>?_) ⟨by simp[Env.ofArgs_at],by simp[Env.ofArgs_at],by simp⟩ (by simp)
 ·obtain⟨x,hx',hm⟩:=aP hk;have hi:=iS hx';have hc:=hC x hm;have hv':=hV x hm;simp only[pU,mG]at hc hv' hi;cases hp:p x with
  |true=>
   rw[hp]at hc;refine⟨_,by simp only[wa,↓reduceIte,Nat.reduceEqDiff,reduceCtorEq,Nat.reduceAdd,O7,h1,h2,hv,hi,hv',Qu,Pi,hc];rfl,?_⟩;simp[hx',hp]
  |false=>
   rw[hp]at hc;refine⟨_,by simp only[wa,↓reduceIte,Nat.reduceEqDiff,reduceCtorEq,Nat.reduceAdd,O7,h1,h2,hv,hi,hv',Qu,Pi,hc];rfl,?_⟩;simp[hx',hp,h1,h2,h3,hv]
 ·rw[xu hk (λx hx=>by rw[hx]at hp;exact hp) λj hj' x hx=>by have:=hj j hj';rw[hx]at this;exact this]
 ·rw[sq λk hk x hx=>by have:=hp k hk;rw[hx]at this;exact this];simp only[wa,↓reduceIte]
def iV(l:List b6)(i:SID):Int:=lk (λx=>decide (x.id=i)) l
theorem Jx{m:Nat}(l:List b6)(hl:l.length<1000000000)(i:SID):ak aI (m+3) 39 [cg l,y9 i]=some (.int .i64 (iV l i),[]):=by
 refine an (F:=l9) rfl rfl rfl ?_ (.inr rfl);have h:=Ge (m:=m+1) (fn:=81) (caps:=[.lptr (A2 i)]) (p:=λx=>decide (x.id=i)) l hl (λx _=>G7 x i) (λx _=>rfl);generalize ak aI (m+2)=C at*;generalize bc aI=V;simp only[A2]at h;have hm:JX 81 (.tup [.lptr [.int .i64 i.frm,.int .i64 i.n,.int .i64 i.copy]])=some (.fn 81 [.lptr [.int .i64 i.frm,.int .i64 i.n,.int .i64 i.copy]]):=rfl;simp only[y9,A2,l9];simp only[wa,↓reduceIte,reduceCtorEq,Nat.reduceAdd,O7,Env.ofArgs_at,PK,hm,h];rfl
theorem Io{m:Nat}(l:List b6)(hl:l.length<1000000000)(i:SID):ak aI (m+1) 40 [cg l,y9 i]=some (.int .i64 (iV l i),[]):=by
 refine an (F:=jn) rfl rfl rfl ?_ (.inr rfl);generalize ak aI m=C;generalize bc aI=V;have ll:cB (cg l)=some (.int .i64 l.length):=pa;have he:=λx=>J5 x i;simp only[y9,A2,jn,na];refine nx (by simp only[wa,↓reduceIte,Nat.reduceAdd,O7,Env.ofArgs_at,PK];rfl) ?_;rw[oR];refine nx (by simp only[wa,↓reduceIte];rfl) ?_;refine we (n:=l.length) (by omega) (λk=>(l[k]?).elim false λx=>decide (x.id=i)) (λk=>.int .i64 (k:Nat)) (λ_ e=>e 0=cg l/\e 3=.lptr [.int .i64 i.frm,.int .i64 i.n,.int .i64 i.copy]) (λk e v h=>by simpa using h)
  (λk e hk h hv=>by simp only[X.ev,hv,h.1,ll,ac,bin,cK]) (λk e hk ⟨h1,h2⟩ hv=>?_) (λk hk hp hj=>?_) (λhp e h=>?_) ⟨by simp[Env.ofArgs_at],by simp⟩ (by simp)
 ·obtain⟨x,hx',hm⟩:=aP hk;have hi:=iS hx';have hc:=he x.id;simp only[mG]at hi;by_cases hp:x.id=i
  ·rw[PH hp]at hc;refine⟨_,by simp only[wa,↓reduceIte,Nat.reduceAdd,Nat.reduceLeDiff,O7,h1,h2,hv,hi,hc];rfl,?_⟩;simp[hx',hp]
  ·rw[Po hp]at hc;refine⟨_,by simp only[wa,↓reduceIte,Nat.reduceAdd,Nat.reduceLeDiff,O7,h1,h2,hv,hi,hc];rfl,?_⟩;simp[hx',hp,h1,h2,hv]
 ·rw[iV,xu hk (λx hx=>by rw[hx]at hp;exact hp) λj hj' x hx=>by have:=hj j hj';rw[hx]at this;exact this]
 ·rw[iV,sq λk hk x hx=>by have:=hp k hk;rw[hx]at this;exact this];simp only[wa,↓reduceIte]
theorem Ad:∀l:List Int,cC 1 (l.map λn=>PV.int .i64 n)=true
 |[]=>rfl
 |x::l=>by simp only[PM,cC,PV.cells,PJ,PT,O7,PY,Ad l]
def Oq(l:List b6):Prop:=l.length<1000000000/\∀x∈l,x.note.args.length<1000000000
theorem IE(x y:Int):aY .eql .i64 x .i64 y=some (.bool (decide (x=y))):=by
 by_cases h:x=y<;>simp[aY,h]
def O3(l:List b6)(w:Int):Nat:=l.countP λx=>decide (x.note.to=w)
theorem ff:(false==true)=false:=rfl
theorem tf:(true==false)=false:=rfl
theorem tt:(false==false)=true:=rfl
theorem MD(x y:SID):ou true [false,false,false] (.agg [.int .i64 x.frm,.int .i64 x.n,.int .i64 x.copy]) (.agg [.int .i64 y.frm,.int .i64 y.n,.int .i64 y.copy])=some (.bool (!decide (x=y))):=by
 have:decide (x=y)=(decide (x.frm=y.frm)&&(decide (x.n=y.n)&&decide (x.copy=y.copy))):=by
  cases x;cases y;simp only[SID.mk.injEq,Bool.decide_and]
 rw[this];have h:∀a b:Int,(a==b)=decide (a=b):=λa b=>by by_cases h:a=b<;>simp[h]
 simp[ou,aK,h]
theorem JU(l:List Int):aO (eI l)=eI l:=by
 have:∀l:List Int,aB (l.map λn=>PV.int .i64 n)=l.map λn=>PV.int .i64 n:=by
  intro l;induction l with
  |nil=>rfl
  |cons x l ih=>simp only[PM,aB,aO,ih]
 simp only[eI,aO,this]
def LX(l:List b6)(m:b6):Nat:=match l.findIdx? (λx=> !gg x.id m.id)with|some k=>k|none=>l.length
theorem Jh(l:List b6)(m:b6):LX l m<=l.length:=by
 unfold LX;split
 ·rename_i k hk;rw[List.findIdx?_eq_some_iff_getElem]at hk;obtain⟨h,_⟩:=hk;omega
 ·exact Pf _
def GI(l:List b6)(m:b6):List b6:=l.take (LX l m)++[m]++l.drop (LX l m)
theorem MV(x:Int):aY .geq .i64 x .i64 0=some (.bool (!decide (x<0))):=by
 simp only[aY,ne_eq,Qg,PS];by_cases h:x<0
 ·simp[h]
 ·simp[h];omega
end Gv
namespace Gv
open Go
theorem gM{C:bK}{V:Nat->List PV->List PV->Bool}{HD BD:VC}{b n:Nat}(hn:n<1099511627775)(St:Nat->Env->Prop)(Q:Env->Prop)
  (hgo:∀k env,k<n->St k env->∃e1 e2,aF C V HD env=some (.norm e1)/\aF C V BD e1=some (.norm e2)/\St (k+1) e2)
  (hend:∀env,St n env->∃e,aF C V HD env=some (.exit b e)/\Q e){env:Env}(h0:St 0 env):
  ∃e,aF C V (.block b (.loop (.seq HD BD))) env=some (.norm e)/\Q e:=by
 have key:∀(d k j:Nat)(env:Env),k+d=n->St k env->∃e,dS (aF C V (.seq HD BD)) (d+1+j) env=some (.exit b e)/\Q e:=by
  intro d;induction d with
  |zero=>
   intro k j env hk hs;obtain rfl:k=n:=by omega
   obtain⟨e,h1,h2⟩:=hend env hs;refine⟨e,?_,h2⟩;rw[show 0+1+j=j+1 by omega];simp only[dS,aF,h1]
  |succ d ih=>
   intro k j env hk hs;obtain⟨e1,e2,h1,h2,h3⟩:=hgo k env (by omega) hs;obtain⟨e,h4,h5⟩:=ih (k+1) j e2 (by omega) h3;refine⟨e,?_,h5⟩;rw[show d+1+1+j=(d+1+j)+1 by omega];simp only[dS,aF,h1,h2];exact h4
 obtain⟨e,h1,h2⟩:=key n 0 (1099511627775-n) env (by omega) h0;refine⟨e,fD ?_,h2⟩;simp only[aF];rw[show n+1+(1099511627775-n)=zq by rw[pR];omega]at h1;exact h1
theorem EY{C:bK}{V:Nat->List PV->List PV->Bool}{HD BD:VC}{b n k0:Nat}(hn:n<1099511627775)(hk0:k0<=n)(p:Nat->Bool)(R:PV)(St:Nat->Env->Prop)(Q:Env->Prop)
  (hgo:∀k env,k0<=k->k<n->p k=true->St k env->∃e1 e2,aF C V HD env=some (.norm e1)/\aF C V BD e1=some (.norm e2)/\St (k+1) e2)
  (hret:∀k env,k0<=k->k<n->p k=false->St k env->∃e1,aF C V HD env=some (.norm e1)/\aF C V BD e1=some (.ret R []))
  (hend:∀env,St n env->∃e,aF C V HD env=some (.exit b e)/\Q e){env:Env}(h0:St k0 env):
  ((∀k,k0<=k->k<n->p k=true)/\∃e,aF C V (.block b (.loop (.seq HD BD))) env=some (.norm e)/\Q e)∨((∃k,k0<=k/\k<n/\p k=false)/\aF C V (.block b (.loop (.seq HD BD))) env=some (.ret R [])):=by
 have key:∀(d k j:Nat)(env:Env),k+d=n->k0<=k->St k env->((∀i,k<=i->i<n->p i=true)/\∃e,dS (aF C V (.seq HD BD)) (d+1+j) env=some (.exit b e)/\Q e)∨((∃i,k<=i/\i<n/\p i=false)/\dS (aF C V (.seq HD BD)) (d+1+j) env=some (.ret R [])):=by
  intro d;induction d with
  |zero=>
   intro k j env hk hkk hs;obtain rfl:k=n:=by omega
   obtain⟨e,h1,h2⟩:=hend env hs;refine .inl ⟨λi hi hi'=>by omega,e,?_,h2⟩;rw[show 0+1+j=j+1 by omega];simp only[dS,aF,h1]
  | succ d ih=>
   intro k j env hk hkk hs;rw[show d+1+1+j=(d+1+j)+1 by omega];cases hp:p k with
   | true=>
    obtain⟨e1,e2,h1,h2,h3⟩:=hgo k env hkk (by omega) hp hs;rcases ih (k+1) j e2 (by omega) (by omega) h3 with⟨a,e,h4,h5⟩|⟨⟨i,a1,a2,a3⟩,h4⟩
    ·refine .inl ⟨λi hi hi'=>?_,e,?_,h5⟩
     ·rcases Pt k i with h|h
      ·exact a i (by omega) hi'
      ·obtain rfl:i=k:=by omega
       exact hp
     ·simp only[dS,aF,h1,h2];exact h4
    ·refine .inr ⟨⟨i,by omega,a2,a3⟩,?_⟩;simp only[dS,aF,h1,h2];exact h4
   |false=>
    obtain⟨e1,h1,h2⟩:=hret k env hkk (by omega) hp hs;refine .inr ⟨⟨k,Pf _,by omega,hp⟩,?_⟩;simp only[dS,aF,h1,h2]
 have hb:n-k0+1+(1099511627775-(n-k0))=zq:=by rw[pR];omega
 rcases key (n-k0) k0 (1099511627775-(n-k0)) env (by omega) (Pf _) h0 with⟨a,e,h1,h2⟩|⟨a,h1⟩
 ·refine .inl ⟨a,e,fD ?_,h2⟩;rw[hb]at h1;simp only[aF];exact h1
 ·refine .inr ⟨a,aM ?_⟩;rw[hb]at h1;simp only[aF];exact h1
theorem pk{C:bK}{V:Nat->List PV->List PV->Bool}{HD BD K:VC}{b n k0:Nat}{X0:Option ti}(hn:n<1099511627775)(hk0:k0<=n)(p:Nat->Bool)(R:PV)(St:Nat->Env->Prop)(Q:Env->Prop)
  (hgo:∀k env,k0<=k->k<n->p k=true->St k env->∃e1 e2,aF C V HD env=some (.norm e1)/\aF C V BD e1=some (.norm e2)/\St (k+1) e2)
  (hret:∀k env,k0<=k->k<n->p k=false->St k env->∃e1,aF C V HD env=some (.norm e1)/\aF C V BD e1=some (.ret R []))
  (hend:∀env,St n env->∃e,aF C V HD env=some (.exit b e)/\Q e)
  (hk:(∀k,k0<=k->k<n->p k=true)->∀e,Q e->aF C V K e=X0)(hr:∀k,k0<=k->k<n->p k=false->X0=some (.ret R [])){env:Env}(h0:St k0 env):
  aF C V (.seq (.block b (.loop (.seq HD BD))) K) env=X0:=by
 rcases EY (C:=C) (V:=V) hn hk0 p R St Q hgo hret hend h0 with⟨a,e,h1,h2⟩|⟨⟨k,a1,a2,a3⟩,h1⟩
 ·exact nx h1 (hk a e h2)
 ·rw[ai h1,hr k a1 a2 a3]
def mF(l:List b6)(k:Nat):Bool:=match l[k]?,l[k+1]? with|some x,some y=>gg x.id y.id|_,_=>true
def iB(l:List b6):Bool:=decide (∀k,k<l.length->mF l k=true)
theorem nR{k:Nat}(h0:1<=k)(h:k<4611686018427387903):aY .sub .i64 (k:Int) .i64 1=some (.int .i64 ((k-1:Nat):Int)):=by
 have e:IntKind.i64.wrap ((k:Int)-1)=((k-1:Nat):Int):=(sA (by omega) (by omega)).trans (by omega);simp only[aY,ne_eq,Qg,PS,e]
theorem rh{l:List b6}{k:Nat}(h0:1<=k)(hk:k<l.length):∃x y,l[k-1]?=some x/\l[k]?=some y/\mF l (k-1)=gg x.id y.id:=by
 have h1:k-1<l.length:=by omega
 refine⟨l[k-1],l[k],Pa h1,Pa hk,?_⟩;unfold mF;rw[show k-1+1=k by omega,Pa h1,Pa hk]
theorem uU{l:List b6}{n:Nat}(hn:l.length<=n)(h:∀k,1<=k->k<n->mF l (k-1)=true):iB l=true:=PH λk hk=>by
 by_cases hk1:k+1<l.length
 ·have:=h (k+1) (by omega) (by omega);simpa using this
 ·have:l[k+1]?=none:=Ph (by omega);unfold mF;rw[this];cases l[k]?<;>rfl
theorem xJ{l:List b6}{k:Nat}(h0:1<=k)(hk:k<l.length)(h:mF l (k-1)=false):iB l=false:=Po λh'=>by
 have:=h' (k-1) (by omega);rw[this]at h;cases h
theorem DP{m:Nat}(l:List b6)(hl:l.length<1000000000):ak aI (m+2) 38 [cg l]=some (.bool (iB l),[]):=by
 refine an (F:=jk) rfl rfl rfl ?_ (.inr rfl);have hle:=λx y:b6=>Ie (m:=m) x.id y.id;generalize ak aI (m+1)=C at*;generalize bc aI=V;have ll:cB (cg l)=some (.int .i64 l.length):=pa;simp only[y9,A2]at hle;simp only[jk,mJ];refine nx (by simp only[wa];rfl) ?_;rw[oR];refine nx (by simp only[wa,↓reduceIte];rfl) ?_;refine pk (n:=max l.length 1) (k0:=1) (by omega) (by omega) (λk=>mF l (k-1)) (.bool false) (λk e=>e 0=cg l/\e 3=.int .i64 (k:Nat)) (λ_=>True)
  (λk e hk hkn hp ⟨h1,h2⟩=>?_) (λk e hk hkn hp ⟨h1,h2⟩=>?_) (λe ⟨h1,h2⟩=>?_) (λa e _=>?_) (λk a1 a2 a3=>?_) ⟨by simp[Env.ofArgs_at],by simp⟩
 ·obtain⟨x,y,hx,hy,hr⟩:=rh hk (show k<l.length by omega);rw[hr]at hp;have ix:=iS hx;have iy:=iS hy;have hc:=hle x y;rw[hp]at hc;have hb:aY .lss .i64 (k:Int) .i64 (l.length:Int)=some (.bool true):=by rw[cK,PH (by omega)]
  have hs:=nR hk (by omega);have ha:=bV (k:=k) (by omega);simp only[mG]at ix iy;refine⟨_,_,by simp only[wa,↓reduceIte,h1,h2,ll,hb];rfl,by simp only[wa,↓reduceIte,Nat.reduceEqDiff,Nat.reduceAdd,Nat.reduceLeDiff,O7,h1,h2,hs,ix,iy,hc,un,QF,ha];rfl,?_⟩;simp[h1]
 ·obtain⟨x,y,hx,hy,hr⟩:=rh hk (show k<l.length by omega);rw[hr]at hp;have ix:=iS hx;have iy:=iS hy;have hc:=hle x y;rw[hp]at hc;have hb:aY .lss .i64 (k:Int) .i64 (l.length:Int)=some (.bool true):=by rw[cK,PH (by omega)]
  have hs:=nR hk (by omega);simp only[mG]at ix iy;exact⟨_,by simp only[wa,↓reduceIte,h1,h2,ll,hb];rfl,by simp only[wa,↓reduceIte,Nat.reduceAdd,Nat.reduceLeDiff,O7,h1,h2,hs,ix,iy,hc,un,Qy]⟩
 ·have hb:aY .lss .i64 (max l.length 1:Nat) .i64 (l.length:Int)=some (.bool false):=by rw[cK,Po (by omega)]
  exact⟨_,by simp only[wa,↓reduceIte,h1,h2,ll,hb];rfl,trivial⟩
 ·rw[uU (by omega) a];simp only[wa,↓reduceIte]
 ·rw[xJ a1 (by omega) a3]
theorem zB{C:bK}{V:Nat->List PV->List PV->Bool}{c:X}{BODY K:VC}{vi b n k0:Nat}{X0:Option ti}(hn:n<1099511627775)(hk0:k0<=n)(p:Nat->Bool)(R:PV)(St:Nat->Env->Prop)(Q:Env->Prop)
  (hgo:∀k env,k0<=k->k<n->p k=true->St k env->∃e1 e2,aF C V (FW c b) env=some (.norm e1)/\aF C V (.seq BODY (rU vi)) e1=some (.norm e2)/\St (k+1) e2)
  (hret:∀k env,k0<=k->k<n->p k=false->St k env->∃e1,aF C V (FW c b) env=some (.norm e1)/\aF C V (.seq BODY (rU vi)) e1=some (.ret R []))
  (hend:∀env,St n env->∃e,aF C V (FW c b) env=some (.exit b e)/\Q e)
  (hk:(∀k,k0<=k->k<n->p k=true)->∀e,Q e->aF C V K e=X0)(hr:∀k,k0<=k->k<n->p k=false->X0=some (.ret R [])){env:Env}(h0:St k0 env):
  aF C V (.seq (.block b (.loop (.seq (.st [.asg [c] []]) (.seq (.cond c .skip (.exit b)) (.seq BODY (rU vi)))))) K) env=X0:=by
 have:=pk (C:=C) (V:=V) (K:=K) hn hk0 p R St Q hgo hret hend hk hr h0;rw[<-this,aF.eq_def,aF.eq_def C V (.seq _ K)];simp only;rw[Ha]
theorem EV{m:Nat}(l:List b6)(hl:l.length<1000000000):ak aI (m+5) 37 [cg l]=some (.bool (iB l),[]):=by
 refine an (F:=jq) rfl rfl rfl ?_ (.inr rfl);have hle:=λx y:b6=>JJ (m:=m) x.id y.id;generalize ak aI (m+4)=C at*;generalize bc aI=V;have ll:cB (cg l)=some (.int .i64 l.length):=pa;simp only[y9,A2]at hle;simp only[jq,ng];refine nx (by simp only[wa];rfl) ?_;rw[oR];refine nx (by simp only[wa,↓reduceIte,Env.ofArgs_at,PK,ll];rfl) ?_;have g0:aY .gtr .i64 ((0:Nat):Int) .i64 0=some (.bool false):=rfl;have g1:∀k:Nat,1<=k->aY .gtr .i64 (k:Int) .i64 0=some (.bool true):=λk hk=>by simp[aY];omega
 have a0:=bV (k:=0) (by omega);refine zB (n:=l.length) (k0:=0) (by omega) (by omega) (λk=>decide (k=0)||mF l (k-1)) (.bool false) (λk e=>e 0=cg l/\e 5=.int .i64 l.length/\e 6=.int .i64 (k:Nat)) (λ_=>True)
  (λk e hk hkn hp ⟨h1,h2,h3⟩=>?_) (λk e hk hkn hp ⟨h1,h2,h3⟩=>?_) (λe ⟨h1,h2,h3⟩=>?_) (λa e _=>?_) (λk a1 a2 a3=>?_) ⟨by simp[Env.ofArgs_at],by simp,by simp⟩
 ·have hb:aY .lss .i64 (k:Int) .i64 (l.length:Int)=some (.bool true):=by rw[cK,PH (by omega)]
  by_cases hk0:k=0
  ·subst hk0;refine⟨_,_,p7 (n:=l.length) (k:=0) (by simp only[X.ev,h3,h2,ac,bin,cK])|>.trans (by rw[O9 hkn]),by simp only[wa,↓reduceIte,Nat.reduceEqDiff,reduceCtorEq,Nat.reduceAdd,h1,h3,g0,ff,a0];rfl,?_⟩;simp[h1,h2]
  ·simp only[Po hk0,QN]at hp;obtain⟨x,y,hx,hy,hr⟩:=rh (show 1<=k by omega) hkn;rw[hr]at hp;have ix:=iS hx;have iy:=iS hy;have hc:=hle x y;rw[hp]at hc;have hs:=nR (show 1<=k by omega) (by omega);have ha:=bV (k:=k) (by omega);have hg:=g1 k (by omega);simp only[mG]at ix iy;refine⟨_,_,p7 (n:=l.length) (k:=k) (by simp only[X.ev,h3,h2,ac,bin,cK])|>.trans (by rw[O9 hkn]),by simp only[wa,↓reduceIte,Nat.reduceEqDiff,reduceCtorEq,Nat.reduceAdd,Nat.reduceLeDiff,O7,h1,h3,hg,hs,ix,iy,hc,un,QF,ha];rfl,?_⟩;simp[h1,h2]
 ·have hk0:k≠0:=λh=>by simp[h]at hp
  simp only[Po hk0,QN]at hp;obtain⟨x,y,hx,hy,hr⟩:=rh (show 1<=k by omega) hkn;rw[hr]at hp;have ix:=iS hx;have iy:=iS hy;have hc:=hle x y;rw[hp]at hc;have hs:=nR (show 1<=k by omega) (by omega);have hg:=g1 k (by omega);simp only[mG]at ix iy;exact⟨_,p7 (n:=l.length) (k:=k) (by simp only[X.ev,h3,h2,ac,bin,cK])|>.trans (by rw[O9 hkn]),by simp only[wa,↓reduceIte,Nat.reduceEqDiff,reduceCtorEq,Nat.reduceAdd,Nat.reduceLeDiff,O7,h1,h3,hg,hs,ix,iy,hc,un,Qy]⟩
 ·exact⟨_,p7 (n:=l.length) (k:=l.length) (by simp only[X.ev,h3,h2,ac,bin,cK])|>.trans (by rw[Pd (Nat.lt_irrefl _)]),trivial⟩
 ·rw[uU (n:=l.length) (Pf _) λk h1 h2=>by
   have:=a k (Qf _) h2;simpa[show k≠0 by omega]using this]
  simp only[wa,↓reduceIte]
 ·have hk0:k≠0:=λh=>by simp[h]at a3
  simp only[Po hk0,QN]at a3;rw[xJ (by omega) a2 a3]
def qS(l:List b6)(k:Nat):Bool:=match l[k]? with|some x=>decide (x.note.args.length<=6)|none=>true
def p5(l:List b6):Bool:=decide (l.length<=50)&&decide (∀k,k<l.length->qS l k=true)
theorem F8{l:List b6}{k:Nat}(hk:k<l.length)(h:qS l k=false):p5 l=false:=by
 have:decide (∀k,k<l.length->qS l k=true)=false:=Po λh'=>by rw[h' k hk]at h;cases h
 rw[p5,this,Q4]
theorem Ea{l:List b6}(h:∀k,k<min l.length 60->qS l k=true):p5 l=decide (l.length<=50):=by
 by_cases hl:l.length<=50
 ·have:decide (∀k,k<l.length->qS l k=true)=true:=PH λk hk=>h k (by omega);rw[p5,this,P2]
 ·rw[p5,Po hl,PX]
theorem Hj{m:Nat}(l:List b6):ak aI (m+1) 30 [cg l]=some (.bool (p5 l),[]):=by
 refine an (F:=kg) rfl rfl rfl ?_ (.inr rfl);generalize ak aI m=C;generalize bc aI=V;have ll:cB (cg l)=some (.int .i64 l.length):=pa;simp only[kg,n8];refine nx (by simp only[wa];rfl) ?_;rw[oR];refine nx (by simp only[wa,↓reduceIte];rfl) ?_;refine pk (n:=min l.length 60) (k0:=0) (by omega) (by omega) (λk=>qS l k) (.bool false) (λk e=>e 0=cg l/\e 3=.int .i64 (k:Nat)) (λe=>e 0=cg l)
  (λk e hk hkn hp ⟨h1,h2⟩=>?_) (λk e hk hkn hp ⟨h1,h2⟩=>?_) (λe ⟨h1,h2⟩=>?_) (λa e h1=>?_) (λk a1 a2 a3=>?_) ⟨by simp[Env.ofArgs_at],by simp⟩
 ·obtain⟨x,hx,_⟩:=aP (show k<l.length by omega);simp only[qS,hx]at hp;have ix:=iS hx;have hb:aY .lss .i64 (k:Int) .i64 (l.length:Int)=some (.bool true):=by rw[cK,PH (by omega)]
  have hb2:aY .lss .i64 (k:Int) .i64 60=some (.bool true):=by rw[sZ,PH (by omega)]
  have hg:aY .gtr .i64 (x.note.args.length:Int) .i64 6=some (.bool false):=by
   have:=Qb hp;simp[aY]<;>omega
  have ha:=bV (k:=k) (by omega);simp only[mG]at ix;refine⟨_,_,by simp only[wa,↓reduceIte,h1,h2,ll,hb,hb2];rfl,by simp only[wa,↓reduceIte,h1,h2,ix,dP,hg,ha];rfl,?_⟩;simp[h1]
 ·obtain⟨x,hx,_⟩:=aP (show k<l.length by omega);simp only[qS,hx]at hp;have ix:=iS hx;have hb:aY .lss .i64 (k:Int) .i64 (l.length:Int)=some (.bool true):=by rw[cK,PH (by omega)]
  have hb2:aY .lss .i64 (k:Int) .i64 60=some (.bool true):=by rw[sZ,PH (by omega)]
  have hg:aY .gtr .i64 (x.note.args.length:Int) .i64 6=some (.bool true):=by
   have:=of_decide_eq_false hp;simp[aY]<;>omega
  simp only[mG]at ix;exact⟨_,by simp only[wa,↓reduceIte,h1,h2,ll,hb,hb2];rfl,by simp only[wa,↓reduceIte,h1,h2,ix,dP,hg]⟩
 ·by_cases hq:l.length<=60
  ·have hb:aY .lss .i64 (min l.length 60:Nat) .i64 (l.length:Int)=some (.bool false):=by rw[cK,Po (by omega)]
   exact⟨_,by simp only[wa,↓reduceIte,h1,h2,ll,hb],h1⟩
  ·have hb:aY .lss .i64 (min l.length 60:Nat) .i64 (l.length:Int)=some (.bool true):=by rw[cK,PH (by omega)]
   have hb2:aY .lss .i64 (min l.length 60:Nat) .i64 60=some (.bool false):=by rw[sZ,Po (by omega)]
   exact⟨_,by simp only[wa,↓reduceIte,h1,h2,ll,hb,hb2],h1⟩
 ·have hq:aY .leq .i64 (l.length:Int) .i64 50=some (.bool (p5 l)):=by
   rw[Ea λk hk=>a k (Qf _) hk];simp only[aY,ne_eq,Qg,PS];by_cases h:l.length<=50
   ·simp[h]<;>omega
   ·simp[h]<;>omega
  simp only[wa,↓reduceIte,h1,ll,hq]
 ·rw[F8 (by omega) a3]
theorem E4{l:List b6}{i:SID}(h:¬iV l i<0):∃(k:Nat)(x:b6),iV l i=k/\l.findIdx? (λx=>decide (x.id=i))=some k/\l[k]?=some x/\x.id=i:=by
 unfold iV lk at h⊢;split at h
 ·rename_i k hk;have hk':=hk;rw[List.findIdx?_eq_some_iff_getElem]at hk;obtain⟨h1,h2,_⟩:=hk;exact⟨k,l[k],rfl,hk',Pa h1,Qb h2⟩
 ·omega
theorem Iw{l:List b6}{m x:b6}:x∈GI l m↔x=m∨x∈l:=by
 simp only[GI,QS,Px];constructor
 ·rintro ((h|h)|h)
  ·exact .inr (Qo h)
  ·exact .inl h
  ·exact .inr (Qn h)
 ·rintro (h|h)
  ·exact .inl (.inr h)
  ·rw[<-Q8 (LX l m) l]at h;rcases List.mem_append.1 h with h|h
   ·exact .inl (.inl h)
   ·exact .inr h
theorem Ih(l:List b6)(m:b6):(GI l m).length=l.length+1:=by
 have:=Jh l m;simp only[GI,Pu,Pw,P7,PJ,PT];omega
structure Oj (now inn:List b6):Prop where
 len:now.length=inn.length
 mem:∀x,x∈now↔x∈inn
 few:∀x∈inn,x.note.args.length<=6
def Of(k:Nat):b6:=⟨⟨(k %3:Nat),(k/3:Nat),0⟩,⟨(k %2:Nat),0,[(k:Int)]⟩⟩
structure Og (now:List b6) (ins:List Bool) (b:Nat):Prop where
 len:ins.length=30
 mem:∀x,x∈now↔∃k,k<b/\ins[k]?=some true/\x=Of k
end Gv
