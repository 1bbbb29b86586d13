/- A part of the proof that the law is true of all its inputs, by an interpreter that is proved sound. -/
import Derived.Test.YtfaeljmkbadgdaaPa
import Derived.Test.YtfaeljmkbadgdaaVw
namespace Gv
open Go
def gR(op:Int):Bool:=decide (1<=op/\op<=25)
def cF(op:Int):Int:=if op=1 then 1 else if op=5∨op=6 then 2 else if op=7 then 3 else if op=20∨op=21 then 4 else if op=22 then 5 else 0
def vp(op:Int):Int:=if op=4∨(9<=op/\op<=13)∨(15<=op/\op<=18)then 2 else if op=2∨op=3∨op=6∨op=14∨op=19∨op=21∨op=22 then 1 else 0
def o8(op:Int):Int:=if op=3∨op=4 then 2 else if op=1∨op=5∨op=7∨op=8∨(9<=op/\op<=19)then 1 else 0
def b8{α:Type}(f:α->Int):List α->Int
 |[]=>0
 |x::l=>if f x=0 then b8 f l else f x
def hO(hs n:Nat)(args:Int)(i:SInstr):Int:=
 if gR i.op=false then 1
 else if cF i.op=0/\i.a≠0 then 1
 else if cF i.op=4/\(i.a<0∨(n:Int)<i.a)then 4
 else if cF i.op=2/\(i.a<0∨8<=i.a)then 6
 else if cF i.op=3/\(i.a<0∨args<=i.a)then 6
 else if cF i.op=5/\(i.a<0∨(hs:Int)<=i.a)then 7
 else 0
def kv(p:SProg)(h:SHandler):Int:=
 if h.args<0∨4<h.args then 1 else if 64<h.code.length then 3 else b8 (hO p.handlers.length h.code.length h.args) h.code
def lB(p:SProg)(k:Int):Int:=match p.handlers[k.toNat]? with|some h=>h.args|none=>0
def pm(p:SProg)(a:SActor):Int:=
 if 8<a.regs.length then 3 else if a.cap<0∨16<a.cap then 1
 else if a.timer≠ -1/\(a.timer<0∨(p.handlers.length:Int)<=a.timer∨lB p a.timer≠0)then 7
 else if a.armed=true/\a.timer= -1 then 1 else 0
def oX(p:SProg)(n:SNote):Int:=
 if n.to<0∨(p.actors.length:Int)<=n.to∨n.handler<0∨(p.handlers.length:Int)<=n.handler then 7
 else if(n.args.length:Int)≠lB p n.handler then 1 else 0
def pG(p:SProg):Int:=
 if 16<p.handlers.length∨8<p.actors.length∨16<p.boot.length then 3
 else if p.actors.length=0∨p.fuel<1∨256<p.fuel then 1
 else if b8 (kv p) p.handlers≠0 then b8 (kv p) p.handlers
 else if b8 (pm p) p.actors≠0 then b8 (pm p) p.actors
 else b8 (oX p) p.boot
theorem CN{α:Type}{f:α->Int}{l:List α}{k:Nat}{x:α}(hx:l[k]?=some x)(hn:f x≠0)(hj:∀j,j<k->∀y,l[j]?=some y->f y=0):b8 f l=f x:=by
 induction l generalizing k with
 |nil=>simp at hx
 | cons y l ih=>
  cases k with
  |zero=>simp at hx;subst hx;simp[b8,hn]
  |succ k=>
   have h0:=hj 0 (by omega) y rfl;simp only[b8,h0,Oa];exact ih (by simpa using hx) λj hj' z hz=>hj (j+1) (by omega) z (by simpa using hz)
theorem Cv{α:Type}{f:α->Int}{l:List α}(h:∀k,k<l.length->∀x,l[k]?=some x->f x=0):b8 f l=0:=by
 induction l with
 |nil=>rfl
 |cons y l ih=>
  have h0:=h 0 (by simp) y rfl;simp only[b8,h0,Oa];exact ih λk hk x hx=>h (k+1) (by simp;omega) x (by simpa using hx)
theorem iG{α:Type}{f:α->Int}:∀{l:List α},b8 f l=0↔∀x∈l,f x=0
 |[]=>by simp[b8]
 |y::l=>by
  by_cases h:f y=0
  ·simp[b8,h,iG (l:=l)]
  ·simp[b8,h]
def dV(p:SProg)(i:SInstr):Int:=vp i.op+if i.op=22 then lB p i.a else 0
def d8(k:Nat)(i:SInstr):List Nat:=if i.op=20 then[i.a.toNat]else if i.op=21 then[i.a.toNat,k+1]else if i.op=25 then[]else[k+1]
structure Hy (p:SProg) (code:List SInstr) (D:Nat->Int):Prop where
 start:D 0=0
 low:∀k i,code[k]?=some i->D k≠ -1->dV p i<=D k/\D k-dV p i+o8 i.op<=8
 go:∀k i,code[k]?=some i->D k≠ -1->∀j∈d8 k i,D j=D k-dV p i+o8 i.op
def gW(p:SProg)(code:List SInstr):Prop:=∃D,Hy p code D
theorem vL{C:bT}{V:Nat->List PV->List PV->Bool}{HD BD:VC}{b m:Nat}(hm:m<1099511627775)(St:Nat->Env->Prop)(Q:Env->Prop)(R:PV->Prop)
  (hstep:∀m env,St m env->(∃e,aI C V HD env=some (.exit b e)/\Q e)∨∃e1,aI C V HD env=some (.norm e1)/\((∃e2 m',aI C V BD e1=some (.norm e2)/\m'<m/\St m' e2)∨∃v,aI C V BD e1=some (.ret v [])/\R v))
  {env:Env}(h0:St m env):
  (∃e,aI C V (.block b (.loop (.seq HD BD))) env=some (.norm e)/\Q e)∨∃v,aI C V (.block b (.loop (.seq HD BD))) env=some (.ret v [])/\R v:=by
 have key:∀(m j:Nat)(env:Env),St m env->(∃e,dv (aI C V (.seq HD BD)) (m+1+j) env=some (.exit b e)/\Q e)∨∃v,dv (aI C V (.seq HD BD)) (m+1+j) env=some (.ret v [])/\R v:=by
  intro m;induction m using Nat.strongRecOn with
  | ind m ih=>
   intro j env hs;rw[show m+1+j=(m+j)+1 by omega];rcases hstep m env hs with⟨e,h1,h2⟩|⟨e1,h1,⟨e2,m',h2,h3,h4⟩|⟨v,h2,h3⟩⟩
   ·exact .inl ⟨e,by simp only[dv,aI,h1],h2⟩
   ·have:=ih m' h3 (m+j-(m'+1)) e2 h4;rw[show m'+1+(m+j-(m'+1))=m+j by omega]at this;simp only[dv,aI,h1,h2];exact this
   ·exact .inr ⟨v,by simp only[dv,aI,h1,h2],h3⟩
 have hb:m+1+(1099511627775-m)=yV:=by rw[ou];omega
 rcases key m (1099511627775-m) env h0 with⟨e,h1,h2⟩|⟨v,h1,h2⟩
 ·refine .inl ⟨e,iA ?_,h2⟩;rw[hb]at h1;simp only[aI];exact h1
 ·refine .inr ⟨v,aU ?_,h2⟩;rw[hb]at h1;simp only[aI];exact h1
def cQ(p:SProg)(i:SInstr)(d:Int):Int:=d-dV p i+o8 i.op
theorem sL(op:Int):0<=o8 op/\o8 op<=2:=by
 unfold o8;split
 ·omega
 ·split<;>omega
theorem Bw(op:Int):0<=vp op/\vp op<=2:=by
 unfold vp;split
 ·omega
 ·split<;>omega
structure WalkI (p:SProg) (code:List SInstr) (out:List Int) (ex:Nat->Prop):Prop where
 len:out.length=code.length+1
 low:∀(k:Nat)(d:Int),out[k]?=some d->d= -1∨(0<=d/\d<=8)
 o0:out[0]?=some 0
 sound:∀D,Hy p code D->∀(k:Nat)(d:Int),out[k]?=some d->d≠ -1->D k=d
 closed:∀(k:Nat)(i:SInstr)(d:Int),code[k]?=some i->out[k]?=some d->d≠ -1->ex k∨(dV p i<=d/\cQ p i d<=8/\∀j∈d8 k i,out[j]?=some (cQ p i d))
theorem WalkI.mono{p:SProg}{code:List SInstr}{out:List Int}{ex ex':Nat->Prop}(h:WalkI p code out ex)(he:∀k,ex k->ex' k):WalkI p code out ex':=
 ⟨h.len,h.low,h.o0,h.sound,λk i d h1 h2 h3=>(h.closed k i d h1 h2 h3).imp_left (he k)⟩
theorem z8(p:SProg)(code:List SInstr):WalkI p code ((List.replicate (code.length+1) (-1)).set 0 0) (λk=>k=0):=by
 have hg:∀(k:Nat)(d:Int),((List.replicate (code.length+1) (-1:Int)).set 0 0)[k]?=some d->(k=0/\d=0)∨(k≠0/\d= -1):=λk d h=>by
  by_cases hk:0=k
  ·subst hk;rw[Ok (by simp)]at h;cases h;exact .inl ⟨rfl,rfl⟩
  ·rw[Ox hk,OA]at h;split at h<;>cases h
   exact .inr ⟨λh=>hk h.symm,rfl⟩
 refine⟨by simp,λk d h=>?_,Ok (by simp),λD hD k d h hd=>?_,λk i d _ h hd=>?_⟩
 ·rcases hg k d h with⟨_,rfl⟩|⟨_,rfl⟩<;>simp
 ·rcases hg k d h with⟨rfl,rfl⟩|⟨_,rfl⟩
  ·exact hD.start
  ·exact absurd rfl hd
 ·rcases hg k d h with⟨rfl,rfl⟩|⟨_,rfl⟩
  ·exact .inl rfl
  ·exact absurd rfl hd
theorem EZ{p:SProg}{code:List SInstr}{out:List Int}{ex:Nat->Prop}(h:WalkI p code out ex){at' k:Nat}{i:SInstr}{d:Int}(hi:code[at']?=some i)(hd:out[at']?=some d)(hd1:d≠ -1)
  (h1:dV p i<=d)(h2:cQ p i d<=8)(hk:k∈d8 at' i)(hk2:out[k]?=some (-1)):WalkI p code (out.set k (cQ p i d)) (λj=>ex j∨j=k):=by
 have hp:=sL i.op;have hkl:=(List.getElem?_eq_some_iff.1 hk2).1;have hn0:0<=cQ p i d:=by unfold cQ;omega
 have hne:∀(j:Nat)(v:Int),v≠ -1->out[j]?=some v->(out.set k (cQ p i d))[j]?=some v:=λj v hv hj=>by
  rw[Ox (λe=>by subst e;rw[hk2]at hj;cases hj;exact hv rfl)];exact hj
 refine⟨by rw[List.length_set];exact h.len,λj v hj=>?_,hne 0 0 (by omega) h.o0,λD hD j v hj hv=>?_,λj i' v hc hj hv=>?_⟩
 ·by_cases e:k=j
  ·subst e;rw[Ok hkl]at hj;cases hj;omega
  ·rw[Ox e]at hj;exact h.low j v hj
 ·by_cases e:k=j
  ·subst e;rw[Ok hkl]at hj;cases hj;have a:=h.sound D hD at' d hd hd1;rw[hD.go at' i hi (by rw[a];exact hd1) k hk,a];rfl
  ·rw[Ox e]at hj;exact h.sound D hD j v hj hv
 ·by_cases e:k=j
  ·exact .inl (.inr e.symm)
  ·rw[Ox e]at hj;rcases h.closed j i' v hc hj hv with a|⟨a,b,c⟩
   ·exact .inl (.inl a)
   ·refine .inr ⟨a,b,λj' hj'=>hne j' _ ?_ (c j' hj')⟩;have:=sL i'.op;unfold cQ;omega
theorem Cu{p:SProg}{code:List SInstr}{out:List Int}{ex:Nat->Prop}(h:WalkI p code out ex)(he:∀k,k<code.length->¬ex k):gW p code:=by
 refine⟨λk=>(out[k]?).getD (-1),by simp[h.o0],λk i hi hd=>?_,λk i hi hd j hj=>?_⟩
 all_goals
  have hk:=(List.getElem?_eq_some_iff.1 hi).1;obtain⟨d,hk2,_⟩:=bo (l:=out) (k:=k) (by rw[h.len];omega);simp only[hk2,NQ]at hd⊢;rcases h.closed k i d hi hk2 hd with a|⟨a,b,c⟩
  ·exact absurd a (he k hk)
 ·exact⟨a,b⟩
 ·simp only[c j hj,NQ];rfl
theorem zn{p:SProg}{code:List SInstr}{out:List Int}{ex:Nat->Prop}(h:WalkI p code out ex){k:Nat}{i:SInstr}{d:Int}(hi:code[k]?=some i)(hd:out[k]?=some d)(hd1:d≠ -1)(hb:¬(dV p i<=d/\cQ p i d<=8)):¬gW p code:=λ⟨D,hD⟩=>by
 have a:=h.sound D hD k d hd hd1;have:=hD.low k i hi (by rw[a];exact hd1);rw[a]at this;exact hb this
theorem Fp{p:SProg}{code:List SInstr}{out:List Int}{ex:Nat->Prop}(h:WalkI p code out ex){k j:Nat}{i:SInstr}{d v:Int}(hi:code[k]?=some i)(hd:out[k]?=some d)(hd1:d≠ -1)(hj:j∈d8 k i)(hv:out[j]?=some v)(hv1:v≠ -1)(hb:v≠cQ p i d):¬gW p code:=λ⟨D,hD⟩=>by
 have a:=h.sound D hD k d hd hd1;have b:=h.sound D hD j v hv hv1;have:=hD.go k i hi (by rw[a];exact hd1) j hj;rw[a,b]at this;exact hb this
theorem vw{p:SProg}{code:List SInstr}{out:List Int}{ex ex':Nat->Prop}(h:WalkI p code out ex){k:Nat}(he:∀j,ex j->ex' j∨j=k)
  (hk:∀i d,code[k]?=some i->out[k]?=some d->d≠ -1->dV p i<=d/\cQ p i d<=8/\∀j∈d8 k i,out[j]?=some (cQ p i d)):WalkI p code out ex':=
 ⟨h.len,h.low,h.o0,h.sound,λj i d h1 h2 h3=>by
  rcases h.closed j i d h1 h2 h3 with a|a
  ·rcases he j a with a|rfl
   ·exact .inl a
   ·exact .inr (hk i d h1 h2 h3)
  ·exact .inr a⟩
def o7(out:List Int):Nat:=out.countP λd=>decide (d= -1)
theorem Cl{out:List Int}{k:Nat}{v:Int}(hk:out[k]?=some (-1))(hv:v≠ -1):o7 (out.set k v)+1=o7 out:=by
 obtain⟨hl,he⟩:=List.getElem?_eq_some_iff.1 hk;have hpos:0<out.countP λd=>decide (d= -1):=List.countP_pos_iff.2 ⟨-1,ND hk,by simp⟩;unfold o7;rw[List.countP_set hl,he];simp[hv];omega
theorem E2(out:List Int):o7 out<=out.length:=List.countP_le_length
theorem Gz{hs n k:Nat}{args:Int}{i:SInstr}(h:hO hs n args i=0)(hk:k<n):∀j∈d8 k i,j<=n:=by
 intro j hj;unfold d8 at hj;unfold hO cF at h;by_cases h20:i.op=20
 ·simp[h20,gR]at h hj;omega
 ·by_cases h21:i.op=21
  ·simp[h21,gR]at h hj;omega
  ·by_cases h25:i.op=25
   ·simp[h25]at hj
   ·simp[h20,h21,h25]at hj;omega
structure dH where
 regs:List Int
 armed:Bool
 down:Int
 sent:Int
 over:Int
 deriving DecidableEq
structure ax where
 actors:List dH
 mail:List bv
 used:SBudget
 deriving DecidableEq
def gB(l:dH):List PV:=[eI l.regs,.bool l.armed,.int .i64 l.down,.int .i64 l.sent,.int .i64 l.over]
def kg(l:dH):PV:=.agg (gB l)
def bS(l:List dH):PV:=.lst (l.map kg) false
def aC(w:ax):List PV:=[bS w.actors,aY w.mail,.int .i64 w.used.drop,.int .i64 w.used.dup,.int .i64 w.used.time,.int .i64 w.used.crash]
def cq(w:ax):PV:=.agg (aC w)
def mD(l:List SHandler):PV:=.lst (l.map cw) false
def nn(l:List SActor):PV:=.lst (l.map gy) false
def mi(l:List SNote):PV:=.lst (l.map jr) false
theorem aB(p:SProg):xF p=[mD p.handlers,nn p.actors,mi p.boot,.int .i64 p.fuel]:=rfl
def aJ(p:SProg):PV:=.agg (xF p)
theorem tY{k:Nat}{l:List dH}{x:dH}(h:l[k]?=some x):au 5 (bS l) (.int .i64 (k:Nat))=some (.lptr (gB x)):=nJ (f:=kg) h rfl
theorem fF{l:List dH}:dp (bS l)=some (.int .i64 l.length):=kS
theorem iz{l:List SHandler}:dp (mD l)=some (.int .i64 l.length):=kS
theorem fC{l:List SActor}:dp (nn l)=some (.int .i64 l.length):=kS
theorem mH{l:List SNote}:dp (mi l)=some (.int .i64 l.length):=kS
theorem sW{k:Nat}{l:List SHandler}{x:SHandler}(h:l[k]?=some x):au 2 (mD l) (.int .i64 (k:Nat))=some (.lptr [.int .i64 x.args,eD x.code]):=Hv h
theorem tI{k:Nat}{l:List SActor}{x:SActor}(h:l[k]?=some x):au 4 (nn l) (.int .i64 (k:Nat))=some (.lptr [eI x.regs,.int .i64 x.cap,.int .i64 x.timer,.bool x.armed]):=HS h
theorem Ds{k:Nat}{l:List SNote}{x:SNote}(h:l[k]?=some x):au 3 (mi l) (.int .i64 (k:Nat))=some (.lptr [.int .i64 x.to,.int .i64 x.handler,eI x.args]):=HB h
def pS(a:SActor):dH:=⟨a.regs,a.armed,0,0,0⟩
def iS(a:SActor)(l:dH):Bool:=decide (l.regs.length=a.regs.length/\0<=l.down/\l.down<=4/\0<=l.sent/\0<=l.over/\l.sent<=2199023255551/\l.over<=2199023255551/\¬(l.armed=true/\a.timer= -1))
def As(w:ax)(k:Int):Int:=match w.actors[k.toNat]? with|some l=>l.sent|none=>0
def jq(p:SProg)(w:ax)(m:bv):Bool:=
 decide (oX p m.note=0/\0<=m.id.n/\0<=m.id.copy/\m.id.copy<=w.used.dup/\ -1<=m.id.frm/\m.id.frm<w.actors.length/\(if m.id.frm= -1 then m.id.n<16 else m.id.n<As w m.id.frm))
def w9(b:SBudget):Bool:=decide (0<=b.drop/\0<=b.dup/\0<=b.time/\0<=b.crash/\b.drop<=1000/\b.dup<=1000/\b.time<=1000/\b.crash<=1000)
def vG(a b:Int):Int:=max (IntKind.i64.wrap (a-b)) 0
def fK(b:SBudget)(w:ax):SBudget:=⟨vG b.drop w.used.drop,vG b.dup w.used.dup,vG b.time w.used.time,vG b.crash w.used.crash⟩
theorem Hz(x y:Int):a9 .gtr .i64 x .i64 y=some (.bool (decide (y<x))):=by simp[a9]
theorem HN(x y:Int):a9 .leq .i64 x .i64 y=some (.bool (decide (x<=y))):=by simp[a9]
theorem HF(x y:Int):a9 .geq .i64 x .i64 y=some (.bool (decide (y<=x))):=by simp[a9]
theorem Lf(x y:Int):a9 .neq .i64 x .i64 y=some (.bool (!decide (x=y))):=by by_cases h:x=y<;>simp[a9,h]
theorem wb:type_of%(And.intro wa (And.intro @BH (And.intro @Lf (And.intro @vP (And.intro @Hz (And.intro @HN (And.intro @HF (And.intro @Po (And.intro @decide_false (And.intro @Pk (And.intro @Bool.not_false (And.intro @ff (And.intro @tf (And.intro @tt (And.intro @Env.ofArgs_at (And.intro @NQ (And.intro @un.eq_1 @un.eq_2))))))))))))))))):=And.intro wa (And.intro @BH (And.intro @Lf (And.intro @vP (And.intro @Hz (And.intro @HN (And.intro @HF (And.intro @Po (And.intro @decide_false (And.intro @Pk (And.intro @Bool.not_false (And.intro @ff (And.intro @tf (And.intro @tt (And.intro @Env.ofArgs_at (And.intro @NQ (And.intro @un.eq_1 @un.eq_2))))))))))))))))
theorem G2{m:Nat}(op:Int):aj aK (m+1) 190 [.int .i64 op]=some (.bool (gR op),[]):=by
 refine aq (F:=ly) rfl rfl rfl ?_ (.inr rfl);unfold gR;by_cases h1:1<=op<;>by_cases h2:op<=25<;>simp only[wb,↓reduceIte,ly,h1,h2,Pq]
theorem C1{m:Nat}(op:Int):aj aK (m+1) 189 [.int .i64 op]=some (.int .i64 (cF op),[]):=by
 rcases(show op=1∨op=5∨op=6∨op=7∨op=20∨op=21∨op=22∨(op≠1/\op≠5/\op≠6/\op≠7/\op≠20/\op≠21/\op≠22)by omega)with rfl|rfl|rfl|rfl|rfl|rfl|rfl|⟨h1,h2,h3,h4,h5,h6,h7⟩
 iterate 7 (·kernel_rfl)
 refine aq (F:=iV) rfl rfl rfl ?_ (.inr rfl);simp only[cF,h1,h2,h3,h4,h5,h6,h7,O8,Oc];simp only[wb,↓reduceIte,Nat.reduceEqDiff,iV,h1,h2,h3,h4,h5,h6,h7]
theorem yj{op:Int}(h:gR op=true):op=1∨op=2∨op=3∨op=4∨op=5∨op=6∨op=7∨op=8∨op=9∨op=10∨op=11∨op=12∨op=13∨op=14∨op=15∨op=16∨op=17∨op=18∨op=19∨op=20∨op=21∨op=22∨op=23∨op=24∨op=25:=by
 have:=OJ h;omega
theorem IA{m:Nat}(op:Int)(h:gR op=true):aj aK (m+1) 178 [.int .i64 op]=some (.int .i64 (vp op),[]):=by
 rcases yj h with rfl|rfl|rfl|rfl|rfl|rfl|rfl|rfl|rfl|rfl|rfl|rfl|rfl|rfl|rfl|rfl|rfl|rfl|rfl|rfl|rfl|rfl|rfl|rfl|rfl<;>kernel_rfl
theorem IN{m:Nat}(op:Int)(h:gR op=true):aj aK (m+1) 158 [.int .i64 op]=some (.int .i64 (o8 op),[]):=by
 rcases yj h with rfl|rfl|rfl|rfl|rfl|rfl|rfl|rfl|rfl|rfl|rfl|rfl|rfl|rfl|rfl|rfl|rfl|rfl|rfl|rfl|rfl|rfl|rfl|rfl|rfl<;>kernel_rfl
theorem Au(op:Int):cF op=0∨cF op=1∨cF op=2∨cF op=3∨cF op=4∨cF op=5:=by
 unfold cF
 repeat' split
 all_goals omega
theorem Hi{m:Nat}(p:SProg)(h:SHandler)(i:SInstr):aj aK (m+2) 176 [aJ p,cw h,jX i]=some (.int .i64 (hO p.handlers.length h.code.length h.args i),[]):=by
 refine aq (F:=cD) rfl rfl rfl ?_ (.inr rfl);have ho:=C1 (m:=m) i.op;have hv:=G2 (m:=m) i.op;generalize aj aK (m+1)=C at*;generalize bi aK=V;simp only[aJ,aB,cw,jX,hO];have lc:dp (eD h.code)=some (.int .i64 h.code.length):=lY;have lh:dp (mD p.handlers)=some (.int .i64 p.handlers.length):=iz;have c1:(mD p.handlers).isCell=true:=rfl;have c2:(nn p.actors).isCell=true:=rfl;have c3:(mi p.boot).isCell=true:=rfl;have d1:(mD p.handlers).fits none=true:=rfl;have d2:(nn p.actors).fits none=true:=rfl;have d3:(mi p.boot).fits none=true:=rfl;cases hq:gR i.op with
 |false=>
  rw[hq]at hv;simp only[wb,↓reduceIte,Nat.reduceEqDiff,Nat.reduceAdd,Int.reduceNeg,Nq,un,cD,ho,hv,c1,c2,c3,d1,d2,d3]
 |true=>
  rw[hq]at hv;rcases Au i.op with hk|hk|hk|hk|hk|hk<;>rw[hk]at ho⊢
  ·by_cases h1:i.a=0<;>simp only[wb,↓reduceIte,Nat.reduceEqDiff,reduceCtorEq,Nat.reduceAdd,Int.reduceEq,Int.reduceLT,Int.reduceLE,Int.reduceNeg,Nq,un,cD,ho,hv,h1,lc,lh,c1,c2,c3,d1,d2,d3,ne_eq,OB,OY,Pq,Pp]
  ·simp only[wb,↓reduceIte,Nat.reduceEqDiff,reduceCtorEq,Nat.reduceAdd,Int.reduceEq,Int.reduceNeg,Nq,un,cD,ho,hv,lc,lh,c1,c2,c3,d1,d2,d3,ne_eq,Pp]
  ·by_cases h1:i.a<0<;>by_cases h2:8<=i.a<;>simp only[wb,↓reduceIte,Nat.reduceEqDiff,reduceCtorEq,Nat.reduceAdd,Int.reduceEq,Int.reduceNeg,Nq,un,cD,ho,hv,h1,h2,lc,lh,c1,c2,c3,d1,d2,d3,ne_eq,Pq,Pp,O8,or_true,true_or,or_false,false_or]
  ·by_cases h1:i.a<0<;>by_cases h2:h.args<=i.a<;>simp only[wb,↓reduceIte,Nat.reduceEqDiff,reduceCtorEq,Nat.reduceAdd,Int.reduceEq,Int.reduceNeg,Nq,un,cD,ho,hv,h1,h2,lc,lh,c1,c2,c3,d1,d2,d3,ne_eq,Pq,Pp,O8,or_true,true_or,or_false,false_or]
  ·by_cases h1:i.a<0<;>by_cases h2:(h.code.length:Int)<i.a<;>simp only[wb,↓reduceIte,Nat.reduceEqDiff,reduceCtorEq,Nat.reduceAdd,Int.reduceEq,Int.reduceNeg,Nq,un,cD,ho,hv,h1,h2,lc,lh,c1,c2,c3,d1,d2,d3,ne_eq,Pq,Pp,O8,or_true,or_false,false_or]
  ·by_cases h1:i.a<0<;>by_cases h2:(p.handlers.length:Int)<=i.a<;>simp only[wb,↓reduceIte,Nat.reduceEqDiff,reduceCtorEq,Nat.reduceAdd,Int.reduceEq,Int.reduceNeg,Nq,un,cD,ho,hv,h1,h2,lc,lh,c1,c2,c3,d1,d2,d3,ne_eq,Pq,Pp,O8,or_true,true_or,or_false,false_or]
theorem Gn{C:bT}{V:Nat->List PV->List PV->Bool}{c:X}{BODY K:VC}{vi b:Nat}{X0:Option sE}{α:Type}{l:List α}(f:α->Int)(hn:l.length<1099511627775)(St:Env->Prop)
  (hset:∀env v,St env->St (env.set vi v))
  (hc:∀(k:Nat) env,k<=l.length->St env->env vi=.int .i64 (k:Nat)->c.ev env=some (.bool (decide (k<l.length))))
  (hbody:∀(k:Nat)(x:α) env,l[k]?=some x->x∈l->St env->env vi=.int .i64 (k:Nat)->∃r,aI C V BODY env=some r/\(f x≠0->r=.ret (.int .i64 (f x)) [])/\(f x=0->∃env',r=.norm env'/\St env'/\env' vi=.int .i64 (k:Nat)))
  (hr:b8 f l≠0->X0=some (.ret (.int .i64 (b8 f l)) []))(hk:b8 f l=0->∀e,St e->aI C V K e=X0)
  {env:Env}(h0:St env)(hv:env vi=.int .i64 0):
  aI C V (.seq (.block b (.loop (.seq (GJ c b) (.seq BODY (tN vi))))) K) env=X0:=by
 refine zh (n:=l.length) hn (λk=>(l[k]?).elim false λx=> !decide (f x=0)) (λk=>(l[k]?).elim .junk λx=>.int .i64 (f x)) (λ_ e=>St e) (λk e v h=>hset e v h) (λk e h1 h2 h3=>hc k e h1 h2 h3) (λk e hk2 hs hv2=>?_) (λk hk2 hp hj=>?_) (λhp e he=>?_) h0 hv
 ·obtain⟨x,hx,hm⟩:=bo hk2;obtain⟨r,h1,h2,h3⟩:=hbody k x e hx hm hs hv2;refine⟨r,h1,?_⟩;by_cases hf:f x=0
  ·simp only[hx,Option.elim,hf,Po,Pk,NL,Oc];obtain⟨e',a,b,c⟩:=h3 hf;exact⟨e',a,b,c⟩
  ·simp only[hx,Option.elim,hf,decide_false,Bool.not_false,Oa];exact h2 hf
 ·obtain⟨x,hx,hm⟩:=bo hk2;simp only[hx,Option.elim,NV,N4]at hp⊢;have:=CN hx hp λj hj' y hy=>by
   have:=hj j hj';simpa[hy]using this
  rw[hr (by rw[this];exact hp),this]
 ·refine hk (Cv λk hk2 x hx=>?_) e he;have:=hp k hk2;simpa[hx]using this
theorem n8{C:bT}{V:Nat->List PV->List PV->Bool}{c:X}{BODY K:VC}{vi b:Nat}{X0:Option sE}{α:Type}{l:List α}(f:α->Int)(hn:l.length<1099511627775)(St:Env->Prop)
  (hset:∀env v,St env->St (env.set vi v))
  (hc:∀(k:Nat) env,k<=l.length->St env->env vi=.int .i64 (k:Nat)->c.ev env=some (.bool (decide (k<l.length))))
  (hbody:∀(k:Nat)(x:α) env,l[k]?=some x->x∈l->St env->env vi=.int .i64 (k:Nat)->∃r,aI C V BODY env=some r/\(f x≠0->r=.ret (.int .i64 (f x)) [])/\(f x=0->∃env',r=.norm env'/\St env'/\env' vi=.int .i64 (k:Nat)))
  (hr:b8 f l≠0->X0=some (.ret (.int .i64 (b8 f l)) []))(hk:b8 f l=0->∀e,St e->aI C V K e=X0)
  {env:Env}(h0:St env)(hv:env vi=.int .i64 0):
  aI C V (.seq (.block b (.loop (.seq (.st [.asg [c] []]) (.seq (.cond c .skip (.exit b)) (.seq BODY (tN vi)))))) K) env=X0:=by
 have:=Gn (C:=C) (V:=V) (K:=K) (X0:=X0) (b:=b) f hn St hset hc hbody hr hk h0 hv;rw[<-this,aI.eq_def,aI.eq_def C V (.seq _ K)];simp only;rw[Gi]
theorem dB(l:List SHandler):(mD l).isCell=true:=rfl
theorem dF(l:List SActor):(nn l).isCell=true:=rfl
theorem dA(l:List SNote):(mi l).isCell=true:=rfl
theorem dC(l:List SHandler):(mD l).fits none=true:=rfl
theorem dE(l:List SActor):(nn l).fits none=true:=rfl
theorem dz(l:List SNote):(mi l).fits none=true:=rfl
theorem Dl{m:Nat}(p:SProg)(h:SHandler)(hl:h.code.length<1000000000):aj aK (m+3) 151 [aJ p,cw h]=some (.int .i64 (kv p h),[]):=by
 refine aq (F:=gV) rfl rfl rfl ?_ (.inr rfl);have hi:=λi=>Hi (m:=m) p h i;generalize aj aK (m+2)=C at*;generalize bi aK=V;have lc:dp (eD h.code)=some (.int .i64 h.code.length):=lY;simp only[aJ,aB,cw,jX]at hi;simp only[aJ,aB,cw,kv,gV,kT];refine nx (by simp only[wb,↓reduceIte,Nat.reduceAdd,Nq,dB,dF,dA,dC,dE,dz];rfl) ?_;by_cases h1:h.args<0
 ·refine an ?_;simp only[wb,↓reduceIte,Nat.reduceEqDiff,h1,true_or]
 by_cases h2:4<h.args
 ·refine an ?_;simp only[wb,↓reduceIte,Nat.reduceEqDiff,h1,h2,or_true]
 by_cases h3:64<h.code.length
 ·refine an ?_;have h3':(64:Int)<(h.code.length:Int):=by omega
  simp only[wb,↓reduceIte,Nat.reduceEqDiff,h1,h2,h3,h3',lc,O8]
 have h3':¬(64:Int)<(h.code.length:Int):=by omega
 refine nx (by simp only[wb,↓reduceIte,Nat.reduceEqDiff,h1,h2,h3',lc];rfl) ?_;rw[rU];refine nx (by simp only[wb,↓reduceIte,Nat.reduceEqDiff,lc];rfl) ?_;simp only[h1,h2,h3,O8,Oc];refine n8 (l:=h.code) (hO p.handlers.length h.code.length h.args) (by omega) (λe=>e 2=.lptr [mD p.handlers,nn p.actors,mi p.boot,.int .i64 p.fuel]/\e 3=.lptr [.int .i64 h.args,eD h.code]/\e 21=eD h.code/\e 22=.int .i64 h.code.length) (λe v h=>by simpa using h)
  (λk e hk hs hv=>by simp only[X.ev,hv,hs.2.2.2,ac,bin,eA]) (λk x e hx hm ⟨s1,s2,s3,s4⟩ hv=>?_) (λhn=>rfl) (λhz e he=>?_) ⟨by simp,by simp,by simp,by simp⟩ (by simp)
 ·have ix:=xT hx;have hi:=hi x;by_cases hz:hO p.handlers.length h.code.length h.args x=0
  ·rw[hz]at hi;refine⟨_,by simp only[wb,↓reduceIte,Nat.reduceEqDiff,Nat.reduceAdd,Nq,s1,s2,s3,hv,ix,dB,dF,dA,dC,dE,dz,hi];rfl,λh=>absurd hz h,λ_=>⟨_,rfl,?_⟩⟩;simp[s1,s2,s3,s4,hv]
  ·refine⟨_,by simp only[wb,↓reduceIte,Nat.reduceEqDiff,Nat.reduceAdd,Nq,s1,s2,s3,hv,ix,dB,dF,dA,dC,dE,dz,hi,hz],λ_=>rfl,λh=>absurd h hz⟩
 ·rw[hz];simp only[wb,↓reduceIte]
theorem sv{p:SProg}{k:Int}(h0:0<=k)(h1:k<p.handlers.length):∃(j:Nat)(h:SHandler),k=(j:Int)/\p.handlers[j]?=some h/\lB p k=h.args:=by
 obtain⟨j,rfl⟩:=OK h0;obtain⟨h,hh,_⟩:=bo (l:=p.handlers) (k:=j) (by omega);exact⟨j,h,rfl,hh,by simp[lB,hh]⟩
theorem Gh{m:Nat}(p:SProg)(a:SActor):aj aK (m+1) 153 [aJ p,gy a]=some (.int .i64 (pm p a),[]):=by
 refine aq (F:=jA) rfl rfl rfl ?_ (.inr rfl);generalize aj aK m=C at*;generalize bi aK=V;have lr:dp (eI a.regs)=some (.int .i64 a.regs.length):=jm;have lh:dp (mD p.handlers)=some (.int .i64 p.handlers.length):=iz;simp only[aJ,aB,gy,pm,jA];by_cases h1:8<a.regs.length
 ·have h1':(8:Int)<(a.regs.length:Int):=by omega
  simp only[wb,↓reduceIte,Nat.reduceEqDiff,Nat.reduceAdd,Int.reduceNeg,Nq,dB,dF,dA,dC,dE,dz,lr,h1,h1']
 have h1':¬(8:Int)<(a.regs.length:Int):=by omega
 by_cases h2:a.cap<0
 ·simp only[wb,↓reduceIte,Nat.reduceEqDiff,Nat.reduceAdd,Int.reduceNeg,Nq,dB,dF,dA,dC,dE,dz,lr,h1,h1',h2,true_or]
 by_cases h3:16<a.cap
 ·simp only[wb,↓reduceIte,Nat.reduceEqDiff,Nat.reduceAdd,Int.reduceNeg,Nq,dB,dF,dA,dC,dE,dz,lr,h1,h1',h2,h3,or_true]
 by_cases h4:a.timer= -1
 ·cases h5:a.armed<;>simp only[wb,↓reduceIte,Nat.reduceEqDiff,Nat.reduceAdd,Int.reduceLT,Int.reduceNeg,Nq,dB,dF,dA,dC,dE,dz,lr,lh,h1,h1',h2,h3,h4,O8,ne_eq,OB,Pp]
 by_cases h6:a.timer<0
 ·simp only[wb,↓reduceIte,Nat.reduceEqDiff,reduceCtorEq,Nat.reduceAdd,Int.reduceNeg,Nq,dB,dF,dA,dC,dE,dz,lr,lh,h1,h1',h2,h3,h4,h6,O8,ne_eq,OY,true_or]
 by_cases h7:(p.handlers.length:Int)<=a.timer
 ·simp only[wb,↓reduceIte,Nat.reduceEqDiff,reduceCtorEq,Nat.reduceAdd,Int.reduceNeg,Nq,dB,dF,dA,dC,dE,dz,lr,lh,h1,h1',h2,h3,h4,h6,h7,O8,or_true,true_or,ne_eq,OY]
 obtain⟨j,h,hj,hh,ha⟩:=sv (p:=p) (k:=a.timer) (by omega) (by omega);have ih:=sW hh;rw[hj]at h4 h6 h7 ha;by_cases h8:h.args=0
 ·cases h5:a.armed<;>simp only[wb,↓reduceIte,Nat.reduceEqDiff,Nat.reduceAdd,Int.reduceNeg,Nq,dB,dF,dA,dC,dE,dz,lr,lh,hj,ha,ih,h1,h1',h2,h3,h4,h6,h7,h8,O8,ne_eq,OB,OY,Pq]
 ·cases h5:a.armed<;>simp only[wb,↓reduceIte,Nat.reduceEqDiff,Nat.reduceAdd,Int.reduceNeg,Nq,dB,dF,dA,dC,dE,dz,lr,lh,hj,ha,ih,h1,h1',h2,h3,h4,h6,h7,h8,O8,or_true,ne_eq,OY]
theorem EU{m:Nat}(p:SProg)(n:SNote):aj aK (m+1) 155 [aJ p,jr n]=some (.int .i64 (oX p n),[]):=by
 refine aq (F:=kR) rfl rfl rfl ?_ (.inr rfl);generalize aj aK m=C at*;generalize bi aK=V;have lr:dp (eI n.args)=some (.int .i64 n.args.length):=jm;have lh:dp (mD p.handlers)=some (.int .i64 p.handlers.length):=iz;have la:dp (nn p.actors)=some (.int .i64 p.actors.length):=fC;simp only[aJ,aB,jr,oX,kR];by_cases h1:n.to<0
 ·simp only[wb,↓reduceIte,Nat.reduceEqDiff,Nat.reduceAdd,Nq,dB,dF,dA,dC,dE,dz,h1,true_or]
 by_cases h2:(p.actors.length:Int)<=n.to
 ·simp only[wb,↓reduceIte,Nat.reduceEqDiff,Nat.reduceAdd,Nq,dB,dF,dA,dC,dE,dz,la,h1,h2,true_or,or_true]
 by_cases h3:n.handler<0
 ·simp only[wb,↓reduceIte,Nat.reduceEqDiff,Nat.reduceAdd,Nq,dB,dF,dA,dC,dE,dz,la,h1,h2,h3,true_or,or_true]
 by_cases h4:(p.handlers.length:Int)<=n.handler
 ·simp only[wb,↓reduceIte,Nat.reduceEqDiff,Nat.reduceAdd,Nq,dB,dF,dA,dC,dE,dz,la,lh,h1,h2,h3,h4,or_true]
 obtain⟨j,h,hj,hh,ha⟩:=sv (p:=p) (k:=n.handler) (by omega) (by omega);have ih:=sW hh;rw[hj]at h3 h4 ha;by_cases h8:(n.args.length:Int)=h.args
 ·simp only[wb,↓reduceIte,Nat.reduceEqDiff,Nat.reduceAdd,Nq,dB,dF,dA,dC,dE,dz,la,lh,lr,hj,ha,ih,h1,h2,h3,h4,h8,O8,ne_eq,OB]
 ·simp only[wb,↓reduceIte,Nat.reduceEqDiff,Nat.reduceAdd,Nq,dB,dF,dA,dC,dE,dz,la,lh,lr,hj,ha,ih,h1,h2,h3,h4,h8,O8,ne_eq,OY]
theorem GR{m fn:Nat}(p:SProg)(f:SHandler->Int)(l:List SHandler)(hl:l.length<1000000000)(hC:∀x∈l,aj aK m fn [aJ p,cw x]=some (.int .i64 (f x),[]))(hV:∀x,bi aK fn [aJ p,cw x] []=true):
  aj aK (m+1) 150 [aJ p,mD l,.fn fn []]=some (.int .i64 (b8 f l),[]):=by
 refine aq (F:=cN) rfl rfl rfl ?_ (.inr rfl);generalize aj aK m=C at*;generalize bi aK=V at*;simp only[aJ,aB,cw]at hC hV;simp only[aJ,aB,cN,eO];refine nx (by simp only[wb,↓reduceIte,Nat.reduceAdd,Nq,dB,dF,dA,dC,dE,dz];rfl) ?_;rw[rU];refine nx (by simp only[wb,↓reduceIte,Nat.reduceEqDiff,iz];rfl) ?_;refine n8 (l:=l) f (by omega) (λe=>e 2=.fn fn []/\e 3=.lptr [mD p.handlers,nn p.actors,mi p.boot,.int .i64 p.fuel]/\e 10=mD l/\e 11=.int .i64 l.length) (λe v h=>by simpa using h)
  (λk e hk hs hv=>by simp only[X.ev,hv,hs.2.2.2,ac,bin,eA]) (λk x e hx hm ⟨s1,s2,s3,s4⟩ hv=>?_) (λhn=>rfl) (λhz e he=>?_) ⟨by simp[Env.ofArgs_at],by simp,by simp[],by simp⟩ (by simp)
 ·have ix:=sW hx;have hi:=hC x hm;have hv':=hV x;by_cases hz:f x=0
  ·rw[hz]at hi;refine⟨_,by simp only[wb,↓reduceIte,Nat.reduceEqDiff,Nat.reduceAdd,Nq,s1,s2,s3,hv,ix,dB,dF,dA,dC,dE,dz,hv',NT,hi];rfl,λh=>absurd hz h,λ_=>⟨_,rfl,?_⟩⟩;simp[s1,s2,s3,s4,hv]
  ·refine⟨_,by simp only[wb,↓reduceIte,Nat.reduceEqDiff,Nat.reduceAdd,Nq,s1,s2,s3,hv,ix,dB,dF,dA,dC,dE,dz,hv',NT,hi,hz],λ_=>rfl,λh=>absurd h hz⟩
 ·rw[hz];simp only[wb,↓reduceIte]
theorem FE{m fn:Nat}(p:SProg)(f:SActor->Int)(l:List SActor)(hl:l.length<1000000000)(hC:∀x∈l,aj aK m fn [aJ p,gy x]=some (.int .i64 (f x),[]))(hV:∀x,bi aK fn [aJ p,gy x] []=true):
  aj aK (m+1) 152 [aJ p,nn l,.fn fn []]=some (.int .i64 (b8 f l),[]):=by
 refine aq (F:=dq) rfl rfl rfl ?_ (.inr rfl);generalize aj aK m=C at*;generalize bi aK=V at*;simp only[aJ,aB,gy]at hC hV;simp only[aJ,aB,dq,fJ];refine nx (by simp only[wb,↓reduceIte,Nat.reduceAdd,Nq,dB,dF,dA,dC,dE,dz];rfl) ?_;rw[rU];refine nx (by simp only[wb,↓reduceIte,Nat.reduceEqDiff,fC];rfl) ?_;refine n8 (l:=l) f (by omega) (λe=>e 2=.fn fn []/\e 3=.lptr [mD p.handlers,nn p.actors,mi p.boot,.int .i64 p.fuel]/\e 10=nn l/\e 11=.int .i64 l.length) (λe v h=>by simpa using h)
  (λk e hk hs hv=>by simp only[X.ev,hv,hs.2.2.2,ac,bin,eA]) (λk x e hx hm ⟨s1,s2,s3,s4⟩ hv=>?_) (λhn=>rfl) (λhz e he=>?_) ⟨by simp[Env.ofArgs_at],by simp,by simp[],by simp⟩ (by simp)
 ·have ix:=tI hx;have hi:=hC x hm;have hv':=hV x;by_cases hz:f x=0
  ·rw[hz]at hi;refine⟨_,by simp only[wb,↓reduceIte,Nat.reduceEqDiff,Nat.reduceAdd,Nq,s1,s2,s3,hv,ix,dB,dF,dA,dC,dE,dz,hv',NT,hi];rfl,λh=>absurd hz h,λ_=>⟨_,rfl,?_⟩⟩;simp[s1,s2,s3,s4,hv]
  ·refine⟨_,by simp only[wb,↓reduceIte,Nat.reduceEqDiff,Nat.reduceAdd,Nq,s1,s2,s3,hv,ix,dB,dF,dA,dC,dE,dz,hv',NT,hi,hz],λ_=>rfl,λh=>absurd h hz⟩
 ·rw[hz];simp only[wb,↓reduceIte]
theorem F5{m fn:Nat}(p:SProg)(f:SNote->Int)(l:List SNote)(hl:l.length<1000000000)(hC:∀x∈l,aj aK m fn [aJ p,jr x]=some (.int .i64 (f x),[]))(hV:∀x,bi aK fn [aJ p,jr x] []=true):
  aj aK (m+1) 154 [aJ p,mi l,.fn fn []]=some (.int .i64 (b8 f l),[]):=by
 refine aq (F:=dw) rfl rfl rfl ?_ (.inr rfl);generalize aj aK m=C at*;generalize bi aK=V at*;simp only[aJ,aB,jr]at hC hV;simp only[aJ,aB,dw,gh];refine nx (by simp only[wb,↓reduceIte,Nat.reduceAdd,Nq,dB,dF,dA,dC,dE,dz];rfl) ?_;rw[rU];refine nx (by simp only[wb,↓reduceIte,Nat.reduceEqDiff,mH];rfl) ?_;refine n8 (l:=l) f (by omega) (λe=>e 2=.fn fn []/\e 3=.lptr [mD p.handlers,nn p.actors,mi p.boot,.int .i64 p.fuel]/\e 10=mi l/\e 11=.int .i64 l.length) (λe v h=>by simpa using h)
  (λk e hk hs hv=>by simp only[X.ev,hv,hs.2.2.2,ac,bin,eA]) (λk x e hx hm ⟨s1,s2,s3,s4⟩ hv=>?_) (λhn=>rfl) (λhz e he=>?_) ⟨by simp[Env.ofArgs_at],by simp,by simp[],by simp⟩ (by simp)
 ·have ix:=Ds hx;have hi:=hC x hm;have hv':=hV x;by_cases hz:f x=0
  ·rw[hz]at hi;refine⟨_,by simp only[wb,↓reduceIte,Nat.reduceEqDiff,Nat.reduceAdd,Nq,s1,s2,s3,hv,ix,dB,dF,dA,dC,dE,dz,hv',NT,hi];rfl,λh=>absurd hz h,λ_=>⟨_,rfl,?_⟩⟩;simp[s1,s2,s3,s4,hv]
  ·refine⟨_,by simp only[wb,↓reduceIte,Nat.reduceEqDiff,Nat.reduceAdd,Nq,s1,s2,s3,hv,ix,dB,dF,dA,dC,dE,dz,hv',NT,hi,hz],λ_=>rfl,λh=>absurd h hz⟩
 ·rw[hz];simp only[wb,↓reduceIte]
structure pC (p:SProg):Prop where
 hs:p.handlers.length<1000000000
 as:p.actors.length<1000000000
 ns:p.boot.length<1000000000
 code:∀h∈p.handlers,h.code.length<1000000000
 regs:∀a∈p.actors,a.regs.length<1000000000
 args:∀n∈p.boot,n.args.length<1000000000
theorem wc:type_of%(And.intro wb (And.intro @dB (And.intro @dF (And.intro @dA (And.intro @dC (And.intro @dE (And.intro @dz (And.intro @ne_eq.{1} (And.intro @OB (And.intro @OY (And.intro @and_self (And.intro @Pj (And.intro @true_and (And.intro @Pq (And.intro @Pp (And.intro @O8 (And.intro @or_true (And.intro @true_or (And.intro @or_false @false_or))))))))))))))))))):=And.intro wb (And.intro @dB (And.intro @dF (And.intro @dA (And.intro @dC (And.intro @dE (And.intro @dz (And.intro @ne_eq.{1} (And.intro @OB (And.intro @OY (And.intro @and_self (And.intro @Pj (And.intro @true_and (And.intro @Pq (And.intro @Pp (And.intro @O8 (And.intro @or_true (And.intro @true_or (And.intro @or_false @false_or))))))))))))))))))
theorem GE{m:Nat}(p:SProg)(hp:pC p):aj aK (m+5) 139 [aJ p]=some (.int .i64 (pG p),[]):=by
 refine aq (F:=jF) rfl rfl rfl ?_ (.inr rfl);have e1:=GR (m:=m+3) (fn:=151) p (kv p) p.handlers hp.hs (λx hx=>Dl (m:=m) p x (hp.code x hx)) (λx=>rfl);have e2:=FE (m:=m+3) (fn:=153) p (pm p) p.actors hp.as (λx hx=>Gh (m:=m+2) p x) (λx=>rfl);have e3:=F5 (m:=m+3) (fn:=155) p (oX p) p.boot hp.ns (λx hx=>EU (m:=m+2) p x) (λx=>rfl);generalize aj aK (m+4)=C at*;generalize bi aK=V;have hm:∀f,Hm f (.tup [])=some (.fn f []):=λ_=>rfl;simp only[aJ,aB]at e1 e2 e3;simp only[aJ,aB,pG,jF];refine nx (by simp only[wc,↓reduceIte,Nat.reduceAdd,Nq];rfl) ?_;have g:∀a b:Nat,((a:Int)<(b:Int))=(a<b):=λa b=>by simp
 by_cases h1:16<p.handlers.length
 ·have h1':(16:Int)<(p.handlers.length:Int):=by omega
  refine an ?_;simp only[wc,↓reduceIte,iz,h1,h1']
 have h1':¬(16:Int)<(p.handlers.length:Int):=by omega
 by_cases h2:8<p.actors.length
 ·have h2':(8:Int)<(p.actors.length:Int):=by omega
  refine an ?_;simp only[wc,↓reduceIte,Nat.reduceEqDiff,iz,fC,h1,h1',h2,h2']
 have h2':¬(8:Int)<(p.actors.length:Int):=by omega
 by_cases h3:16<p.boot.length
 ·have h3':(16:Int)<(p.boot.length:Int):=by omega
  refine an ?_;simp only[wc,↓reduceIte,Nat.reduceEqDiff,iz,fC,mH,h1,h1',h2,h2',h3,h3']
 have h3':¬(16:Int)<(p.boot.length:Int):=by omega
 by_cases h4:p.actors.length=0
 ·have h4':(p.actors.length:Int)=0:=by omega
  rw[Nw (by omega),Nt (by omega)];refine an ?_;simp only[wc,↓reduceIte,Nat.reduceEqDiff,Int.reduceLT,iz,fC,mH,h1',h3',h4']
 have h4':¬(p.actors.length:Int)=0:=by omega
 by_cases h5:p.fuel<1
 ·refine an ?_;simp only[wc,↓reduceIte,Nat.reduceEqDiff,iz,fC,mH,h1,h1',h2,h2',h3,h3',h4,h4',h5]
 by_cases h6:256<p.fuel
 ·refine an ?_;simp only[wc,↓reduceIte,Nat.reduceEqDiff,iz,fC,mH,h1,h1',h2,h2',h3,h3',h4,h4',h5,h6]
 refine nx (by simp only[wc,↓reduceIte,Nat.reduceEqDiff,iz,fC,mH,h1',h2',h3',h4',h5,h6];rfl) ?_;simp only[h1,h2,h3,h4,h5,h6,O8,Oc];by_cases h7:b8 (kv p) p.handlers=0
 ·refine nx (by simp only[wc,↓reduceIte,Nat.reduceEqDiff,hm,e1,h7];rfl) ?_;by_cases h8:b8 (pm p) p.actors=0
  ·refine nx (by simp only[wc,↓reduceIte,Nat.reduceEqDiff,hm,e2,h8];rfl) ?_;simp only[wc,↓reduceIte,Nat.reduceEqDiff,hm,e3,h7,h8]
  ·refine an ?_;simp only[wc,↓reduceIte,Nat.reduceEqDiff,hm,e2,h7,h8]
 ·refine an ?_;simp only[wc,↓reduceIte,Nat.reduceEqDiff,hm,e1,h7]
end Gv
namespace Gv
open Go
theorem zu{x y:Int}(h1: -9223372036854775808<=x+y)(h2:x+y<=9223372036854775807):a9 .add .i64 x .i64 y=some (.int .i64 (x+y)):=by
 simp only[a9];rw[Nw (by decide),qK h1 h2]
theorem BN{x y:Int}(h1: -9223372036854775808<=x-y)(h2:x-y<=9223372036854775807):a9 .sub .i64 x .i64 y=some (.int .i64 (x-y)):=by
 simp only[a9];rw[Nw (by decide),qK h1 h2]
structure G8 (p:SProg):Prop where
 hs:p.handlers.length<=16
 as:p.actors.length<=8
 as0:0<p.actors.length
 ns:p.boot.length<=16
 fuel:1<=p.fuel/\p.fuel<=256
 args:∀h∈p.handlers,0<=h.args/\h.args<=4
 code:∀h∈p.handlers,h.code.length<=64
 instr:∀h∈p.handlers,∀i∈h.code,hO p.handlers.length h.code.length h.args i=0
 regs:∀a∈p.actors,a.regs.length<=8
 cap:∀a∈p.actors,0<=a.cap/\a.cap<=16
 timer:∀a∈p.actors,a.timer≠ -1->0<=a.timer/\a.timer<p.handlers.length/\lB p a.timer=0
 armed:∀a∈p.actors,a.armed=true->a.timer≠ -1
 boot:∀n∈p.boot,oX p n=0
theorem MZ{p:SProg}(h:pG p=0):G8 p:=by
 unfold pG at h;split at h
 ·omega
 ·rename_i h1;split at h
  ·omega
  ·rename_i h2;split at h
   ·rename_i h3;exact absurd h h3
   ·rename_i h3;split at h
    ·rename_i h4;exact absurd h h4
    ·rename_i h4;have h3:=iG.1 (Decidable.of_not_not h3);have h4:=iG.1 (Decidable.of_not_not h4);have h5:=iG.1 h;have hh:∀x∈p.handlers,0<=x.args/\x.args<=4/\x.code.length<=64/\b8 (hO p.handlers.length x.code.length x.args) x.code=0:=λx hx=>by
      have:=h3 x hx;unfold kv at this;split at this
      ·omega
      ·split at this
       ·omega
       ·exact⟨by omega,by omega,by omega,this⟩
     have ha:∀a∈p.actors,a.regs.length<=8/\(0<=a.cap/\a.cap<=16)/\(a.timer≠ -1->0<=a.timer/\a.timer<p.handlers.length/\lB p a.timer=0)/\(a.armed=true->a.timer≠ -1):=λa ha=>by
      have:=h4 a ha;unfold pm at this;split at this
      ·omega
      ·split at this
       ·omega
       ·split at this
        ·omega
        ·rename_i q1;split at this
         ·omega
         ·rename_i q2;exact⟨by omega,by omega,λht=>by omega,λhb ht=>q2 ⟨hb,ht⟩⟩
     exact⟨by omega,by omega,by omega,by omega,by omega,λx hx=>⟨(hh x hx).1,(hh x hx).2.1⟩,λx hx=>(hh x hx).2.2.1,λx hx=>iG.1 (hh x hx).2.2.2,λa h=>(ha a h).1,λa h=>(ha a h).2.1,λa h=>(ha a h).2.2.1,λa h=>(ha a h).2.2.2,h5⟩
theorem rl{hs n:Nat}{args:Int}{i:SInstr}(h:hO hs n args i=0):gR i.op=true:=by
 cases hv:gR i.op with
 |true=>rfl
 |false=>simp[hO,hv]at h
theorem Am{hs n:Nat}{args:Int}{i:SInstr}(h:hO hs n args i=0)(h2:i.op=22):0<=i.a/\i.a<hs:=by
 unfold hO cF at h;simp[h2,gR]at h;omega
theorem DC{p:SProg}(hp:G8 p)(i:SInstr):0<=dV p i/\dV p i<=6:=by
 have:=Bw i.op;unfold dV;split
 ·have:0<=lB p i.a/\lB p i.a<=4:=by
   unfold lB;split
   ·rename_i h hh;exact hp.args h (ND hh)
   ·omega
  omega
 ·omega
theorem GX{m:Nat}(p:SProg)(hp:G8 p)(i:SInstr)(hv:gR i.op=true)(hs:i.op=22->0<=i.a/\i.a<p.handlers.length):aj aK (m+2) 157 [aJ p,jX i]=some (.int .i64 (dV p i),[]):=by
 refine aq (F:=jL) rfl rfl rfl ?_ (.inr rfl);have ho:=IA (m:=m) i.op hv;generalize aj aK (m+1)=C at*;generalize bi aK=V;simp only[aJ,aB,jX,dV,jL];by_cases h:i.op=22
 ·obtain⟨a0,a1⟩:=hs h;obtain⟨j,x,hj,hx,ha⟩:=sv a0 a1;have ih:=sW hx;have hh:=hp.args x (ND hx);have hq:=Bw i.op;have ad:=zu (x:=vp i.op) (y:=x.args) (by omega) (by omega);rw[Nt h,ha];rw[h]at ho ad;simp only[wc,↓reduceIte,Nat.reduceEqDiff,Nat.reduceAdd,Nq,ho,h,hj,ih,ad]
 ·rw[Nw h];simp only[wc,↓reduceIte,Nat.reduceEqDiff,Nat.reduceAdd,Nq,ho,h,Int.add_zero]
theorem Ji{m k:Nat}(i:SInstr)(hk:k<1000000)(ha:i.op=20∨i.op=21->0<=i.a):aj aK (m+1) 159 [.int .i64 (k:Nat),jX i]=some (eI ((d8 k i).map Int.ofNat),[]):=by
 refine aq (F:=kO) rfl rfl rfl ?_ (.inl rfl);generalize aj aK m=C at*;generalize bi aK=V;simp only[jX,d8,kO];have ad:=ey (k:=k) (by omega);by_cases h:i.op=20
 ·have:Int.ofNat i.a.toNat=i.a:=by have:=ha (.inl h);simp;omega
  simp only[wc,↓reduceIte,Nat.reduceEqDiff,Nat.reduceAdd,Nq,h,N5,Pd,this];rfl
 ·by_cases h1:i.op=21
  ·have:Int.ofNat i.a.toNat=i.a:=by have:=ha (.inr h1);simp;omega
   simp only[wc,↓reduceIte,Nat.reduceEqDiff,reduceCtorEq,Nat.reduceAdd,Int.reduceEq,Nq,h1,ad,N5,Pd,this];rfl
  ·by_cases h2:i.op=25
   ·simp only[wc,↓reduceIte,Nat.reduceAdd,Int.reduceEq,Nq,h2,Pd];rfl
   ·simp only[wc,↓reduceIte,reduceCtorEq,Nat.reduceAdd,Nq,h,h1,h2,ad,N5,Pd];rfl
theorem JX{m n:Nat}(hn:n<=64):aj aK (m+1) 156 [eI [-1],.int .i64 ((n+1:Nat):Int)]=some (eI (List.replicate (n+1) (-1)),[]):=by
 refine vH (F:=rZ) rfl rfl rfl ?_ rfl (.inr ?_)
 ·generalize aj aK m=C;generalize bi aK=V;have i0:=oW (k:=0) (l:=[-1]) (x:= -1) rfl;have l1:dp (eI [-1])=some (.int .i64 1):=rfl;have h1:((n+1:Nat):Int)<=65:=by omega
  have h2:(1:Int)<=((n+1:Nat):Int):=by omega
  rw[show eI (List.replicate (n+1) (-1))=.lst (List.replicate (n+1) (.int .i64 (-1))) false by simp[eI]];have hr:=yG (C:=C) (V:=V) (env:=Env.ofArgs [eI [-1],.int .i64 ((n+1:Nat):Int)]) (e:=.int .i64 (-1)) (c:=false) (n:=n+1) rfl rfl rfl (by omega);simp only[aM]at hr;simp only[wc,Int.reduceNeg,rZ,l1,h1,h2];exact hr
 ·simp[eI,qy]
theorem FL(l:List Int):aM (.lst (l.map λn=>PV.int .i64 n) false)=eI l:=by rw[<-DT l];rfl
theorem FV(l:List Int):kz (l.map λn=>PV.int .i64 n) 1=true:=by cases l<;>rfl
theorem CA{l:List Int}{k:Nat}(h:k<=l.length):dK 1 (eI l) (.int .i64 (k:Nat)) (.tup []) (.tup [])=some (eI (l.drop k)):=by
 rw[<-FL (l.drop k)];simp[eI,dK,kE,cA,aG,nM,FV,h,List.map_drop];rw[OG (by simp)]
theorem H0{a:Int}{l:List Int}:dK 1 (eI (a::l)) (.int .i64 1) (.tup []) (.tup [])=some (eI l):=CA (l:=a::l) (k:=1) (by simp)
theorem Nl(b:Bool)(x y z:Int):∃r:Int,zL b [.int .i64 x,.int .i64 y,.int .i64 z]=some (.int .i64 r):=by
 simp only[zL,lU,xo];exact⟨_,rfl⟩
theorem La{l:List Int}{k:Nat}{x:Int}(h:k<l.length):z9 none (eI l) (.int .i64 (k:Nat)) 0 (.int .i64 x)=some (eI (l.set k x)):=by
 have hg:(l.map λn=>PV.int .i64 n)[k]?=some (.int .i64 l[k]):=by simp[Ns h]
 simp only[z9,eI];rw[Nt (by simp;omega)];simp only[Pl,hg];rw[Nt ⟨rfl,rfl,Ny _⟩];simp[List.map_set,PV.withCells,PV.cells]
theorem Mj{a b:List Int}(h:a.length+b.length<2147483648):jl 1 (eI a) (eI b)=some (eI (a++b)):=by
 simp only[eI,jl];rw[Nt ⟨sX b,by simp only[Ob];exact h⟩,OO]
def LeftI(code:List SInstr)(out:List Int)(left:List Nat):Prop:=∀k∈left,k<=code.length/\∃d,out[k]?=some d/\d≠ -1
theorem LeftI.set{code:List SInstr}{out:List Int}{left:List Nat}{k:Nat}{v:Int}(h:LeftI code out left)(hk:out[k]?=some (-1))(hv:v≠ -1)(hc:k<=code.length):LeftI code (out.set k v) (left++[k]):=λj hj=>by
 have hl:=(List.getElem?_eq_some_iff.1 hk).1;rcases List.mem_append.1 hj with hj|hj
 ·obtain⟨a,d,b,c⟩:=h j hj;refine⟨a,d,?_,c⟩;rw[Ox (λe=>by subst e;rw[hk]at b;cases b;exact c rfl)];exact b
 ·rw[NJ]at hj;subst hj;exact⟨hc,v,Ok hl,hv⟩
def nI:PV:=.tup [.lst [] false,.int .i64 0,.bool false]
def wo(p:SProg)(h:SHandler)(at':Nat)(i:SInstr)(d:Int)(M m:Nat)(e:Env):Prop:=
 ∃(t:Nat)(out:List Int)(left:List Nat)(most:Int),t+m=(d8 at' i).length/\WalkI p h.code out (λk=>k∈left∨k=at')/\LeftI h.code out left/\2*o7 out+left.length<=M/\
  out[at']?=some d/\(∀(s j:Nat),s<t->(d8 at' i)[s]?=some j->out[j]?=some (cQ p i d))/\
  e 2=.lptr [mD p.handlers,nn p.actors,mi p.boot,.int .i64 p.fuel]/\e 3=.lptr [.int .i64 h.args,eD h.code]/\e 4=eI out/\e 5=.int .i64 most/\e 7=eI (left.map Int.ofNat)/\e 10=.int .i64 (cQ p i d)/\
  e 72=eI ((d8 at' i).map Int.ofNat)/\e 73=.int .i64 ((d8 at' i).length:Nat)/\e 74=.int .i64 (t:Nat)
theorem zm(k:Nat)(i:SInstr):(d8 k i).length<=2:=by
 unfold d8;split
 ·simp
 ·split
  ·simp
  ·split<;>simp
theorem Cb{C:bT}{V:Nat->List PV->List PV->Bool}{p:SProg}{h:SHandler}{at':Nat}{i:SInstr}{d:Int}{M m:Nat}(hi:h.code[at']?=some i)(hd1:d≠ -1)(h1:dV p i<=d)(h2:cQ p i d<=8)(hin:∀j∈d8 at' i,j<=h.code.length)(hM:M<1000000)
  (hm:m<1000){env:Env}(h0:wo p h at' i d M m env):
  (∃e,aI C V (.block 2 (.loop dI)) env=some (.norm e)/\wo p h at' i d M 0 e)∨∃v,aI C V (.block 2 (.loop dI)) env=some (.ret v [])/\v=nI/\¬gW p h.code:=by
 rw[dI,Gi];refine vL (C:=C) (V:=V) (by omega) (λm e=>wo p h at' i d M m e) (λe=>wo p h at' i d M 0 e) (λv=>v=nI/\¬gW p h.code) (λm e hs=>?_) h0;obtain⟨t,out,left,most,ht,hW,hL,hF,hd,hdone,e2,e3,e4,e5,e7,e10,e72,e73,e74⟩:=hs;have hn0:cQ p i d≠ -1:=by have:=sL i.op;unfold cQ;omega
 by_cases htm:m=0
 ·subst htm;refine .inl ⟨e,?_,t,out,left,most,ht,hW,hL,hF,hd,hdone,e2,e3,e4,e5,e7,e10,e72,e73,e74⟩;rw[oU (n:=(d8 at' i).length) (k:=t) (by simp only[wc,e73,e74,Int.ofNat_lt]),Nw (by omega)]
 refine .inr ⟨e,?_,?_⟩
 ·rw[oU (n:=(d8 at' i).length) (k:=t) (by simp only[wc,e73,e74,Int.ofNat_lt]),Nt (by omega)]
 obtain⟨j,hj,hjm⟩:=bo (l:=d8 at' i) (k:=t) (by omega);have hjn:=hin j hjm;have ij:=oW (k:=t) (l:=(d8 at' i).map Int.ofNat) (x:=(j:Int)) (by rw[NE,hj];rfl);obtain⟨v,hv,_⟩:=bo (l:=out) (k:=j) (by rw[hW.len];omega);have iv:=oW hv;have hjl:=(List.getElem?_eq_some_iff.1 hv).1;have hnl:=zm at' i;have ad:=ey (k:=t) (by omega);by_cases hv1:v= -1
 ·subst hv1;have up:=La (l:=out) (k:=j) (x:=cQ p i d) hjl;have hg:(out.set j (cQ p i d))[j]?=some (cQ p i d):=Ok hjl;have iv2:=oW hg;have ap:=Mj (a:=left.map Int.ofNat) (b:=[(j:Int)]) (by simp;omega);have hfr:=Cl hv hn0;left;refine⟨_,m-1,by simp only[wc,↓reduceIte,Nat.reduceEqDiff,Int.reduceNeg,e4,e7,e10,e72,e74,ij,iv,up,ap,iv2,ad,MW];rfl,by omega,t+1,out.set j (cQ p i d),left++[j],most,by omega,(EZ hW hi hd hd1 h1 h2 hjm hv).mono (λk hk=>?_),hL.set hv hn0 hjn,?_,?_,λs j' hs hj'=>?_,?_⟩
  ·rcases hk with(hk|hk)|hk
   ·exact .inl (Nu _ hk)
   ·exact .inr hk
   ·subst hk;exact .inl (Nr _ (by simp))
  ·simp only[NR,NW,N9];omega
  ·rw[Ox (λe=>by subst e;rw[hv]at hd;cases hd;exact hd1 rfl)];exact hd
  ·by_cases hs2:s=t
   ·subst hs2;rw[hj]at hj';cases hj';exact hg
   ·have:=hdone s j' (by omega) hj';by_cases e:j=j'
    ·subst e;exact hg
    ·rw[Ox e];exact this
  ·refine⟨by simp[e2],by simp[e3],by simp,by simp[e5],by simp,by simp[e10],by simp[e72],by simp[e73],by simp⟩
 ·by_cases hv2:v=cQ p i d
  ·left;refine⟨_,m-1,by simp only[wc,↓reduceIte,Nat.reduceEqDiff,Int.reduceNeg,e4,e10,e72,e74,ij,iv,hv2,hn0,ad];rfl,by omega,t+1,out,left,most,by omega,hW,hL,hF,hd,λs j' hs hj'=>?_,?_⟩
   ·by_cases hs2:s=t
    ·subst hs2;rw[hj]at hj';cases hj';rw[hv,hv2]
    ·exact hdone s j' (by omega) hj'
   ·refine⟨by simp[e2],by simp[e3],by simp[e4],by simp[e5],by simp[e7],by simp[e10],by simp[e72],by simp[e73],by simp⟩
  ·right;exact⟨nI,by simp only[wc,↓reduceIte,Nat.reduceEqDiff,Int.reduceNeg,e4,e10,e72,e74,ij,iv,hv1,hv2,nI],rfl,Fp hW hi hd hd1 hjm hv hv1 hv2⟩
theorem yg{C:bT}{V:Nat->List PV->List PV->Bool}{a b:VC}{env e1:Env}{P:Env->Nat->Prop}{Q:PV->Prop}(h:aI C V a env=some (.norm e1))
  (k:(∃e2 m',aI C V b e1=some (.norm e2)/\P e2 m')∨∃v,aI C V b e1=some (.ret v [])/\Q v):(∃e2 m',aI C V (.seq a b) env=some (.norm e2)/\P e2 m')∨∃v,aI C V (.seq a b) env=some (.ret v [])/\Q v:=by
 rcases k with⟨e2,m',k1,k2⟩|⟨v,k1,k2⟩
 ·exact .inl ⟨e2,m',nx h k1,k2⟩
 ·exact .inr ⟨v,nx h k1,k2⟩
theorem Jh{C:bT}{V:Nat->List PV->List PV->Bool}{i:Nat}{b:VC}{env:Env}{P:Env->Nat->Prop}{Q:PV->Prop}
  (k:(∃e2 m',aI C V b env=some (.norm e2)/\P e2 m')∨∃v,aI C V b env=some (.ret v [])/\Q v):(∃e2 m',aI C V (.block i b) env=some (.norm e2)/\P e2 m')∨∃v,aI C V (.block i b) env=some (.ret v [])/\Q v:=by
 rcases k with⟨e2,m',k1,k2⟩|⟨v,k1,k2⟩
 ·exact .inl ⟨e2,m',bw k1,k2⟩
 ·exact .inr ⟨v,aU k1,k2⟩
def DI(p:SProg)(h:SHandler)(m:Nat)(e:Env):Prop:=
 ∃(out:List Int)(left:List Nat)(most:Int),WalkI p h.code out (λk=>k∈left)/\LeftI h.code out left/\2*o7 out+left.length=m/\
  e 2=.lptr [mD p.handlers,nn p.actors,mi p.boot,.int .i64 p.fuel]/\e 3=.lptr [.int .i64 h.args,eD h.code]/\e 4=eI out/\e 5=.int .i64 most/\e 7=eI (left.map Int.ofNat)
theorem I0{m:Nat}(p:SProg)(hp:G8 p)(h:SHandler)(hh:h∈p.handlers):∃(out most:PV)(b:Bool),aj aK (m+3) 140 [aJ p,cw h]=some (.tup [out,most,.bool b],[])/\(b=true↔gW p h.code):=by
 suffices hs:∃(out most:PV)(b:Bool),aI (aj aK (m+2)) (bi aK) i9.body (Env.ofArgs [aJ p,cw h])=some (.ret (.tup [out,most,.bool b]) [])/\(b=true↔gW p h.code)by
  obtain⟨out,most,b,h1,h2⟩:=hs;exact⟨out,most,b,aq (F:=i9) rfl rfl rfl h1 (.inl rfl),h2⟩
 have hcl:=hp.code h hh;have hin:=hp.instr h hh;have tk:=λi(hi:i∈h.code)=>GX (m:=m) p hp i (rl (hin i hi)) (Am (hin i hi));have pt:=λi(hi:i∈h.code)=>IN (m:=m+1) i.op (rl (hin i hi));have nx':=λk i(hk:k<1000000) ha=>Ji (m:=m+1) (k:=k) i hk ha;have rp:=JX (m:=m+1) hcl;generalize aj aK (m+2)=C at*;generalize bi aK=V;simp only[aJ,aB,jX]at tk nx';have lc:dp (eD h.code)=some (.int .i64 h.code.length):=lY;have ad:=ey (k:=h.code.length) (by omega);have r0:(List.replicate (h.code.length+1) (-1:Int)).length=h.code.length+1:=by simp
 have i0:au 1 (eI (List.replicate (h.code.length+1) (-1))) (.int .i64 0)=some (.lptr [.int .i64 (-1)]):=oW (k:=0) (by rw[OA];simp);have u0:z9 none (eI (List.replicate (h.code.length+1) (-1))) (.int .i64 0) 0 (.int .i64 0)=some (eI ((List.replicate (h.code.length+1) (-1)).set 0 0)):=La (k:=0) (by simp);have e1:PV.lst [.int .i64 (-1)] false=eI [-1]:=rfl;simp only[aJ,aB,cw,i9];have key:(∃e,aI C V (.block 0 (.loop gz)) (((((((Env.ofArgs [.agg [mD p.handlers,nn p.actors,mi p.boot,.int .i64 p.fuel],.agg [.int .i64 h.args,eD h.code]]).set 5 (.int .i64 0)).set 3 (.lptr [.int .i64 h.args,eD h.code])).set 2 (.lptr [mD p.handlers,nn p.actors,mi p.boot,.int .i64 p.fuel])).set 18 (eI (List.replicate (h.code.length+1) (-1)))).set 4 (eI (List.replicate (h.code.length+1) (-1)))).set 4 (eI ((List.replicate (h.code.length+1) (-1)).set 0 0))|>.set 7 (eI [0]))=some (.norm e)/\∃(out:List Int)(most:Int),e 4=eI out/\e 5=.int .i64 most/\gW p h.code)∨
   ∃v,aI C V (.block 0 (.loop gz)) (((((((Env.ofArgs [.agg [mD p.handlers,nn p.actors,mi p.boot,.int .i64 p.fuel],.agg [.int .i64 h.args,eD h.code]]).set 5 (.int .i64 0)).set 3 (.lptr [.int .i64 h.args,eD h.code])).set 2 (.lptr [mD p.handlers,nn p.actors,mi p.boot,.int .i64 p.fuel])).set 18 (eI (List.replicate (h.code.length+1) (-1)))).set 4 (eI (List.replicate (h.code.length+1) (-1)))).set 4 (eI ((List.replicate (h.code.length+1) (-1)).set 0 0))|>.set 7 (eI [0]))=some (.ret v [])/\v=nI/\¬gW p h.code:=by
  rw[gz];have hfr:=E2 ((List.replicate (h.code.length+1) (-1)).set 0 (0:Int));rw[List.length_set,r0]at hfr;refine vL (C:=C) (V:=V) (m:=2*o7 ((List.replicate (h.code.length+1) (-1)).set 0 0)+1) (by omega) (λm e=>DI p h m e/\m<1000) (λe=>∃(out:List Int)(most:Int),e 4=eI out/\e 5=.int .i64 most/\gW p h.code) (λv=>v=nI/\¬gW p h.code) (λm e ⟨hs,hm⟩=>?_) ⟨⟨_,[0],0,(z8 p h.code).mono (λk hk=>by simp[hk]),?_,by simp,by simp,by simp,by simp,by simp,by simp⟩,by omega⟩
  ·obtain⟨out,left,most,hW,hL,hF,e2,e3,e4,e5,e7⟩:=hs;have ll:dp (eI (left.map Int.ofNat))=some (.int .i64 left.length):=by rw[jm,Ob]
   cases left with
   |nil=>
    left;have g00:((0:Int)<((0:Nat):Int))=False:=by simp
    exact⟨e,by simp only[wc,↓reduceIte,e7,ll,g00],out,most,e4,e5,Cu hW (λk _ h=>by simp at h)⟩
   | cons at' left=>
    right;obtain⟨hat,d,hd,hd1⟩:=hL at' (by simp);have g0:(0:Int)<((left.length+1:Nat):Int):=by omega
    have ia:au 1 (eI ((at'::left).map Int.ofNat)) (.int .i64 0)=some (.lptr [.int .i64 (at':Nat)]):=oW (k:=0) rfl;have sl:dK 1 (eI ((at'::left).map Int.ofNat)) (.int .i64 1) (.tup []) (.tup [])=some (eI (left.map Int.ofNat)):=H0;have hL':LeftI h.code out left:=λk hk=>hL k (by simp[hk]);refine⟨e,by simp only[wc,↓reduceIte,e7,ll,g0],?_⟩;by_cases hend:at'=h.code.length
    ·subst hend;left;refine⟨_,2*o7 out+left.length,by simp only[wc,↓reduceIte,Nat.reduceEqDiff,e3,e7,ia,sl,lc];rfl,by simp at hF;omega,⟨out,left,most,?_,hL',rfl,by simp[e2],by simp[e3],by simp[e4],by simp[e5],by simp⟩,by simp at hF;omega⟩;refine vw hW (k:=h.code.length) (λj hj=>?_) (λi d' hi _ _=>?_)
     ·rcases List.mem_cons.1 hj with rfl|hj
      ·exact .inr rfl
      ·exact .inl hj
     ·have:=(List.getElem?_eq_some_iff.1 hi).1;omega
    have hend':¬(at':Int)=(h.code.length:Int):=by omega
    obtain⟨i,hi,him⟩:=bo (l:=h.code) (k:=at') (by omega);have tk:=tk i him;have pt:=pt i him;have hii:=hin i him;have nx':=nx' at' i (by omega) (λho=>by
     unfold hO cF at hii;rcases ho with ho|ho<;>simp[ho,gR]at hii<;>omega)
    have ic:=xT hi;have id':=oW hd;have hlow:=hW.low at' d hd;have ht:=DC hp i;have hpp:=sL i.op;have sb:=BN (x:=d) (y:=dV p i) (by omega) (by omega);have aa:=zu (x:=d-dV p i) (y:=o8 i.op) (by omega) (by omega);have gt:d-dV p i+o8 i.op=cQ p i d:=rfl;by_cases hlt:d-dV p i<0
    ·right;refine⟨nI,?_,rfl,zn hW hi hd hd1 (λhb=>by omega)⟩;refine aU ?_;refine nx (by simp only[wc,↓reduceIte,Nat.reduceEqDiff,e7,ia,sl];rfl) ?_;refine nx (by simp only[wc,↓reduceIte,Nat.reduceEqDiff,e3,lc,hend'];rfl) ?_;refine nx (by simp only[wc,↓reduceIte,Nat.reduceEqDiff,Nat.reduceAdd,Nq,e2,e3,e4,ic,id',tk,sb];rfl) ?_;refine an ?_;simp only[wc,↓reduceIte,Nat.reduceEqDiff,reduceCtorEq,hlt,nI]
    by_cases hbig:8<d-dV p i+o8 i.op
    ·right;refine⟨nI,?_,rfl,zn hW hi hd hd1 (λhb=>by rw[<-gt]at hb;omega)⟩;refine aU ?_;refine nx (by simp only[wc,↓reduceIte,Nat.reduceEqDiff,e7,ia,sl];rfl) ?_;refine nx (by simp only[wc,↓reduceIte,Nat.reduceEqDiff,e3,lc,hend'];rfl) ?_;refine nx (by simp only[wc,↓reduceIte,Nat.reduceEqDiff,Nat.reduceAdd,Nq,e2,e3,e4,ic,id',tk,sb];rfl) ?_;refine an ?_;simp only[wc,↓reduceIte,Nat.reduceEqDiff,Nq,hlt,pt,aa,hbig,nI]
    obtain⟨mx,hmx⟩:=Nl true most d (cQ p i d);have ln:dp (eI ((d8 at' i).map Int.ofNat))=some (.int .i64 ((d8 at' i).length:Nat)):=by rw[jm,Ob]
    have hnl:=zm at' i;rw[gt]at aa hbig;have start:∀e1:Env,e1 2=.lptr [mD p.handlers,nn p.actors,mi p.boot,.int .i64 p.fuel]->e1 3=.lptr [.int .i64 h.args,eD h.code]->e1 4=eI out->e1 5=.int .i64 mx->e1 7=eI (left.map Int.ofNat)->e1 10=.int .i64 (cQ p i d)->e1 72=eI ((d8 at' i).map Int.ofNat)->e1 73=.int .i64 ((d8 at' i).length:Nat)->e1 74=.int .i64 0->
      (∃e2 m',aI C V (.block 2 (.loop dI)) e1=some (.norm e2)/\m'<m/\DI p h m' e2/\m'<1000)∨∃v,aI C V (.block 2 (.loop dI)) e1=some (.ret v [])/\v=nI/\¬gW p h.code:=λe1 a2 a3 a4 a5 a7 a10 a72 a73 a74=>by
     rcases Cb (C:=C) (V:=V) (p:=p) (h:=h) (at':=at') (i:=i) (d:=d) (M:=2*o7 out+left.length) (m:=(d8 at' i).length) hi hd1 (by omega) (by omega) (λj hj=>Gz hii (by omega) j hj) (by simp at hF;omega) (by omega)
      (env:=e1) ⟨0,out,left,mx,by omega,hW.mono (λk hk=>by rcases List.mem_cons.1 hk with rfl|hk;exact .inr rfl;exact .inl hk),hL',by omega,hd,λs j hs=>by omega,a2,a3,a4,a5,a7,a10,a72,a73,a74⟩with⟨e2',k1,t,out',left',most',k2,k3,k4,k5,k6,k7,b2,b3,b4,b5,b7,_⟩|h
     ·left;refine⟨e2',2*o7 out'+left'.length,k1,by simp at hF;omega,⟨out',left',most',vw k3 (k:=at') (λj hj=>hj) (λi' d' hi' hd' hd1'=>?_),k4,rfl,b2,b3,b4,b5,b7⟩,by simp at hF;omega⟩;rw[hi]at hi';cases hi';rw[k6]at hd';cases hd';refine⟨by omega,by omega,λj hj=>?_⟩;obtain⟨s,hs⟩:=List.getElem?_of_mem hj;exact k7 s j (by have:=(List.getElem?_eq_some_iff.1 hs).1;omega) hs
     ·exact .inr h
    refine Jh (yg (by simp only[wc,↓reduceIte,Nat.reduceEqDiff,e7,ia,sl];rfl) (yg (by simp only[wc,↓reduceIte,Nat.reduceEqDiff,e3,lc,hend'];rfl) (yg (by simp only[wc,↓reduceIte,Nat.reduceEqDiff,Nat.reduceAdd,Nq,e2,e3,e4,ic,id',tk,sb];rfl) (yg (by simp only[wc,↓reduceIte,Nat.reduceEqDiff,Nq,hlt,pt,aa,hbig];rfl) (yg (by simp only[wc,↓reduceIte,Nat.reduceEqDiff,e4,e5,id',pt,aa,hmx,nx',ln];rfl) ?_)))));exact start _ (by simp[e2]) (by simp[e3]) (by simp[e4]) (by simp) (by simp) (by simp) (by simp) (by simp) (by simp)
  ·intro k hk;simp at hk;subst hk;exact⟨OF _,0,by rw[Ok (by simp)],by omega⟩
 rcases key with⟨e,k1,out,most,k2,k3,k4⟩|⟨v,k1,rfl,k2⟩
 ·refine⟨eI out,.int .i64 most,true,?_,by simp[k4]⟩;refine nx (by simp only[wc,↓reduceIte,Nat.reduceEqDiff,Nat.reduceAdd,Int.reduceNeg,Nq,lc,ad,e1,rp,i0,u0];rfl) ?_;rw[rU];refine nx (by simp only[wc,↓reduceIte,Int.reduceNeg,MW];rfl) ?_;refine nx k1 ?_;simp only[wc,↓reduceIte,Nat.reduceEqDiff,k2,k3]
 ·refine⟨.lst [] false,.int .i64 0,false,?_,by simp[k2]⟩;refine nx (by simp only[wc,↓reduceIte,Nat.reduceEqDiff,Nat.reduceAdd,Int.reduceNeg,Nq,lc,ad,e1,rp,i0,u0];rfl) ?_;rw[rU];refine nx (by simp only[wc,↓reduceIte,Int.reduceNeg,MW];rfl) ?_;rw[an k1];rfl
end Gv
namespace Gv
open Go
open Classical in
noncomputable def t8 (p:SProg) (h:SHandler):Int:=if gW p h.code then 0 else 5
noncomputable def nD (p:SProg):Int:=if pG p≠0 then pG p else b8 (t8 p) p.handlers
theorem EM{m:Nat}(p:SProg)(hp:pC p):aj aK (m+6) 128 [aJ p]=some (.int .i64 (nD p),[]):=by
 refine aq (F:=jx) rfl rfl rfl ?_ (.inr rfl);have hc:=GE (m:=m) p hp;have hw:=λ(ok:G8 p) h hh=>I0 (m:=m+2) p ok h hh;generalize aj aK (m+5)=C at*;generalize bi aK=V;simp only[aJ,aB,cw]at hc hw;simp only[aJ,aB,jx,nD];refine nx (by simp only[wc,↓reduceIte,Nat.reduceAdd,Nq];rfl) ?_;by_cases h0:pG p=0
 ·refine nx (by simp only[wc,↓reduceIte,hc,h0];rfl) ?_;rw[Nw (by simp[h0])];have ok:=MZ h0;rw[rU];refine nx (by simp only[wc,↓reduceIte,Nat.reduceEqDiff,iz];rfl) ?_;rw[m8];refine n8 (l:=p.handlers) (t8 p) (by have:=hp.hs;omega) (λe=>e 1=.lptr [mD p.handlers,nn p.actors,mi p.boot,.int .i64 p.fuel]/\e 15=mD p.handlers/\e 16=.int .i64 p.handlers.length) (λe v h=>by simpa using h)
   (λk e hk hs hv=>by simp only[X.ev,hv,hs.2.2,ac,bin,eA]) (λk h e hx hm ⟨s1,s2,s3⟩ hv=>?_) (λhn=>rfl) (λhz e he=>?_) ⟨by simp,by simp,by simp⟩ (by simp)
  ·have ih:=sW hx;obtain⟨out,most,b,w1,w2⟩:=hw ok h hm;cases b with
   |true=>
    have hz:t8 p h=0:=by rw[t8,Nt (w2.1 rfl)]
    refine⟨_,by simp only[wc,↓reduceIte,Nat.reduceEqDiff,Nat.reduceAdd,Int.reduceNeg,Nq,un,s1,s2,hv,ih,w1];rfl,λh=>absurd hz h,λ_=>⟨_,rfl,?_⟩⟩;simp[s1,s2,s3,hv]
   |false=>
    have hz:t8 p h=5:=by rw[t8,Nw (λh=>by have:=w2.2 h;cases this)]
    refine⟨_,by simp only[wc,↓reduceIte,Nat.reduceEqDiff,Nat.reduceAdd,Int.reduceNeg,Nq,un,s1,s2,hv,ih,w1,hz],λ_=>rfl,λh=>by rw[hz]at h;cases h⟩
  ·rw[hz];simp only[wc,↓reduceIte]
 ·rw[Nt h0];refine an ?_;simp only[wc,↓reduceIte,hc,h0]
end Gv
namespace Gv
open Go
end Gv
namespace Gv
open Go
end Gv
namespace Gv
open Go
end Gv
