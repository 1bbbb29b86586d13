/- A part of the proof that the law is true of all its inputs, by an interpreter that is proved sound. -/
import Derived.Test.YtfaeljmkbadgdaaGreatPa
import Derived.Test.YtfaeljmkbadgdaaGreatVw
namespace Gv
open Go
def eg(op:Int):Bool:=decide (1<=op/\op<=25)
def bX(op:Int):Int:=if op=1 then 1 else if op=5∨op=6 then 2 else if op=7 then 3 else if op=20∨op=21 then 4 else if op=22 then 5 else 0
def bm(op:Int):Int:=if op=4∨(9<=op/\op<=13)∨(15<=op/\op<=18)then 2 else if op=2∨op=3∨op=6∨op=14∨op=19∨op=21∨op=22 then 1 else 0
def cM(op:Int):Int:=if op=3∨op=4 then 2 else if op=1∨op=5∨op=7∨op=8∨(9<=op/\op<=19)then 1 else 0
def bS{α:Type}(f:α->Int):List α->Int
 |[]=>0
 |x::l=>if f x=0 then bS f l else f x
def dL(hs n:Nat)(args:Int)(i:SInstr):Int:=
 if eg i.op=false then 1
 else if bX i.op=0/\i.a≠0 then 1
 else if bX i.op=4/\(i.a<0∨(n:Int)<i.a)then 4
 else if bX i.op=2/\(i.a<0∨8<=i.a)then 6
 else if bX i.op=3/\(i.a<0∨args<=i.a)then 6
 else if bX i.op=5/\(i.a<0∨(hs:Int)<=i.a)then 7
 else 0
def fZ(p:SProg)(h:SHandler):Int:=
 if h.args<0∨4<h.args then 1 else if 64<h.code.length then 3 else bS (dL p.handlers.length h.code.length h.args) h.code
def cz(p:SProg)(k:Int):Int:=match p.handlers[k.toNat]? with|some h=>h.args|none=>0
def mw(p:SProg)(a:SActor):Int:=
 if 8<a.regs.length then 3 else if a.cap<0∨16<a.cap then 1
 else if a.timer≠ -1/\(a.timer<0∨(p.handlers.length:Int)<=a.timer∨cz p a.timer≠0)then 7
 else if a.armed=true/\a.timer= -1 then 1 else 0
def gW(p:SProg)(n:SNote):Int:=
 if n.to<0∨(p.actors.length:Int)<=n.to∨n.handler<0∨(p.handlers.length:Int)<=n.handler then 7
 else if(n.args.length:Int)≠cz p n.handler then 1 else 0
def mf(p:SProg):Int:=
 if 16<p.handlers.length∨8<p.actors.length∨16<p.boot.length then 3
 else if p.actors.length=0∨p.fuel<1∨256<p.fuel then 1
 else if bS (fZ p) p.handlers≠0 then bS (fZ p) p.handlers
 else if bS (mw p) p.actors≠0 then bS (mw p) p.actors
 else bS (gW p) p.boot
theorem ux{α:Type}{f:α->Int}{l:List α}{k:Nat}{x:α}(hx:l[k]?=some x)(hn:f x≠0)(hj:∀j,j<k->∀y,l[j]?=some y->f y=0):bS f l=f x:=by
 induction l generalizing k with
 |nil=>simp at hx
 | cons y l ih=>
  cases k with
  |zero=>simp at hx;subst hx;simp[bS,hn]
  |succ k=>
   have h0:=hj 0 (by omega) y rfl;simp only[bS,h0,TY];exact ih (by simpa using hx) λj hj' z hz=>hj (j+1) (by omega) z (by simpa using hz)
theorem ui{α:Type}{f:α->Int}{l:List α}(h:∀k,k<l.length->∀x,l[k]?=some x->f x=0):bS f l=0:=by
 induction l with
 |nil=>rfl
 |cons y l ih=>
  have h0:=h 0 (by simp) y rfl;simp only[bS,h0,TY];exact ih λk hk x hx=>h (k+1) (by simp;omega) x (by simpa using hx)
theorem jL{α:Type}{f:α->Int}:∀{l:List α},bS f l=0↔∀x∈l,f x=0
 |[]=>by simp[bS]
 |y::l=>by
  by_cases h:f y=0
  ·simp[bS,h,jL (l:=l)]
  ·simp[bS,h]
def aD(p:SProg)(i:SInstr):Int:=bm i.op+if i.op=22 then cz p i.a else 0
def bj(k:Nat)(i:SInstr):List Nat:=if i.op=20 then[i.a.toNat]else if i.op=21 then[i.a.toNat,k+1]else if i.op=25 then[]else[k+1]
structure xQ (p:SProg) (code:List SInstr) (D:Nat->Int):Prop where
 start:D 0=0
 low:∀k i,code[k]?=some i->D k≠ -1->aD p i<=D k/\D k-aD p i+cM i.op<=8
 go:∀k i,code[k]?=some i->D k≠ -1->∀j∈bj k i,D j=D k-aD p i+cM i.op
def dK(p:SProg)(code:List SInstr):Prop:=∃D,xQ p code D
theorem jD{C:b6}{V:Nat->List PV->List PV->Bool}{HD BD:VC}{b m:Nat}(hm:m<1099511627775)(St:Nat->Env->Prop)(Q:Env->Prop)(R:PV->Prop)
  (hstep:∀m env,St m env->(∃e,aL C V HD env=some (.exit b e)/\Q e)∨∃e1,aL C V HD env=some (.norm e1)/\((∃e2 m',aL C V BD e1=some (.norm e2)/\m'<m/\St m' e2)∨∃v,aL C V BD e1=some (.ret v [])/\R v))
  {env:Env}(h0:St m env):
  (∃e,aL C V (.block b (.loop (.seq HD BD))) env=some (.norm e)/\Q e)∨∃v,aL C V (.block b (.loop (.seq HD BD))) env=some (.ret v [])/\R v:=by
 have key:∀(m j:Nat)(env:Env),St m env->(∃e,eR (aL C V (.seq HD BD)) (m+1+j) env=some (.exit b e)/\Q e)∨∃v,eR (aL C V (.seq HD BD)) (m+1+j) env=some (.ret v [])/\R v:=by
  intro m;induction m using Nat.strongRecOn with
  | ind m ih=>
   intro j env hs;rw[show m+1+j=(m+j)+1 by omega];rcases hstep m env hs with⟨e,h1,h2⟩|⟨e1,h1,⟨e2,m',h2,h3,h4⟩|⟨v,h2,h3⟩⟩
   ·exact .inl ⟨e,by simp only[eR,aL,h1],h2⟩
   ·have:=ih m' h3 (m+j-(m'+1)) e2 h4;rw[show m'+1+(m+j-(m'+1))=m+j by omega]at this;simp only[eR,aL,h1,h2];exact this
   ·exact .inr ⟨v,by simp only[eR,aL,h1,h2],h3⟩
 have hb:m+1+(1099511627775-m)=DZ:=by rw[wm];omega
 rcases key m (1099511627775-m) env h0 with⟨e,h1,h2⟩|⟨v,h1,h2⟩
 ·refine .inl ⟨e,iS ?_,h2⟩;rw[hb]at h1;simp only[aL];exact h1
 ·refine .inr ⟨v,bt ?_,h2⟩;rw[hb]at h1;simp only[aL];exact h1
theorem Dd{C:b6}{V:Nat->List PV->List PV->Bool}{HD BD K:VC}{b m:Nat}{X0:Option vg}(hm:m<1099511627775)(St:Nat->Env->Prop)(Q:Env->Prop)(R:PV->Prop)
  (hstep:∀m env,St m env->(∃e,aL C V HD env=some (.exit b e)/\Q e)∨∃e1,aL C V HD env=some (.norm e1)/\((∃e2 m',aL C V BD e1=some (.norm e2)/\m'<m/\St m' e2)∨∃v,aL C V BD e1=some (.ret v [])/\R v))
  {env:Env}(h0:St m env)(hk:∀e,Q e->aL C V K e=X0)(hr:∀v,R v->X0=some (.ret v [])):aL C V (.seq (.block b (.loop (.seq HD BD))) K) env=X0:=by
 rcases jD (C:=C) (V:=V) hm St Q R hstep h0 with⟨e,h1,h2⟩|⟨v,h1,h2⟩
 ·exact nx h1 (hk e h2)
 ·rw[ah h1,hr v h2]
def bz(p:SProg)(i:SInstr)(d:Int):Int:=d-aD p i+cM i.op
theorem mW(op:Int):0<=cM op/\cM op<=2:=by
 unfold cM;split
 ·omega
 ·split<;>omega
theorem wt(op:Int):0<=bm op/\bm op<=2:=by
 unfold bm;split
 ·omega
 ·split<;>omega
structure WalkI (p:SProg) (code:List SInstr) (out:List Int) (ex:Nat->Prop):Prop where
 len:out.length=code.length+1
 low:∀(k:Nat)(d:Int),out[k]?=some d->d= -1∨(0<=d/\d<=8)
 o0:out[0]?=some 0
 sound:∀D,xQ p code D->∀(k:Nat)(d:Int),out[k]?=some d->d≠ -1->D k=d
 closed:∀(k:Nat)(i:SInstr)(d:Int),code[k]?=some i->out[k]?=some d->d≠ -1->ex k∨(aD p i<=d/\bz p i d<=8/\∀j∈bj k i,out[j]?=some (bz p i d))
theorem WalkI.mono{p:SProg}{code:List SInstr}{out:List Int}{ex ex':Nat->Prop}(h:WalkI p code out ex)(he:∀k,ex k->ex' k):WalkI p code out ex':=
 ⟨h.len,h.low,h.o0,h.sound,λk i d h1 h2 h3=>(h.closed k i d h1 h2 h3).imp_left (he k)⟩
theorem wN(p:SProg)(code:List SInstr):WalkI p code ((List.replicate (code.length+1) (-1)).set 0 0) (λk=>k=0):=by
 have hg:∀(k:Nat)(d:Int),((List.replicate (code.length+1) (-1:Int)).set 0 0)[k]?=some d->(k=0/\d=0)∨(k≠0/\d= -1):=λk d h=>by
  by_cases hk:0=k
  ·subst hk;rw[Ul (by simp)]at h;cases h;exact .inl ⟨rfl,rfl⟩
  ·rw[UC hk,UK]at h;split at h<;>cases h
   exact .inr ⟨λh=>hk h.symm,rfl⟩
 refine⟨by simp,λk d h=>?_,Ul (by simp),λD hD k d h hd=>?_,λk i d _ h hd=>?_⟩
 ·rcases hg k d h with⟨_,rfl⟩|⟨_,rfl⟩<;>simp
 ·rcases hg k d h with⟨rfl,rfl⟩|⟨_,rfl⟩
  ·exact hD.start
  ·exact absurd rfl hd
 ·rcases hg k d h with⟨rfl,rfl⟩|⟨_,rfl⟩
  ·exact .inl rfl
  ·exact absurd rfl hd
theorem Cs{p:SProg}{code:List SInstr}{out:List Int}{ex:Nat->Prop}(h:WalkI p code out ex){at' k:Nat}{i:SInstr}{d:Int}(hi:code[at']?=some i)(hd:out[at']?=some d)(hd1:d≠ -1)
  (h1:aD p i<=d)(h2:bz p i d<=8)(hk:k∈bj at' i)(hk2:out[k]?=some (-1)):WalkI p code (out.set k (bz p i d)) (λj=>ex j∨j=k):=by
 have hp:=mW i.op;have hkl:=(List.getElem?_eq_some_iff.1 hk2).1;have hn0:0<=bz p i d:=by unfold bz;omega
 have hne:∀(j:Nat)(v:Int),v≠ -1->out[j]?=some v->(out.set k (bz p i d))[j]?=some v:=λj v hv hj=>by
  rw[UC (λe=>by subst e;rw[hk2]at hj;cases hj;exact hv rfl)];exact hj
 refine⟨by rw[UX];exact h.len,λj v hj=>?_,hne 0 0 (by omega) h.o0,λD hD j v hj hv=>?_,λj i' v hc hj hv=>?_⟩
 ·by_cases e:k=j
  ·subst e;rw[Ul hkl]at hj;cases hj;omega
  ·rw[UC e]at hj;exact h.low j v hj
 ·by_cases e:k=j
  ·subst e;rw[Ul hkl]at hj;cases hj;have a:=h.sound D hD at' d hd hd1;rw[hD.go at' i hi (by rw[a];exact hd1) k hk,a];rfl
  ·rw[UC e]at hj;exact h.sound D hD j v hj hv
 ·by_cases e:k=j
  ·exact .inl (.inr e.symm)
  ·rw[UC e]at hj;rcases h.closed j i' v hc hj hv with a|⟨a,b,c⟩
   ·exact .inl (.inl a)
   ·refine .inr ⟨a,b,λj' hj'=>hne j' _ ?_ (c j' hj')⟩;have:=mW i'.op;unfold bz;omega
theorem zF{p:SProg}{code:List SInstr}{out:List Int}{ex:Nat->Prop}(h:WalkI p code out ex)(he:∀k,k<code.length->¬ex k):dK p code:=by
 refine⟨λk=>(out[k]?).getD (-1),by simp[h.o0],λk i hi hd=>?_,λk i hi hd j hj=>?_⟩
 all_goals
  have hk:=(List.getElem?_eq_some_iff.1 hi).1;obtain⟨d,hk2,_⟩:=aN (l:=out) (k:=k) (by rw[h.len];omega);simp only[hk2,TS]at hd⊢;rcases h.closed k i d hi hk2 hd with a|⟨a,b,c⟩
  ·exact absurd a (he k hk)
 ·exact⟨a,b⟩
 ·simp only[c j hj,TS];rfl
theorem xH{p:SProg}{code:List SInstr}{out:List Int}{ex:Nat->Prop}(h:WalkI p code out ex){k:Nat}{i:SInstr}{d:Int}(hi:code[k]?=some i)(hd:out[k]?=some d)(hd1:d≠ -1)(hb:¬(aD p i<=d/\bz p i d<=8)):¬dK p code:=λ⟨D,hD⟩=>by
 have a:=h.sound D hD k d hd hd1;have:=hD.low k i hi (by rw[a];exact hd1);rw[a]at this;exact hb this
theorem Da{p:SProg}{code:List SInstr}{out:List Int}{ex:Nat->Prop}(h:WalkI p code out ex){k j:Nat}{i:SInstr}{d v:Int}(hi:code[k]?=some i)(hd:out[k]?=some d)(hd1:d≠ -1)(hj:j∈bj k i)(hv:out[j]?=some v)(hv1:v≠ -1)(hb:v≠bz p i d):¬dK p code:=λ⟨D,hD⟩=>by
 have a:=h.sound D hD k d hd hd1;have b:=h.sound D hD j v hv hv1;have:=hD.go k i hi (by rw[a];exact hd1) j hj;rw[a,b]at this;exact hb this
theorem qZ{p:SProg}{code:List SInstr}{out:List Int}{ex ex':Nat->Prop}(h:WalkI p code out ex){k:Nat}(he:∀j,ex j->ex' j∨j=k)
  (hk:∀i d,code[k]?=some i->out[k]?=some d->d≠ -1->aD p i<=d/\bz p i d<=8/\∀j∈bj k i,out[j]?=some (bz p i d)):WalkI p code out ex':=
 ⟨h.len,h.low,h.o0,h.sound,λj i d h1 h2 h3=>by
  rcases h.closed j i d h1 h2 h3 with a|a
  ·rcases he j a with a|rfl
   ·exact .inl a
   ·exact .inr (hk i d h1 h2 h3)
  ·exact .inr a⟩
def jy(out:List Int):Nat:=out.countP λd=>decide (d= -1)
theorem zl{out:List Int}{k:Nat}{v:Int}(hk:out[k]?=some (-1))(hv:v≠ -1):jy (out.set k v)+1=jy out:=by
 obtain⟨hl,he⟩:=List.getElem?_eq_some_iff.1 hk;have hpos:0<out.countP λd=>decide (d= -1):=List.countP_pos_iff.2 ⟨-1,TC hk,by simp⟩;unfold jy;rw[List.countP_set hl,he];simp[hv];omega
theorem C5(out:List Int):jy out<=out.length:=List.countP_le_length
theorem AA{hs n k:Nat}{args:Int}{i:SInstr}(h:dL hs n args i=0)(hk:k<n):∀j∈bj k i,j<=n:=by
 intro j hj;unfold bj at hj;unfold dL bX at h;by_cases h20:i.op=20
 ·simp[h20,eg]at h hj;omega
 ·by_cases h21:i.op=21
  ·simp[h21,eg]at h hj;omega
  ·by_cases h25:i.op=25
   ·simp[h25]at hj
   ·simp[h20,h21,h25]at hj;omega
structure aT where
 regs:List Int
 armed:Bool
 down:Int
 sent:Int
 over:Int
 deriving DecidableEq
structure aq where
 actors:List aT
 mail:List aV
 used:SBudget
 deriving DecidableEq
def br(l:aT):List PV:=[eI l.regs,.bool l.armed,.int .i64 l.down,.int .i64 l.sent,.int .i64 l.over]
def bl(l:aT):PV:=.agg (br l)
def aW(l:List aT):PV:=.lst (l.map bl) false
def ay(w:aq):List PV:=[aW w.actors,aJ w.mail,.int .i64 w.used.drop,.int .i64 w.used.dup,.int .i64 w.used.time,.int .i64 w.used.crash]
def aE(w:aq):PV:=.agg (ay w)
def iw(l:List SHandler):PV:=.lst (l.map dh) false
def i4(l:List SActor):PV:=.lst (l.map jt) false
def dS(l:List SNote):PV:=.lst (l.map eK) false
theorem ao(p:SProg):BO p=[iw p.handlers,i4 p.actors,dS p.boot,.int .i64 p.fuel]:=rfl
def aA(p:SProg):PV:=.agg (BO p)
theorem eQ{k:Nat}{l:List aT}{x:aT}(h:l[k]?=some x):az 5 (aW l) (.int .i64 (k:Nat))=some (.lptr (br x)):=sj (f:=bl) h rfl
theorem bn{l:List aT}:bO (aW l)=some (.int .i64 l.length):=nn
theorem bK{l:List SHandler}:bO (iw l)=some (.int .i64 l.length):=nn
theorem bP{l:List SActor}:bO (i4 l)=some (.int .i64 l.length):=nn
theorem d9{l:List SNote}:bO (dS l)=some (.int .i64 l.length):=nn
theorem iK{k:Nat}{l:List SHandler}{x:SHandler}(h:l[k]?=some x):az 2 (iw l) (.int .i64 (k:Nat))=some (.lptr [.int .i64 x.args,cw x.code]):=Mn h
theorem gY{k:Nat}{l:List SActor}{x:SActor}(h:l[k]?=some x):az 4 (i4 l) (.int .i64 (k:Nat))=some (.lptr [eI x.regs,.int .i64 x.cap,.int .i64 x.timer,.bool x.armed]):=L0 h
theorem yc{k:Nat}{l:List SNote}{x:SNote}(h:l[k]?=some x):az 3 (dS l) (.int .i64 (k:Nat))=some (.lptr [.int .i64 x.to,.int .i64 x.handler,eI x.args]):=Mu h
def ed(a:SActor)(l:aT):Bool:=decide (l.regs.length=a.regs.length/\0<=l.down/\l.down<=4/\0<=l.sent/\0<=l.over/\l.sent<=2199023255551/\l.over<=2199023255551/\¬(l.armed=true/\a.timer= -1))
def Aq(w:aq)(k:Int):Int:=match w.actors[k.toNat]? with|some l=>l.sent|none=>0
def dI(p:SProg)(w:aq)(m:aV):Bool:=
 decide (gW p m.note=0/\0<=m.id.n/\0<=m.id.copy/\m.id.copy<=w.used.dup/\ -1<=m.id.frm/\m.id.frm<w.actors.length/\(if m.id.frm= -1 then m.id.n<16 else m.id.n<Aq w m.id.frm))
def Bw(b:SBudget):Bool:=decide (0<=b.drop/\0<=b.dup/\0<=b.time/\0<=b.crash/\b.drop<=1000/\b.dup<=1000/\b.time<=1000/\b.crash<=1000)
def pN(a b:Int):Int:=max (IntKind.i64.wrap (a-b)) 0
def rU(b:SBudget)(w:aq):SBudget:=⟨pN b.drop w.used.drop,pN b.dup w.used.dup,pN b.time w.used.time,pN b.crash w.used.crash⟩
theorem Ms(x y:Int):aI .gtr .i64 x .i64 y=some (.bool (decide (y<x))):=by simp[aI]
theorem Mh(x y:Int):aI .leq .i64 x .i64 y=some (.bool (decide (x<=y))):=by simp[aI]
theorem Md(x y:Int):aI .geq .i64 x .i64 y=some (.bool (decide (y<=x))):=by simp[aI]
theorem Pw(x y:Int):aI .neq .i64 x .i64 y=some (.bool (!decide (x=y))):=by by_cases h:x=y<;>simp[aI,h]
theorem wb:type_of%(And.intro wa (And.intro @vk (And.intro @Pw (And.intro @rM (And.intro @Ms (And.intro @Mh (And.intro @Md (And.intro @Uz (And.intro @Vb (And.intro @Uy (And.intro @UQ (And.intro @ff (And.intro @tf (And.intro @tt (And.intro @Env.ofArgs_at (And.intro @TS (And.intro @un.eq_1 @un.eq_2))))))))))))))))):=And.intro wa (And.intro @vk (And.intro @Pw (And.intro @rM (And.intro @Ms (And.intro @Mh (And.intro @Md (And.intro @Uz (And.intro @Vb (And.intro @Uy (And.intro @UQ (And.intro @ff (And.intro @tf (And.intro @tt (And.intro @Env.ofArgs_at (And.intro @TS (And.intro @un.eq_1 @un.eq_2))))))))))))))))
theorem Kn{m:Nat}(op:Int):aj aG (m+1) 190 [.int .i64 op]=some (.bool (eg op),[]):=by
 refine am (F:=mN) rfl rfl rfl ?_ (.inr rfl);unfold eg;by_cases h1:1<=op<;>by_cases h2:op<=25<;>simp only[wb,↓reduceIte,mN,h1,h2,Vh]
theorem IV{m:Nat}(op:Int):aj aG (m+1) 271 [.int .i64 op]=some (.bool (eg op),[]):=by
 refine am (F:=lO) rfl rfl rfl ?_ (.inr rfl);unfold eg;by_cases h1:1<=op<;>by_cases h2:op<=25<;>simp only[wb,↓reduceIte,lO,h1,h2,Vh]
theorem GM{m:Nat}(op:Int):aj aG (m+1) 189 [.int .i64 op]=some (.int .i64 (bX op),[]):=by
 rcases(show op=1∨op=5∨op=6∨op=7∨op=20∨op=21∨op=22∨(op≠1/\op≠5/\op≠6/\op≠7/\op≠20/\op≠21/\op≠22)by omega)with rfl|rfl|rfl|rfl|rfl|rfl|rfl|⟨h1,h2,h3,h4,h5,h6,h7⟩
 iterate 7 (·kernel_rfl)
 refine am (F:=jV) rfl rfl rfl ?_ (.inr rfl);simp only[bX,h1,h2,h3,h4,h5,h6,h7,Uv,TU];simp only[wb,↓reduceIte,Nat.reduceEqDiff,jV,h1,h2,h3,h4,h5,h6,h7]
theorem Ey{m:Nat}(op:Int):aj aG (m+1) 272 [.int .i64 op]=some (.int .i64 (bX op),[]):=by
 rcases(show op=1∨op=5∨op=6∨op=7∨op=20∨op=21∨op=22∨(op≠1/\op≠5/\op≠6/\op≠7/\op≠20/\op≠21/\op≠22)by omega)with rfl|rfl|rfl|rfl|rfl|rfl|rfl|⟨h1,h2,h3,h4,h5,h6,h7⟩
 iterate 7 (·kernel_rfl)
 refine am (F:=jj) rfl rfl rfl ?_ (.inr rfl);simp only[bX,h1,h2,h3,h4,h5,h6,h7,Uv,TU];simp only[wb,↓reduceIte,Nat.reduceEqDiff,jj,h1,h2,h3,h4,h5,h6,h7]
theorem mA{op:Int}(h:eg op=true):op=1∨op=2∨op=3∨op=4∨op=5∨op=6∨op=7∨op=8∨op=9∨op=10∨op=11∨op=12∨op=13∨op=14∨op=15∨op=16∨op=17∨op=18∨op=19∨op=20∨op=21∨op=22∨op=23∨op=24∨op=25:=by
 have:=UE h;omega
theorem Nv{m:Nat}(op:Int)(h:eg op=true):aj aG (m+1) 178 [.int .i64 op]=some (.int .i64 (bm op),[]):=by
 rcases mA h with rfl|rfl|rfl|rfl|rfl|rfl|rfl|rfl|rfl|rfl|rfl|rfl|rfl|rfl|rfl|rfl|rfl|rfl|rfl|rfl|rfl|rfl|rfl|rfl|rfl<;>kernel_rfl
theorem NW{m:Nat}(op:Int)(h:eg op=true):aj aG (m+1) 158 [.int .i64 op]=some (.int .i64 (cM op),[]):=by
 rcases mA h with rfl|rfl|rfl|rfl|rfl|rfl|rfl|rfl|rfl|rfl|rfl|rfl|rfl|rfl|rfl|rfl|rfl|rfl|rfl|rfl|rfl|rfl|rfl|rfl|rfl<;>kernel_rfl
theorem Kz{m:Nat}(op:Int)(h:eg op=true):aj aG (m+2) 260 [.int .i64 op]=some (.int .i64 (bm op),[]):=by
 rcases mA h with rfl|rfl|rfl|rfl|rfl|rfl|rfl|rfl|rfl|rfl|rfl|rfl|rfl|rfl|rfl|rfl|rfl|rfl|rfl|rfl|rfl|rfl|rfl|rfl|rfl<;>kernel_rfl
theorem KA{m:Nat}(op:Int)(h:eg op=true):aj aG (m+2) 261 [.int .i64 op]=some (.int .i64 (cM op),[]):=by
 rcases mA h with rfl|rfl|rfl|rfl|rfl|rfl|rfl|rfl|rfl|rfl|rfl|rfl|rfl|rfl|rfl|rfl|rfl|rfl|rfl|rfl|rfl|rfl|rfl|rfl|rfl<;>kernel_rfl
theorem yq(op:Int):bX op=0∨bX op=1∨bX op=2∨bX op=3∨bX op=4∨bX op=5:=by
 unfold bX
 repeat' split
 all_goals omega
theorem LK{m:Nat}(p:SProg)(h:SHandler)(i:SInstr):aj aG (m+2) 176 [aA p,dh h,eA i]=some (.int .i64 (dL p.handlers.length h.code.length h.args i),[]):=by
 refine am (F:=dn) rfl rfl rfl ?_ (.inr rfl);have ho:=GM (m:=m) i.op;have hv:=Kn (m:=m) i.op;generalize aj aG (m+1)=C at*;generalize aY aG=V;simp only[aA,ao,dh,eA,dL];have lc:bO (cw h.code)=some (.int .i64 h.code.length):=fG;have lh:bO (iw p.handlers)=some (.int .i64 p.handlers.length):=bK;have c1:(iw p.handlers).isCell=true:=rfl;have c2:(i4 p.actors).isCell=true:=rfl;have c3:(dS p.boot).isCell=true:=rfl;have d1:(iw p.handlers).fits none=true:=rfl;have d2:(i4 p.actors).fits none=true:=rfl;have d3:(dS p.boot).fits none=true:=rfl;cases hq:eg i.op with
 |false=>
  rw[hq]at hv;simp only[wb,↓reduceIte,Nat.reduceEqDiff,Nat.reduceAdd,Int.reduceNeg,Tz,un,dn,ho,hv,c1,c2,c3,d1,d2,d3]
 |true=>
  rw[hq]at hv;rcases yq i.op with hk|hk|hk|hk|hk|hk<;>rw[hk]at ho⊢
  ·by_cases h1:i.a=0<;>simp only[wb,↓reduceIte,Nat.reduceEqDiff,reduceCtorEq,Nat.reduceAdd,Int.reduceEq,Int.reduceLT,Int.reduceLE,Int.reduceNeg,Tz,un,dn,ho,hv,h1,lc,lh,c1,c2,c3,d1,d2,d3,ne_eq,UJ,U8,Vh,Vg]
  ·simp only[wb,↓reduceIte,Nat.reduceEqDiff,reduceCtorEq,Nat.reduceAdd,Int.reduceEq,Int.reduceNeg,Tz,un,dn,ho,hv,lc,lh,c1,c2,c3,d1,d2,d3,ne_eq,Vg]
  ·by_cases h1:i.a<0<;>by_cases h2:8<=i.a<;>simp only[wb,↓reduceIte,Nat.reduceEqDiff,reduceCtorEq,Nat.reduceAdd,Int.reduceEq,Int.reduceNeg,Tz,un,dn,ho,hv,h1,h2,lc,lh,c1,c2,c3,d1,d2,d3,ne_eq,Vh,Vg,Uv,Vf,Vl,Vu,false_or]
  ·by_cases h1:i.a<0<;>by_cases h2:h.args<=i.a<;>simp only[wb,↓reduceIte,Nat.reduceEqDiff,reduceCtorEq,Nat.reduceAdd,Int.reduceEq,Int.reduceNeg,Tz,un,dn,ho,hv,h1,h2,lc,lh,c1,c2,c3,d1,d2,d3,ne_eq,Vh,Vg,Uv,Vf,Vl,Vu,false_or]
  ·by_cases h1:i.a<0<;>by_cases h2:(h.code.length:Int)<i.a<;>simp only[wb,↓reduceIte,Nat.reduceEqDiff,reduceCtorEq,Nat.reduceAdd,Int.reduceEq,Int.reduceNeg,Tz,un,dn,ho,hv,h1,h2,lc,lh,c1,c2,c3,d1,d2,d3,ne_eq,Vh,Vg,Uv,Vf,Vu,false_or]
  ·by_cases h1:i.a<0<;>by_cases h2:(p.handlers.length:Int)<=i.a<;>simp only[wb,↓reduceIte,Nat.reduceEqDiff,reduceCtorEq,Nat.reduceAdd,Int.reduceEq,Int.reduceNeg,Tz,un,dn,ho,hv,h1,h2,lc,lh,c1,c2,c3,d1,d2,d3,ne_eq,Vh,Vg,Uv,Vf,Vl,Vu,false_or]
theorem wH{C:b6}{V:Nat->List PV->List PV->Bool}{c:X}{BODY K:VC}{vi b:Nat}{X0:Option vg}{α:Type}{l:List α}(f:α->Int)(hn:l.length<1099511627775)(St:Env->Prop)
  (hset:∀env v,St env->St (env.set vi v))
  (hc:∀(k:Nat) env,k<=l.length->St env->env vi=.int .i64 (k:Nat)->c.ev env=some (.bool (decide (k<l.length))))
  (hbody:∀(k:Nat)(x:α) env,l[k]?=some x->x∈l->St env->env vi=.int .i64 (k:Nat)->∃r,aL C V BODY env=some r/\(f x≠0->r=.ret (.int .i64 (f x)) [])/\(f x=0->∃env',r=.norm env'/\St env'/\env' vi=.int .i64 (k:Nat)))
  (hr:bS f l≠0->X0=some (.ret (.int .i64 (bS f l)) []))(hk:bS f l=0->∀e,St e->aL C V K e=X0)
  {env:Env}(h0:St env)(hv:env vi=.int .i64 0):
  aL C V (.seq (.block b (.loop (.seq (IE c b) (.seq BODY (uF vi))))) K) env=X0:=by
 refine xm (n:=l.length) hn (λk=>(l[k]?).elim false λx=> !decide (f x=0)) (λk=>(l[k]?).elim .junk λx=>.int .i64 (f x)) (λ_ e=>St e) (λk e v h=>hset e v h) (λk e h1 h2 h3=>hc k e h1 h2 h3) (λk e hk2 hs hv2=>?_) (λk hk2 hp hj=>?_) (λhp e he=>?_) h0 hv
 ·obtain⟨x,hx,hm⟩:=aN hk2;obtain⟨r,h1,h2,h3⟩:=hbody k x e hx hm hs hv2;refine⟨r,h1,?_⟩;by_cases hf:f x=0
  ·simp only[hx,Option.elim,hf,Uz,Uy,T4,TU];obtain⟨e',a,b,c⟩:=h3 hf;exact⟨e',a,b,c⟩
  ·simp only[hx,Option.elim,hf,Vb,UQ,TY];exact h2 hf
 ·obtain⟨x,hx,hm⟩:=aN hk2;simp only[hx,Option.elim,TZ,TX]at hp⊢;have:=ux hx hp λj hj' y hy=>by
   have:=hj j hj';simpa[hy]using this
  rw[hr (by rw[this];exact hp),this]
 ·refine hk (ui λk hk2 x hx=>?_) e he;have:=hp k hk2;simpa[hx]using this
theorem qd{C:b6}{V:Nat->List PV->List PV->Bool}{c:X}{BODY K:VC}{vi b:Nat}{X0:Option vg}{α:Type}{l:List α}(f:α->Int)(hn:l.length<1099511627775)(St:Env->Prop)
  (hset:∀env v,St env->St (env.set vi v))
  (hc:∀(k:Nat) env,k<=l.length->St env->env vi=.int .i64 (k:Nat)->c.ev env=some (.bool (decide (k<l.length))))
  (hbody:∀(k:Nat)(x:α) env,l[k]?=some x->x∈l->St env->env vi=.int .i64 (k:Nat)->∃r,aL C V BODY env=some r/\(f x≠0->r=.ret (.int .i64 (f x)) [])/\(f x=0->∃env',r=.norm env'/\St env'/\env' vi=.int .i64 (k:Nat)))
  (hr:bS f l≠0->X0=some (.ret (.int .i64 (bS f l)) []))(hk:bS f l=0->∀e,St e->aL C V K e=X0)
  {env:Env}(h0:St env)(hv:env vi=.int .i64 0):
  aL C V (.seq (.block b (.loop (.seq (.st [.asg [c] []]) (.seq (.cond c .skip (.exit b)) (.seq BODY (uF vi)))))) K) env=X0:=by
 have:=wH (C:=C) (V:=V) (K:=K) (X0:=X0) (b:=b) f hn St hset hc hbody hr hk h0 hv;rw[<-this,aL.eq_def,aL.eq_def C V (.seq _ K)];simp only;rw[Kt]
theorem Jg{m:Nat}(n hs:Nat)(args:Int)(i:SInstr):aj aG (m+2) 259 [eA i,.int .i64 (n:Nat),.int .i64 args,.int .i64 (hs:Nat)]=some (.int .i64 (dL hs n args i),[]):=by
 refine am (F:=bJ) rfl rfl rfl ?_ (.inr rfl);have ho:=Ey (m:=m) i.op;have hv:=IV (m:=m) i.op;generalize aj aG (m+1)=C at*;generalize aY aG=V;simp only[eA,dL];cases hq:eg i.op with
 |false=>
  rw[hq]at hv;simp only[wb,↓reduceIte,Nat.reduceAdd,Int.reduceNeg,Tz,un,bJ,hv]
 |true=>
  rw[hq]at hv;rcases yq i.op with hk|hk|hk|hk|hk|hk<;>rw[hk]at ho⊢
  ·by_cases h1:i.a=0<;>simp only[wb,↓reduceIte,Nat.reduceEqDiff,reduceCtorEq,Nat.reduceAdd,Int.reduceEq,Int.reduceLT,Int.reduceLE,Int.reduceNeg,Tz,un,bJ,ho,hv,h1,ne_eq,UJ,U8,Vh,Vg]
  ·simp only[wb,↓reduceIte,Nat.reduceEqDiff,reduceCtorEq,Nat.reduceAdd,Int.reduceEq,Int.reduceNeg,Tz,un,bJ,ho,hv,ne_eq,Vg]
  ·by_cases h1:i.a<0<;>by_cases h2:8<=i.a<;>simp only[wb,↓reduceIte,Nat.reduceEqDiff,reduceCtorEq,Nat.reduceAdd,Int.reduceEq,Int.reduceNeg,Tz,un,bJ,ho,hv,h1,h2,ne_eq,Vh,Vg,Uv,Vf,Vl,Vu,false_or]
  ·by_cases h1:i.a<0<;>by_cases h2:args<=i.a<;>simp only[wb,↓reduceIte,Nat.reduceEqDiff,reduceCtorEq,Nat.reduceAdd,Int.reduceEq,Int.reduceNeg,Tz,un,bJ,ho,hv,h1,h2,ne_eq,Vh,Vg,Uv,Vf,Vl,Vu,false_or]
  ·by_cases h1:i.a<0<;>by_cases h2:(n:Int)<i.a<;>simp only[wb,↓reduceIte,Nat.reduceEqDiff,reduceCtorEq,Nat.reduceAdd,Int.reduceEq,Int.reduceNeg,Tz,un,bJ,ho,hv,h1,h2,ne_eq,Vh,Vg,Uv,Vf,Vu,false_or]
  ·by_cases h1:i.a<0<;>by_cases h2:(hs:Int)<=i.a<;>simp only[wb,↓reduceIte,Nat.reduceEqDiff,reduceCtorEq,Nat.reduceAdd,Int.reduceEq,Int.reduceNeg,Tz,un,bJ,ho,hv,h1,h2,ne_eq,Vh,Vg,Uv,Vf,Vl,Vu,false_or]
theorem dA(l:List SHandler):(iw l).isCell=true:=rfl
theorem dz(l:List SActor):(i4 l).isCell=true:=rfl
theorem dE(l:List SNote):(dS l).isCell=true:=rfl
theorem dF(l:List SHandler):(iw l).fits none=true:=rfl
theorem dD(l:List SActor):(i4 l).fits none=true:=rfl
theorem dC(l:List SNote):(dS l).fits none=true:=rfl
theorem Hb{m:Nat}(p:SProg)(h:SHandler)(hl:h.code.length<1000000000):aj aG (m+3) 151 [aA p,dh h]=some (.int .i64 (fZ p h),[]):=by
 refine am (F:=jc) rfl rfl rfl ?_ (.inr rfl);have hi:=λi=>LK (m:=m) p h i;generalize aj aG (m+2)=C at*;generalize aY aG=V;have lc:bO (cw h.code)=some (.int .i64 h.code.length):=fG;simp only[aA,ao,dh,eA]at hi;simp only[aA,ao,dh,fZ,jc,mU];refine nx (by simp only[wb,↓reduceIte,Nat.reduceAdd,Tz,dA,dz,dE,dF,dD,dC];rfl) ?_;by_cases h1:h.args<0
 ·refine ah ?_;simp only[wb,↓reduceIte,Nat.reduceEqDiff,h1,Vl]
 by_cases h2:4<h.args
 ·refine ah ?_;simp only[wb,↓reduceIte,Nat.reduceEqDiff,h1,h2,Vf]
 by_cases h3:64<h.code.length
 ·refine ah ?_;have h3':(64:Int)<(h.code.length:Int):=by omega
  simp only[wb,↓reduceIte,Nat.reduceEqDiff,h1,h2,h3,h3',lc,Uv]
 have h3':¬(64:Int)<(h.code.length:Int):=by omega
 refine nx (by simp only[wb,↓reduceIte,Nat.reduceEqDiff,h1,h2,h3',lc];rfl) ?_;rw[mM];refine nx (by simp only[wb,↓reduceIte,Nat.reduceEqDiff,lc];rfl) ?_;simp only[h1,h2,h3,Uv,TU];refine qd (l:=h.code) (dL p.handlers.length h.code.length h.args) (by omega) (λe=>e 2=.lptr [iw p.handlers,i4 p.actors,dS p.boot,.int .i64 p.fuel]/\e 3=.lptr [.int .i64 h.args,cw h.code]/\e 21=cw h.code/\e 22=.int .i64 h.code.length) (λe v h=>by simpa using h)
  (λk e hk hs hv=>by simp only[X.ev,hv,hs.2.2.2,ac,bin,bA]) (λk x e hx hm ⟨s1,s2,s3,s4⟩ hv=>?_) (λhn=>rfl) (λhz e he=>?_) ⟨by simp,by simp,by simp,by simp⟩ (by simp)
 ·have ix:=od hx;have hi:=hi x;by_cases hz:dL p.handlers.length h.code.length h.args x=0
  ·rw[hz]at hi;refine⟨_,by simp only[wb,↓reduceIte,Nat.reduceEqDiff,Nat.reduceAdd,Tz,s1,s2,s3,hv,ix,dA,dz,dE,dF,dD,dC,hi];rfl,λh=>absurd hz h,λ_=>⟨_,rfl,?_⟩⟩;simp[s1,s2,s3,s4,hv]
  ·refine⟨_,by simp only[wb,↓reduceIte,Nat.reduceEqDiff,Nat.reduceAdd,Tz,s1,s2,s3,hv,ix,dA,dz,dE,dF,dD,dC,hi,hz],λ_=>rfl,λh=>absurd h hz⟩
 ·rw[hz];simp only[wb,↓reduceIte]
theorem iC{p:SProg}{k:Int}(h0:0<=k)(h1:k<p.handlers.length):∃(j:Nat)(h:SHandler),k=(j:Int)/\p.handlers[j]?=some h/\cz p k=h.args:=by
 obtain⟨j,rfl⟩:=Ug h0;obtain⟨h,hh,_⟩:=aN (l:=p.handlers) (k:=j) (by omega);exact⟨j,h,rfl,hh,by simp[cz,hh]⟩
theorem Kf{m:Nat}(p:SProg)(a:SActor):aj aG (m+1) 153 [aA p,jt a]=some (.int .i64 (mw p a),[]):=by
 refine am (F:=kX) rfl rfl rfl ?_ (.inr rfl);generalize aj aG m=C at*;generalize aY aG=V;have lr:bO (eI a.regs)=some (.int .i64 a.regs.length):=cE;have lh:bO (iw p.handlers)=some (.int .i64 p.handlers.length):=bK;simp only[aA,ao,jt,mw,kX];by_cases h1:8<a.regs.length
 ·have h1':(8:Int)<(a.regs.length:Int):=by omega
  simp only[wb,↓reduceIte,Nat.reduceEqDiff,Nat.reduceAdd,Int.reduceNeg,Tz,dA,dz,dE,dF,dD,dC,lr,h1,h1']
 have h1':¬(8:Int)<(a.regs.length:Int):=by omega
 by_cases h2:a.cap<0
 ·simp only[wb,↓reduceIte,Nat.reduceEqDiff,Nat.reduceAdd,Int.reduceNeg,Tz,dA,dz,dE,dF,dD,dC,lr,h1,h1',h2,Vl]
 by_cases h3:16<a.cap
 ·simp only[wb,↓reduceIte,Nat.reduceEqDiff,Nat.reduceAdd,Int.reduceNeg,Tz,dA,dz,dE,dF,dD,dC,lr,h1,h1',h2,h3,Vf]
 by_cases h4:a.timer= -1
 ·cases h5:a.armed<;>simp only[wb,↓reduceIte,Nat.reduceEqDiff,Nat.reduceAdd,Int.reduceLT,Int.reduceNeg,Tz,dA,dz,dE,dF,dD,dC,lr,lh,h1,h1',h2,h3,h4,Uv,ne_eq,UJ,Vg]
 by_cases h6:a.timer<0
 ·simp only[wb,↓reduceIte,Nat.reduceEqDiff,reduceCtorEq,Nat.reduceAdd,Int.reduceNeg,Tz,dA,dz,dE,dF,dD,dC,lr,lh,h1,h1',h2,h3,h4,h6,Uv,ne_eq,U8,Vl]
 by_cases h7:(p.handlers.length:Int)<=a.timer
 ·simp only[wb,↓reduceIte,Nat.reduceEqDiff,reduceCtorEq,Nat.reduceAdd,Int.reduceNeg,Tz,dA,dz,dE,dF,dD,dC,lr,lh,h1,h1',h2,h3,h4,h6,h7,Uv,Vf,Vl,ne_eq,U8]
 obtain⟨j,h,hj,hh,ha⟩:=iC (p:=p) (k:=a.timer) (by omega) (by omega);have ih:=iK hh;rw[hj]at h4 h6 h7 ha;by_cases h8:h.args=0
 ·cases h5:a.armed<;>simp only[wb,↓reduceIte,Nat.reduceEqDiff,Nat.reduceAdd,Int.reduceNeg,Tz,dA,dz,dE,dF,dD,dC,lr,lh,hj,ha,ih,h1,h1',h2,h3,h4,h6,h7,h8,Uv,ne_eq,UJ,U8,Vh]
 ·cases h5:a.armed<;>simp only[wb,↓reduceIte,Nat.reduceEqDiff,Nat.reduceAdd,Int.reduceNeg,Tz,dA,dz,dE,dF,dD,dC,lr,lh,hj,ha,ih,h1,h1',h2,h3,h4,h6,h7,h8,Uv,Vf,ne_eq,U8]
theorem Ir{m:Nat}(p:SProg)(n:SNote):aj aG (m+1) 155 [aA p,eK n]=some (.int .i64 (gW p n),[]):=by
 refine am (F:=nh) rfl rfl rfl ?_ (.inr rfl);generalize aj aG m=C at*;generalize aY aG=V;have lr:bO (eI n.args)=some (.int .i64 n.args.length):=cE;have lh:bO (iw p.handlers)=some (.int .i64 p.handlers.length):=bK;have la:bO (i4 p.actors)=some (.int .i64 p.actors.length):=bP;simp only[aA,ao,eK,gW,nh];by_cases h1:n.to<0
 ·simp only[wb,↓reduceIte,Nat.reduceEqDiff,Nat.reduceAdd,Tz,dA,dz,dE,dF,dD,dC,h1,Vl]
 by_cases h2:(p.actors.length:Int)<=n.to
 ·simp only[wb,↓reduceIte,Nat.reduceEqDiff,Nat.reduceAdd,Tz,dA,dz,dE,dF,dD,dC,la,h1,h2,Vl,Vf]
 by_cases h3:n.handler<0
 ·simp only[wb,↓reduceIte,Nat.reduceEqDiff,Nat.reduceAdd,Tz,dA,dz,dE,dF,dD,dC,la,h1,h2,h3,Vl,Vf]
 by_cases h4:(p.handlers.length:Int)<=n.handler
 ·simp only[wb,↓reduceIte,Nat.reduceEqDiff,Nat.reduceAdd,Tz,dA,dz,dE,dF,dD,dC,la,lh,h1,h2,h3,h4,Vf]
 obtain⟨j,h,hj,hh,ha⟩:=iC (p:=p) (k:=n.handler) (by omega) (by omega);have ih:=iK hh;rw[hj]at h3 h4 ha;by_cases h8:(n.args.length:Int)=h.args
 ·simp only[wb,↓reduceIte,Nat.reduceEqDiff,Nat.reduceAdd,Tz,dA,dz,dE,dF,dD,dC,la,lh,lr,hj,ha,ih,h1,h2,h3,h4,h8,Uv,ne_eq,UJ]
 ·simp only[wb,↓reduceIte,Nat.reduceEqDiff,Nat.reduceAdd,Tz,dA,dz,dE,dF,dD,dC,la,lh,lr,hj,ha,ih,h1,h2,h3,h4,h8,Uv,ne_eq,U8]
theorem Fj{m:Nat}(p:SProg)(n:SNote):aj aG (m+1) 241 [aA p,eK n]=some (.int .i64 (gW p n),[]):=by
 refine am (F:=gJ) rfl rfl rfl ?_ (.inr rfl);generalize aj aG m=C at*;generalize aY aG=V;have lr:bO (eI n.args)=some (.int .i64 n.args.length):=cE;have lh:bO (iw p.handlers)=some (.int .i64 p.handlers.length):=bK;have la:bO (i4 p.actors)=some (.int .i64 p.actors.length):=bP;simp only[aA,ao,eK,gW,gJ];by_cases h1:n.to<0
 ·simp only[wb,↓reduceIte,Nat.reduceEqDiff,reduceCtorEq,Nat.reduceAdd,Tz,dA,dz,dE,dF,dD,dC,h1,Vl]
 by_cases h2:(p.actors.length:Int)<=n.to
 ·simp only[wb,↓reduceIte,Nat.reduceEqDiff,reduceCtorEq,Nat.reduceAdd,Tz,dA,dz,dE,dF,dD,dC,la,h1,h2,Vl,Vf]
 by_cases h3:n.handler<0
 ·simp only[wb,↓reduceIte,Nat.reduceEqDiff,reduceCtorEq,Nat.reduceAdd,Tz,dA,dz,dE,dF,dD,dC,la,h1,h2,h3,Vl,Vf]
 by_cases h4:(p.handlers.length:Int)<=n.handler
 ·simp only[wb,↓reduceIte,Nat.reduceEqDiff,Nat.reduceAdd,Tz,dA,dz,dE,dF,dD,dC,la,lh,h1,h2,h3,h4,Vf]
 obtain⟨j,h,hj,hh,ha⟩:=iC (p:=p) (k:=n.handler) (by omega) (by omega);have ih:=iK hh;rw[hj]at h3 h4 ha;by_cases h8:(n.args.length:Int)=h.args
 ·simp only[wb,↓reduceIte,Nat.reduceEqDiff,Nat.reduceAdd,Tz,dA,dz,dE,dF,dD,dC,la,lh,lr,hj,ha,ih,h1,h2,h3,h4,h8,Uv,ne_eq,UJ]
 ·simp only[wb,↓reduceIte,Nat.reduceEqDiff,Nat.reduceAdd,Tz,dA,dz,dE,dF,dD,dC,la,lh,lr,hj,ha,ih,h1,h2,h3,h4,h8,Uv,ne_eq,U8]
theorem LM{m fn:Nat}(p:SProg)(f:SHandler->Int)(l:List SHandler)(hl:l.length<1000000000)(hC:∀x∈l,aj aG m fn [aA p,dh x]=some (.int .i64 (f x),[]))(hV:∀x,aY aG fn [aA p,dh x] []=true):
  aj aG (m+1) 150 [aA p,iw l,.fn fn []]=some (.int .i64 (bS f l),[]):=by
 refine am (F:=dG) rfl rfl rfl ?_ (.inr rfl);generalize aj aG m=C at*;generalize aY aG=V at*;simp only[aA,ao,dh]at hC hV;simp only[aA,ao,dG,ga];refine nx (by simp only[wb,↓reduceIte,Nat.reduceAdd,Tz,dA,dz,dE,dF,dD,dC];rfl) ?_;rw[mM];refine nx (by simp only[wb,↓reduceIte,Nat.reduceEqDiff,bK];rfl) ?_;refine qd (l:=l) f (by omega) (λe=>e 2=.fn fn []/\e 3=.lptr [iw p.handlers,i4 p.actors,dS p.boot,.int .i64 p.fuel]/\e 10=iw l/\e 11=.int .i64 l.length) (λe v h=>by simpa using h)
  (λk e hk hs hv=>by simp only[X.ev,hv,hs.2.2.2,ac,bin,bA]) (λk x e hx hm ⟨s1,s2,s3,s4⟩ hv=>?_) (λhn=>rfl) (λhz e he=>?_) ⟨by simp[Env.ofArgs_at],by simp,by simp[],by simp⟩ (by simp)
 ·have ix:=iK hx;have hi:=hC x hm;have hv':=hV x;by_cases hz:f x=0
  ·rw[hz]at hi;refine⟨_,by simp only[wb,↓reduceIte,Nat.reduceEqDiff,Nat.reduceAdd,Tz,s1,s2,s3,hv,ix,dA,dz,dE,dF,dD,dC,hv',T6,hi];rfl,λh=>absurd hz h,λ_=>⟨_,rfl,?_⟩⟩;simp[s1,s2,s3,s4,hv]
  ·refine⟨_,by simp only[wb,↓reduceIte,Nat.reduceEqDiff,Nat.reduceAdd,Tz,s1,s2,s3,hv,ix,dA,dz,dE,dF,dD,dC,hv',T6,hi,hz],λ_=>rfl,λh=>absurd h hz⟩
 ·rw[hz];simp only[wb,↓reduceIte]
theorem Lg{m fn:Nat}(p:SProg)(f:SActor->Int)(l:List SActor)(hl:l.length<1000000000)(hC:∀x∈l,aj aG m fn [aA p,jt x]=some (.int .i64 (f x),[]))(hV:∀x,aY aG fn [aA p,jt x] []=true):
  aj aG (m+1) 152 [aA p,i4 l,.fn fn []]=some (.int .i64 (bS f l),[]):=by
 refine am (F:=ee) rfl rfl rfl ?_ (.inr rfl);generalize aj aG m=C at*;generalize aY aG=V at*;simp only[aA,ao,jt]at hC hV;simp only[aA,ao,ee,ir];refine nx (by simp only[wb,↓reduceIte,Nat.reduceAdd,Tz,dA,dz,dE,dF,dD,dC];rfl) ?_;rw[mM];refine nx (by simp only[wb,↓reduceIte,Nat.reduceEqDiff,bP];rfl) ?_;refine qd (l:=l) f (by omega) (λe=>e 2=.fn fn []/\e 3=.lptr [iw p.handlers,i4 p.actors,dS p.boot,.int .i64 p.fuel]/\e 10=i4 l/\e 11=.int .i64 l.length) (λe v h=>by simpa using h)
  (λk e hk hs hv=>by simp only[X.ev,hv,hs.2.2.2,ac,bin,bA]) (λk x e hx hm ⟨s1,s2,s3,s4⟩ hv=>?_) (λhn=>rfl) (λhz e he=>?_) ⟨by simp[Env.ofArgs_at],by simp,by simp[],by simp⟩ (by simp)
 ·have ix:=gY hx;have hi:=hC x hm;have hv':=hV x;by_cases hz:f x=0
  ·rw[hz]at hi;refine⟨_,by simp only[wb,↓reduceIte,Nat.reduceEqDiff,Nat.reduceAdd,Tz,s1,s2,s3,hv,ix,dA,dz,dE,dF,dD,dC,hv',T6,hi];rfl,λh=>absurd hz h,λ_=>⟨_,rfl,?_⟩⟩;simp[s1,s2,s3,s4,hv]
  ·refine⟨_,by simp only[wb,↓reduceIte,Nat.reduceEqDiff,Nat.reduceAdd,Tz,s1,s2,s3,hv,ix,dA,dz,dE,dF,dD,dC,hv',T6,hi,hz],λ_=>rfl,λh=>absurd h hz⟩
 ·rw[hz];simp only[wb,↓reduceIte]
theorem Lx{m fn:Nat}(p:SProg)(f:SNote->Int)(l:List SNote)(hl:l.length<1000000000)(hC:∀x∈l,aj aG m fn [aA p,eK x]=some (.int .i64 (f x),[]))(hV:∀x,aY aG fn [aA p,eK x] []=true):
  aj aG (m+1) 154 [aA p,dS l,.fn fn []]=some (.int .i64 (bS f l),[]):=by
 refine am (F:=eo) rfl rfl rfl ?_ (.inr rfl);generalize aj aG m=C at*;generalize aY aG=V at*;simp only[aA,ao,eK]at hC hV;simp only[aA,ao,eo,iQ];refine nx (by simp only[wb,↓reduceIte,Nat.reduceAdd,Tz,dA,dz,dE,dF,dD,dC];rfl) ?_;rw[mM];refine nx (by simp only[wb,↓reduceIte,Nat.reduceEqDiff,d9];rfl) ?_;refine qd (l:=l) f (by omega) (λe=>e 2=.fn fn []/\e 3=.lptr [iw p.handlers,i4 p.actors,dS p.boot,.int .i64 p.fuel]/\e 10=dS l/\e 11=.int .i64 l.length) (λe v h=>by simpa using h)
  (λk e hk hs hv=>by simp only[X.ev,hv,hs.2.2.2,ac,bin,bA]) (λk x e hx hm ⟨s1,s2,s3,s4⟩ hv=>?_) (λhn=>rfl) (λhz e he=>?_) ⟨by simp[Env.ofArgs_at],by simp,by simp[],by simp⟩ (by simp)
 ·have ix:=yc hx;have hi:=hC x hm;have hv':=hV x;by_cases hz:f x=0
  ·rw[hz]at hi;refine⟨_,by simp only[wb,↓reduceIte,Nat.reduceEqDiff,Nat.reduceAdd,Tz,s1,s2,s3,hv,ix,dA,dz,dE,dF,dD,dC,hv',T6,hi];rfl,λh=>absurd hz h,λ_=>⟨_,rfl,?_⟩⟩;simp[s1,s2,s3,s4,hv]
  ·refine⟨_,by simp only[wb,↓reduceIte,Nat.reduceEqDiff,Nat.reduceAdd,Tz,s1,s2,s3,hv,ix,dA,dz,dE,dF,dD,dC,hv',T6,hi,hz],λ_=>rfl,λh=>absurd h hz⟩
 ·rw[hz];simp only[wb,↓reduceIte]
structure fL (p:SProg):Prop where
 hs:p.handlers.length<1000000000
 as:p.actors.length<1000000000
 ns:p.boot.length<1000000000
 code:∀h∈p.handlers,h.code.length<1000000000
 regs:∀a∈p.actors,a.regs.length<1000000000
 args:∀n∈p.boot,n.args.length<1000000000
theorem wc:type_of%(And.intro wb (And.intro @dA (And.intro @dz (And.intro @dE (And.intro @dF (And.intro @dD (And.intro @dC (And.intro @ne_eq.{1} (And.intro @UJ (And.intro @U8 (And.intro @and_self (And.intro @U6 (And.intro @true_and (And.intro @Vh (And.intro @Vg (And.intro @Uv (And.intro @Vf (And.intro @Vl (And.intro @Vu @false_or))))))))))))))))))):=And.intro wb (And.intro @dA (And.intro @dz (And.intro @dE (And.intro @dF (And.intro @dD (And.intro @dC (And.intro @ne_eq.{1} (And.intro @UJ (And.intro @U8 (And.intro @and_self (And.intro @U6 (And.intro @true_and (And.intro @Vh (And.intro @Vg (And.intro @Uv (And.intro @Vf (And.intro @Vl (And.intro @Vu @false_or))))))))))))))))))
theorem KP{m:Nat}(p:SProg)(hp:fL p):aj aG (m+5) 139 [aA p]=some (.int .i64 (mf p),[]):=by
 refine am (F:=kZ) rfl rfl rfl ?_ (.inr rfl);have e1:=LM (m:=m+3) (fn:=151) p (fZ p) p.handlers hp.hs (λx hx=>Hb (m:=m) p x (hp.code x hx)) (λx=>rfl);have e2:=Lg (m:=m+3) (fn:=153) p (mw p) p.actors hp.as (λx hx=>Kf (m:=m+2) p x) (λx=>rfl);have e3:=Lx (m:=m+3) (fn:=155) p (gW p) p.boot hp.ns (λx hx=>Ir (m:=m+2) p x) (λx=>rfl);generalize aj aG (m+4)=C at*;generalize aY aG=V;have hm:∀f,NM f (.tup [])=some (.fn f []):=λ_=>rfl;simp only[aA,ao]at e1 e2 e3;simp only[aA,ao,mf,kZ];refine nx (by simp only[wc,↓reduceIte,Nat.reduceAdd,Tz];rfl) ?_;have g:∀a b:Nat,((a:Int)<(b:Int))=(a<b):=λa b=>by simp
 by_cases h1:16<p.handlers.length
 ·have h1':(16:Int)<(p.handlers.length:Int):=by omega
  refine ah ?_;simp only[wc,↓reduceIte,bK,h1,h1']
 have h1':¬(16:Int)<(p.handlers.length:Int):=by omega
 by_cases h2:8<p.actors.length
 ·have h2':(8:Int)<(p.actors.length:Int):=by omega
  refine ah ?_;simp only[wc,↓reduceIte,Nat.reduceEqDiff,bK,bP,h1,h1',h2,h2']
 have h2':¬(8:Int)<(p.actors.length:Int):=by omega
 by_cases h3:16<p.boot.length
 ·have h3':(16:Int)<(p.boot.length:Int):=by omega
  refine ah ?_;simp only[wc,↓reduceIte,Nat.reduceEqDiff,bK,bP,d9,h1,h1',h2,h2',h3,h3']
 have h3':¬(16:Int)<(p.boot.length:Int):=by omega
 by_cases h4:p.actors.length=0
 ·have h4':(p.actors.length:Int)=0:=by omega
  rw[TF (by omega),TB (by omega)];refine ah ?_;simp only[wc,↓reduceIte,Nat.reduceEqDiff,Int.reduceLT,bK,bP,d9,h1',h3',h4']
 have h4':¬(p.actors.length:Int)=0:=by omega
 by_cases h5:p.fuel<1
 ·refine ah ?_;simp only[wc,↓reduceIte,Nat.reduceEqDiff,bK,bP,d9,h1,h1',h2,h2',h3,h3',h4,h4',h5]
 by_cases h6:256<p.fuel
 ·refine ah ?_;simp only[wc,↓reduceIte,Nat.reduceEqDiff,bK,bP,d9,h1,h1',h2,h2',h3,h3',h4,h4',h5,h6]
 refine nx (by simp only[wc,↓reduceIte,Nat.reduceEqDiff,bK,bP,d9,h1',h2',h3',h4',h5,h6];rfl) ?_;simp only[h1,h2,h3,h4,h5,h6,Uv,TU];by_cases h7:bS (fZ p) p.handlers=0
 ·refine nx (by simp only[wc,↓reduceIte,Nat.reduceEqDiff,hm,e1,h7];rfl) ?_;by_cases h8:bS (mw p) p.actors=0
  ·refine nx (by simp only[wc,↓reduceIte,Nat.reduceEqDiff,hm,e2,h8];rfl) ?_;simp only[wc,↓reduceIte,Nat.reduceEqDiff,hm,e3,h7,h8]
  ·refine ah ?_;simp only[wc,↓reduceIte,Nat.reduceEqDiff,hm,e2,h7,h8]
 ·refine ah ?_;simp only[wc,↓reduceIte,Nat.reduceEqDiff,hm,e1,h7]
theorem Ki{C:b6}{V:Nat->List PV->List PV->Bool}{c:X}{BODY:VC}{vi b:Nat}{α:Type}{l:List α}(f:α->Int)(hn:l.length<1099511627775)(St:Env->Prop)
  (hset:∀env v,St env->St (env.set vi v))
  (hc:∀(k:Nat) env,k<=l.length->St env->env vi=.int .i64 (k:Nat)->c.ev env=some (.bool (decide (k<l.length))))
  (hbody:∀(k:Nat)(x:α) env,l[k]?=some x->x∈l->St env->env vi=.int .i64 (k:Nat)->∃r,aL C V BODY env=some r/\(f x≠0->r=.ret (.int .i64 (f x)) [])/\(f x=0->∃env',r=.norm env'/\St env'/\env' vi=.int .i64 (k:Nat)))
  {env:Env}(h0:St env)(hv:env vi=.int .i64 0):
  (bS f l≠0/\aL C V (.block b (.loop (.seq (IE c b) (.seq BODY (uF vi))))) env=some (.ret (.int .i64 (bS f l)) []))∨(bS f l=0/\∃e,aL C V (.block b (.loop (.seq (IE c b) (.seq BODY (uF vi))))) env=some (.norm e)/\St e):=by
 obtain⟨r,h1,h2⟩:=zA (C:=C) (V:=V) (b:=b) (n:=l.length) hn (λk=>(l[k]?).elim false λx=> !decide (f x=0)) (λk=>(l[k]?).elim .junk λx=>.int .i64 (f x)) (λ_ e=>St e) (λk e v h=>hset e v h) (λk e h1 h2 h3=>hc k e h1 h2 h3) (λk e hk2 hs hv2=>by
  obtain⟨x,hx,hm⟩:=aN hk2;obtain⟨r,h1,h2,h3⟩:=hbody k x e hx hm hs hv2;refine⟨r,h1,?_⟩;by_cases hf:f x=0
  ·simp only[hx,Option.elim,hf,Uz,Uy,T4,TU];obtain⟨e',a,b,c⟩:=h3 hf;exact⟨e',a,b,c⟩
  ·simp only[hx,Option.elim,hf,Vb,UQ,TY];exact h2 hf) h0 hv
 rcases h2 with⟨k,a1,a2,a3,rfl⟩|⟨a1,e,rfl,a2⟩
 ·left;obtain⟨x,hx,hm⟩:=aN a1;simp only[hx,Option.elim,TZ,TX]at a2;have:=ux hx a2 λj hj' y hy=>by
   have:=a3 j hj';simpa[hy]using this
  simp only[hx,Option.elim]at h1;exact⟨by rw[this];exact a2,by rw[this];exact h1⟩
 ·right;exact⟨ui λk hk2 x hx=>by have:=a1 k hk2;simpa[hx]using this,e,h1,a2⟩
theorem GR(p:SProg):mf p=if 16<p.handlers.length∨8<p.actors.length∨16<p.boot.length then 3 else if p.actors.length=0∨p.fuel<1∨256<p.fuel then 1
 else if bS (fZ p) p.handlers≠0 then bS (fZ p) p.handlers else if bS (mw p) p.actors≠0 then bS (mw p) p.actors else bS (gW p) p.boot:=rfl
theorem HZ{m:Nat}(p:SProg)(hp:fL p):aj aG (m+3) 250 [aA p]=some (.int .i64 (mf p),[]):=by
 refine am (F:=gS) rfl rfl rfl ?_ (.inr rfl);have hi:=λn hs args i=>Jg (m:=m) n hs args i;have hn:=λn=>Fj (m:=m+1) p n;generalize aj aG (m+2)=C at*;generalize aY aG=V;simp only[aA,ao,eA,eK]at hi hn;simp only[aA,ao,gS];refine nx (by simp only[wc,↓reduceIte,Nat.reduceAdd,Tz];rfl) ?_;have g1:((16:Int)<(p.handlers.length:Int))=(16<p.handlers.length):=by simp;omega
 have g2:((8:Int)<(p.actors.length:Int))=(8<p.actors.length):=by simp;omega
 have g3:((16:Int)<(p.boot.length:Int))=(16<p.boot.length):=by simp;omega
 have g4:((p.actors.length:Int)=0)=(p.actors.length=0):=by simp
 rw[GR];by_cases h1:16<p.handlers.length
 ·rw[TB (.inl h1)];refine ah ?_;simp only[wc,↓reduceIte,reduceCtorEq,bK,g1,h1]
 by_cases h2:8<p.actors.length
 ·rw[TB (.inr (.inl h2))];refine ah ?_;simp only[wc,↓reduceIte,reduceCtorEq,bK,bP,g1,g2,h1,h2]
 by_cases h3:16<p.boot.length
 ·rw[TB (.inr (.inr h3))];refine ah ?_;simp only[wc,↓reduceIte,bK,bP,d9,g1,g2,g3,h1,h2,h3]
 rw[TF (by omega)];by_cases h4:p.actors.length=0
 ·rw[TB (.inl h4)];have g4':(p.actors.length:Int)=0:=by omega
  have g2':¬(8:Int)<0:=by omega
  refine ah ?_;simp only[wc,↓reduceIte,reduceCtorEq,bK,bP,d9,g1,g2',g3,g4',h1,h3]
 by_cases h5:p.fuel<1
 ·rw[TB (.inr (.inl h5))];refine ah ?_;simp only[wc,↓reduceIte,reduceCtorEq,bK,bP,d9,g1,g2,g3,g4,h1,h2,h3,h4,h5]
 by_cases h6:256<p.fuel
 ·rw[TB (.inr (.inr h6))];refine ah ?_;simp only[wc,↓reduceIte,bK,bP,d9,g1,g2,g3,g4,h1,h2,h3,h4,h5,h6]
 rw[TF (by omega)];refine nx (by simp only[wc,↓reduceIte,bK,bP,d9,g1,g2,g3,g4,h1,h2,h3,h4,h5,h6];rfl) ?_;rw[mM];refine nx (by simp only[wc,↓reduceIte];rfl) ?_;rw[kP];refine wH (l:=p.handlers) (fZ p) (by have:=hp.hs;omega) (λe=>e 1=.lptr [iw p.handlers,i4 p.actors,dS p.boot,.int .i64 p.fuel]) (λe v h=>by simpa using h) (λk e hk hs hv=>by simp only[wc,↓reduceIte,hs,hv,bK,Ux])
  (λk h e hx hm s1 hv=>?_) (λhz=>by rw[TB hz]) (λhz e he=>?_) (by simp) (by simp)
 ·have ih:=iK hx;have lc:bO (cw h.code)=some (.int .i64 h.code.length):=fG;have hcl:=hp.code h hm;have g5:((64:Int)<(h.code.length:Int))=(64<h.code.length):=by simp;omega
  rw[fZ];by_cases q1:h.args<0
  ·rw[TB (.inl q1)];exact⟨_,by simp only[wc,↓reduceIte,reduceCtorEq,Nat.reduceAdd,Tz,s1,hv,ih,q1],λ_=>rfl,λh=>by cases h⟩
  by_cases q2:4<h.args
  ·rw[TB (.inr q2)];exact⟨_,by simp only[wc,↓reduceIte,Nat.reduceAdd,Tz,s1,hv,ih,q1,q2],λ_=>rfl,λh=>by cases h⟩
  rw[TF (by omega)];by_cases q3:64<h.code.length
  ·rw[TB q3];exact⟨_,by simp only[wc,↓reduceIte,Nat.reduceAdd,Tz,s1,hv,ih,q1,q2,lc,g5,q3],λ_=>rfl,λh=>by cases h⟩
  rw[TF q3];have key:=Ki (C:=C) (V:=V) (b:=3) (vi:=5) (c:=.bin .lss (.v 5) (.len (.ld none (.v 4) 1))) (l:=h.code) (dL p.handlers.length h.code.length h.args) (by omega)
   (λe=>e 1=.lptr [iw p.handlers,i4 p.actors,dS p.boot,.int .i64 p.fuel]/\e 3=.int .i64 (k:Nat)/\e 4=.lptr [.int .i64 h.args,cw h.code]) (λe v h=>by simpa using h) (λk e hk hs hv=>by simp only[wc,↓reduceIte,hs.2.2,hv,lc,Ux])
   (λk' x e' hx' hm' ⟨t1,t2,t3⟩ hv'=>by
    have ix:=od hx';have hi:=hi h.code.length p.handlers.length h.args x;refine(?_:∃r,aL C V (.block 4 (.seq (.st [.call [.ld (some 2) (.ia 2 (.ld none (.v 4) 1) (.v 5)) 0,.len (.ld none (.v 4) 1),.len (.ld none (.v 1) 0)] none 87 259 [.ld (some 2) (.ia 2 (.ld none (.v 4) 1) (.v 5)) 0,.len (.ld none (.v 4) 1),.ld none (.v 4) 0,.len (.ld none (.v 1) 0)] [],.asg [] [(6,.v 87)],.asg [.bin .neq (.v 6) (N 0)] []]) (.cond (.bin .neq (.v 6) (N 0)) (.seq (.st [.asg [] [(2,.v 6)]]) (.ret (.v 2) [])) .skip))) e'=some r/\_);by_cases hz:dL p.handlers.length h.code.length h.args x=0
    ·rw[hz]at hi;refine⟨_,by simp only[wc,↓reduceIte,Nat.reduceAdd,Tz,t1,t3,hv',ix,lc,bK,hi];rfl,λh=>absurd hz h,λ_=>⟨_,rfl,?_⟩⟩;simp[t1,t2,t3,hv']
    ·exact⟨_,by simp only[wc,↓reduceIte,Nat.reduceAdd,Tz,t1,t3,hv',ix,lc,bK,hi,hz],λ_=>rfl,λh=>absurd h hz⟩)
   (env:=(e.set 4 (.lptr [.int .i64 h.args,cw h.code])).set 5 (.int .i64 0)) ⟨by simp[s1],by simp[hv],by simp⟩ (by simp)
  rcases key with⟨k1,k2⟩|⟨k1,e',k2,k3⟩
  ·refine⟨_,bt (nx (by simp only[wc,↓reduceIte,Nat.reduceAdd,Tz,s1,hv,ih];rfl) (nx (by simp only[wc,↓reduceIte,q1,q2];rfl) (nx (by simp only[wc,↓reduceIte,lc,g5,q3];rfl) (nx (by simp only[wc,↓reduceIte]) k2)))),λ_=>rfl,λh=>absurd h k1⟩
  ·refine⟨_,jg (nx (by simp only[wc,↓reduceIte,Nat.reduceAdd,Tz,s1,hv,ih];rfl) (nx (by simp only[wc,↓reduceIte,q1,q2];rfl) (nx (by simp only[wc,↓reduceIte,lc,g5,q3];rfl) (nx (by simp only[wc,↓reduceIte]) k2)))),λh=>absurd k1 h,λ_=>⟨e',rfl,k3.1,k3.2.1⟩⟩
 rw[TF (λh=>h hz)];rw[mM];refine nx (by simp only[wc,↓reduceIte];rfl) ?_;rw[kK];refine wH (l:=p.actors) (mw p) (by have:=hp.as;omega) (λe=>e 1=.lptr [iw p.handlers,i4 p.actors,dS p.boot,.int .i64 p.fuel]) (λe v h=>by simpa using h) (λk e hk hs hv=>by simp only[wc,↓reduceIte,hs,hv,bP,Ux])
  (λk a e hx hm s1 hv=>?_) (λhz=>by rw[TB hz]) (λhz e he=>?_) (by simpa using he) (by simp)
 ·have ih:=gY hx;have lr:bO (eI a.regs)=some (.int .i64 a.regs.length):=cE;have g5:((8:Int)<(a.regs.length:Int))=(8<a.regs.length):=by simp;omega
  rw[mw];by_cases q1:8<a.regs.length
  ·rw[TB q1];exact⟨_,by simp only[wc,↓reduceIte,Nat.reduceAdd,Int.reduceNeg,Tz,s1,hv,ih,lr,g5,q1],λ_=>rfl,λh=>by cases h⟩
  rw[TF q1];by_cases q2:a.cap<0
  ·rw[TB (.inl q2)];exact⟨_,by simp only[wc,↓reduceIte,reduceCtorEq,Nat.reduceAdd,Int.reduceNeg,Tz,s1,hv,ih,lr,g5,q1,q2],λ_=>rfl,λh=>by cases h⟩
  by_cases q3:16<a.cap
  ·rw[TB (.inr q3)];exact⟨_,by simp only[wc,↓reduceIte,Nat.reduceAdd,Int.reduceNeg,Tz,s1,hv,ih,lr,g5,q1,q2,q3],λ_=>rfl,λh=>by cases h⟩
  rw[TF (by omega)];by_cases q4:a.timer= -1
  ·rw[TF (by omega)];cases q5:a.armed
   ·rw[TF (by simp)];refine⟨_,by simp only[wc,↓reduceIte,Nat.reduceEqDiff,Nat.reduceAdd,Int.reduceLT,Int.reduceNeg,Tz,s1,hv,ih,lr,g5,q1,q2,q3,q4,q5];rfl,λh=>absurd rfl h,λ_=>⟨_,rfl,?_⟩⟩;simp[s1,hv]
   ·rw[TB ⟨rfl,q4⟩];exact⟨_,by simp only[wc,↓reduceIte,Nat.reduceEqDiff,Nat.reduceAdd,Int.reduceLT,Int.reduceNeg,Tz,s1,hv,ih,lr,g5,q1,q2,q3,q4,q5],λ_=>rfl,λh=>by cases h⟩
  by_cases q6:a.timer<0
  ·rw[TB ⟨q4,.inl q6⟩];exact⟨_,by simp only[wc,↓reduceIte,Nat.reduceEqDiff,reduceCtorEq,Nat.reduceAdd,Int.reduceNeg,Tz,s1,hv,ih,lr,bK,g5,q1,q2,q3,q4,q6],λ_=>rfl,λh=>by cases h⟩
  by_cases q7:(p.handlers.length:Int)<=a.timer
  ·rw[TB ⟨q4,.inr (.inl q7)⟩];exact⟨_,by simp only[wc,↓reduceIte,Nat.reduceEqDiff,reduceCtorEq,Nat.reduceAdd,Int.reduceNeg,Tz,s1,hv,ih,lr,bK,g5,q1,q2,q3,q4,q6,q7],λ_=>rfl,λh=>by cases h⟩
  obtain⟨j,h,hj,hh,ha⟩:=iC (p:=p) (k:=a.timer) (by omega) (by omega);have ihh:=iK hh;rw[ha];by_cases q8:h.args=0
  ·rw[TF (by omega),TF (by omega)];rw[hj]at q4 q6 q7;cases q5:a.armed
   ·refine⟨_,by simp only[wc,↓reduceIte,Nat.reduceEqDiff,Nat.reduceAdd,Int.reduceNeg,Tz,s1,hv,ih,hj,ihh,lr,bK,g5,q1,q2,q3,q4,q5,q6,q7,q8];rfl,λh=>absurd rfl h,λ_=>⟨_,rfl,?_⟩⟩;simp[s1,hv]
   ·refine⟨_,by simp only[wc,↓reduceIte,Nat.reduceEqDiff,Nat.reduceAdd,Int.reduceNeg,Tz,s1,hv,ih,hj,ihh,lr,bK,g5,q1,q2,q3,q4,q5,q6,q7,q8];rfl,λh=>absurd rfl h,λ_=>⟨_,rfl,?_⟩⟩;simp[s1,hv]
  ·rw[TB ⟨q4,.inr (.inr q8)⟩];rw[hj]at q4 q6 q7;exact⟨_,by simp only[wc,↓reduceIte,Nat.reduceEqDiff,Nat.reduceAdd,Int.reduceNeg,Tz,s1,hv,ih,hj,ihh,lr,bK,g5,q1,q2,q3,q4,q6,q7,q8],λ_=>rfl,λh=>by cases h⟩
 rw[TF (λh=>h hz)];rw[mM];refine nx (by simp only[wc,↓reduceIte];rfl) ?_;rw[kQ];refine wH (l:=p.boot) (gW p) (by have:=hp.ns;omega) (λe=>e 1=.lptr [iw p.handlers,i4 p.actors,dS p.boot,.int .i64 p.fuel]) (λe v h=>by simpa using h) (λk e hk hs hv=>by simp only[wc,↓reduceIte,hs,hv,d9,Ux])
  (λk x e hx hm s1 hv=>?_) (λhz=>rfl) (λhz e he=>?_) (by simpa using he) (by simp)
 ·have ih:=yc hx;have hn:=hn x;by_cases hz:gW p x=0
  ·rw[hz]at hn;refine⟨_,by simp only[wc,↓reduceIte,Nat.reduceAdd,Tz,s1,hv,ih,hn];rfl,λh=>absurd hz h,λ_=>⟨_,rfl,?_⟩⟩;simp[s1,hv]
  ·exact⟨_,by simp only[wc,↓reduceIte,Nat.reduceAdd,Tz,s1,hv,ih,hn,hz],λ_=>rfl,λh=>absurd h hz⟩
 ·rw[hz];simp only[wc,↓reduceIte]
theorem jo{x y:Int}(h1: -9223372036854775808<=x+y)(h2:x+y<=9223372036854775807):aI .add .i64 x .i64 y=some (.int .i64 (x+y)):=by
 simp only[aI];rw[TF (by decide),uB h1 h2]
theorem vr{x y:Int}(h1: -9223372036854775808<=x-y)(h2:x-y<=9223372036854775807):aI .sub .i64 x .i64 y=some (.int .i64 (x-y)):=by
 simp only[aI];rw[TF (by decide),uB h1 h2]
structure DL (p:SProg):Prop where
 hs:p.handlers.length<=16
 as:p.actors.length<=8
 as0:0<p.actors.length
 ns:p.boot.length<=16
 fuel:1<=p.fuel/\p.fuel<=256
 args:∀h∈p.handlers,0<=h.args/\h.args<=4
 code:∀h∈p.handlers,h.code.length<=64
 instr:∀h∈p.handlers,∀i∈h.code,dL p.handlers.length h.code.length h.args i=0
 regs:∀a∈p.actors,a.regs.length<=8
 cap:∀a∈p.actors,0<=a.cap/\a.cap<=16
 timer:∀a∈p.actors,a.timer≠ -1->0<=a.timer/\a.timer<p.handlers.length/\cz p a.timer=0
 armed:∀a∈p.actors,a.armed=true->a.timer≠ -1
 boot:∀n∈p.boot,gW p n=0
theorem Sr{p:SProg}(h:mf p=0):DL p:=by
 unfold mf at h;split at h
 ·omega
 ·rename_i h1;split at h
  ·omega
  ·rename_i h2;split at h
   ·rename_i h3;exact absurd h h3
   ·rename_i h3;split at h
    ·rename_i h4;exact absurd h h4
    ·rename_i h4;have h3:=jL.1 (Decidable.of_not_not h3);have h4:=jL.1 (Decidable.of_not_not h4);have h5:=jL.1 h;have hh:∀x∈p.handlers,0<=x.args/\x.args<=4/\x.code.length<=64/\bS (dL p.handlers.length x.code.length x.args) x.code=0:=λx hx=>by
      have:=h3 x hx;unfold fZ at this;split at this
      ·omega
      ·split at this
       ·omega
       ·exact⟨by omega,by omega,by omega,this⟩
     have ha:∀a∈p.actors,a.regs.length<=8/\(0<=a.cap/\a.cap<=16)/\(a.timer≠ -1->0<=a.timer/\a.timer<p.handlers.length/\cz p a.timer=0)/\(a.armed=true->a.timer≠ -1):=λa ha=>by
      have:=h4 a ha;unfold mw at this;split at this
      ·omega
      ·split at this
       ·omega
       ·split at this
        ·omega
        ·rename_i q1;split at this
         ·omega
         ·rename_i q2;exact⟨by omega,by omega,λht=>by omega,λhb ht=>q2 ⟨hb,ht⟩⟩
     exact⟨by omega,by omega,by omega,by omega,by omega,λx hx=>⟨(hh x hx).1,(hh x hx).2.1⟩,λx hx=>(hh x hx).2.2.1,λx hx=>jL.1 (hh x hx).2.2.2,λa h=>(ha a h).1,λa h=>(ha a h).2.1,λa h=>(ha a h).2.2.1,λa h=>(ha a h).2.2.2,h5⟩
theorem gm{hs n:Nat}{args:Int}{i:SInstr}(h:dL hs n args i=0):eg i.op=true:=by
 cases hv:eg i.op with
 |true=>rfl
 |false=>simp[dL,hv]at h
theorem oA{hs n:Nat}{args:Int}{i:SInstr}(h:dL hs n args i=0)(h2:i.op=22):0<=i.a/\i.a<hs:=by
 unfold dL bX at h;simp[h2,eg]at h;omega
theorem CI{p:SProg}(hp:DL p)(i:SInstr):0<=aD p i/\aD p i<=6:=by
 have:=wt i.op;unfold aD;split
 ·have:0<=cz p i.a/\cz p i.a<=4:=by
   unfold cz;split
   ·rename_i h hh;exact hp.args h (TC hh)
   ·omega
  omega
 ·omega
theorem Lv{m:Nat}(p:SProg)(hp:DL p)(i:SInstr)(hv:eg i.op=true)(hs:i.op=22->0<=i.a/\i.a<p.handlers.length):aj aG (m+2) 157 [aA p,eA i]=some (.int .i64 (aD p i),[]):=by
 refine am (F:=lC) rfl rfl rfl ?_ (.inr rfl);have ho:=Nv (m:=m) i.op hv;generalize aj aG (m+1)=C at*;generalize aY aG=V;simp only[aA,ao,eA,aD,lC];by_cases h:i.op=22
 ·obtain⟨a0,a1⟩:=hs h;obtain⟨j,x,hj,hx,ha⟩:=iC a0 a1;have ih:=iK hx;have hh:=hp.args x (TC hx);have hq:=wt i.op;have ad:=jo (x:=bm i.op) (y:=x.args) (by omega) (by omega);rw[TB h,ha];rw[h]at ho ad;simp only[wc,↓reduceIte,Nat.reduceEqDiff,Nat.reduceAdd,Tz,ho,h,hj,ih,ad]
 ·rw[TF h];simp only[wc,↓reduceIte,Nat.reduceEqDiff,Nat.reduceAdd,Tz,ho,h,Int.add_zero]
theorem Mx{m k:Nat}(i:SInstr)(hk:k<1000000)(ha:i.op=20∨i.op=21->0<=i.a):aj aG (m+1) 159 [.int .i64 (k:Nat),eA i]=some (eI ((bj k i).map Int.ofNat),[]):=by
 refine am (F:=mO) rfl rfl rfl ?_ (.inl rfl);generalize aj aG m=C at*;generalize aY aG=V;simp only[eA,bj,mO];have ad:=bT (k:=k) (by omega);by_cases h:i.op=20
 ·have:Int.ofNat i.a.toNat=i.a:=by have:=ha (.inl h);simp;omega
  simp only[wc,↓reduceIte,Nat.reduceEqDiff,Nat.reduceAdd,Tz,h,TW,UW,this];rfl
 ·by_cases h1:i.op=21
  ·have:Int.ofNat i.a.toNat=i.a:=by have:=ha (.inr h1);simp;omega
   simp only[wc,↓reduceIte,Nat.reduceEqDiff,reduceCtorEq,Nat.reduceAdd,Int.reduceEq,Tz,h1,ad,TW,UW,this];rfl
  ·by_cases h2:i.op=25
   ·simp only[wc,↓reduceIte,Nat.reduceAdd,Int.reduceEq,Tz,h2,UW];rfl
   ·simp only[wc,↓reduceIte,reduceCtorEq,Nat.reduceAdd,Tz,h,h1,h2,ad,TW,UW];rfl
theorem On{m n:Nat}(hn:n<=64):aj aG (m+1) 156 [eI [-1],.int .i64 ((n+1:Nat):Int)]=some (eI (List.replicate (n+1) (-1)),[]):=by
 refine Aa (F:=vN) rfl rfl rfl ?_ rfl (.inr ?_)
 ·generalize aj aG m=C;generalize aY aG=V;have i0:=eP (k:=0) (l:=[-1]) (x:= -1) rfl;have l1:bO (eI [-1])=some (.int .i64 1):=rfl;have h1:((n+1:Nat):Int)<=65:=by omega
  have h2:(1:Int)<=((n+1:Nat):Int):=by omega
  rw[show eI (List.replicate (n+1) (-1))=.lst (List.replicate (n+1) (.int .i64 (-1))) false by simp[eI]];have hr:=De (C:=C) (V:=V) (env:=Env.ofArgs [eI [-1],.int .i64 ((n+1:Nat):Int)]) (e:=.int .i64 (-1)) (c:=false) (n:=n+1) rfl rfl rfl (by omega);simp only[aP]at hr;simp only[wc,Int.reduceNeg,vN,l1,h1,h2];exact hr
 ·simp[eI,tW]
theorem A5(l:List Int):aP (.lst (l.map λn=>PV.int .i64 n) false)=eI l:=by rw[<-Jm l];rfl
theorem AK(l:List Int):mo (l.map λn=>PV.int .i64 n) 1=true:=by cases l<;>rfl
theorem Ad{l:List Int}{k:Nat}(h:k<=l.length):cj 1 (eI l) (.int .i64 (k:Nat)) (.tup []) (.tup [])=some (eI (l.drop k)):=by
 rw[<-A5 (l.drop k)];simp[eI,cj,kk,cF,aO,mL,AK,h,List.map_drop];rw[UB (by simp)]
theorem qI{l:List Int}{k:Nat}(h:k<=l.length):cj 1 (eI l) (.tup []) (.int .i64 (k:Nat)) (.tup [])=some (eI (l.take k)):=by
 rw[<-A5 (l.take k)];simp[eI,cj,kk,cF,aO,mL,AK,h,List.map_take]
theorem M9{a:Int}{l:List Int}:cj 1 (eI (a::l)) (.int .i64 1) (.tup []) (.tup [])=some (eI l):=Ad (l:=a::l) (k:=1) (by simp)
theorem Tb(b:Bool)(x y z:Int):∃r:Int,Eu b [.int .i64 x,.int .i64 y,.int .i64 z]=some (.int .i64 r):=by
 simp only[Eu,nZ,A9];exact⟨_,rfl⟩
theorem Ev{l:List Int}{k:Nat}{x:Int}(h:k<l.length):oB none (eI l) (.int .i64 (k:Nat)) 0 (.int .i64 x)=some (eI (l.set k x)):=by
 have hg:(l.map λn=>PV.int .i64 n)[k]?=some (.int .i64 l[k]):=by simp[TD h]
 simp only[oB,eI];rw[TB (by simp;omega)];simp only[TV,hg];rw[TB ⟨rfl,rfl,TN _⟩];simp[List.map_set,PV.withCells,PV.cells]
theorem Ky{a b:List Int}(h:a.length+b.length<2147483648):iO 1 (eI a) (eI b)=some (eI (a++b)):=by
 simp only[eI,iO];rw[TB ⟨wU b,by simp only[Uk];exact h⟩,U1]
def LeftI(code:List SInstr)(out:List Int)(left:List Nat):Prop:=∀k∈left,k<=code.length/\∃d,out[k]?=some d/\d≠ -1
theorem LeftI.set{code:List SInstr}{out:List Int}{left:List Nat}{k:Nat}{v:Int}(h:LeftI code out left)(hk:out[k]?=some (-1))(hv:v≠ -1)(hc:k<=code.length):LeftI code (out.set k v) (left++[k]):=λj hj=>by
 have hl:=(List.getElem?_eq_some_iff.1 hk).1;rcases List.mem_append.1 hj with hj|hj
 ·obtain⟨a,d,b,c⟩:=h j hj;refine⟨a,d,?_,c⟩;rw[UC (λe=>by subst e;rw[hk]at b;cases b;exact c rfl)];exact b
 ·rw[T1]at hj;subst hj;exact⟨hc,v,Ul hl,hv⟩
def qw:PV:=.tup [.lst [] false,.int .i64 0,.bool false]
def A0(p:SProg)(h:SHandler)(at':Nat)(i:SInstr)(d:Int)(M m:Nat)(e:Env):Prop:=
 ∃(t:Nat)(out:List Int)(left:List Nat)(most:Int),t+m=(bj at' i).length/\WalkI p h.code out (λk=>k∈left∨k=at')/\LeftI h.code out left/\2*jy out+left.length<=M/\
  out[at']?=some d/\(∀(s j:Nat),s<t->(bj at' i)[s]?=some j->out[j]?=some (bz p i d))/\
  e 2=.lptr [iw p.handlers,i4 p.actors,dS p.boot,.int .i64 p.fuel]/\e 3=.lptr [.int .i64 h.args,cw h.code]/\e 4=eI out/\e 5=.int .i64 most/\e 7=eI (left.map Int.ofNat)/\e 10=.int .i64 (bz p i d)/\
  e 72=eI ((bj at' i).map Int.ofNat)/\e 73=.int .i64 ((bj at' i).length:Nat)/\e 74=.int .i64 (t:Nat)
theorem tI(k:Nat)(i:SInstr):(bj k i).length<=2:=by
 unfold bj;split
 ·simp
 ·split
  ·simp
  ·split<;>simp
theorem GP{C:b6}{V:Nat->List PV->List PV->Bool}{p:SProg}{h:SHandler}{at':Nat}{i:SInstr}{d:Int}{M m:Nat}(hi:h.code[at']?=some i)(hd1:d≠ -1)(h1:aD p i<=d)(h2:bz p i d<=8)(hin:∀j∈bj at' i,j<=h.code.length)(hM:M<1000000)
  (hm:m<1000){env:Env}(h0:A0 p h at' i d M m env):
  (∃e,aL C V (.block 2 (.loop eH)) env=some (.norm e)/\A0 p h at' i d M 0 e)∨∃v,aL C V (.block 2 (.loop eH)) env=some (.ret v [])/\v=qw/\¬dK p h.code:=by
 rw[eH,Kt];refine jD (C:=C) (V:=V) (by omega) (λm e=>A0 p h at' i d M m e) (λe=>A0 p h at' i d M 0 e) (λv=>v=qw/\¬dK p h.code) (λm e hs=>?_) h0;obtain⟨t,out,left,most,ht,hW,hL,hF,hd,hdone,e2,e3,e4,e5,e7,e10,e72,e73,e74⟩:=hs;have hn0:bz p i d≠ -1:=by have:=mW i.op;unfold bz;omega
 by_cases htm:m=0
 ·subst htm;refine .inl ⟨e,?_,t,out,left,most,ht,hW,hL,hF,hd,hdone,e2,e3,e4,e5,e7,e10,e72,e73,e74⟩;rw[pz (n:=(bj at' i).length) (k:=t) (by simp only[wc,e73,e74,Ux]),TF (by omega)]
 refine .inr ⟨e,?_,?_⟩
 ·rw[pz (n:=(bj at' i).length) (k:=t) (by simp only[wc,e73,e74,Ux]),TB (by omega)]
 obtain⟨j,hj,hjm⟩:=aN (l:=bj at' i) (k:=t) (by omega);have hjn:=hin j hjm;have ij:=eP (k:=t) (l:=(bj at' i).map Int.ofNat) (x:=(j:Int)) (by rw[TR,hj];rfl);obtain⟨v,hv,_⟩:=aN (l:=out) (k:=j) (by rw[hW.len];omega);have iv:=eP hv;have hjl:=(List.getElem?_eq_some_iff.1 hv).1;have hnl:=tI at' i;have ad:=bT (k:=t) (by omega);by_cases hv1:v= -1
 ·subst hv1;have up:=Ev (l:=out) (k:=j) (x:=bz p i d) hjl;have hg:(out.set j (bz p i d))[j]?=some (bz p i d):=Ul hjl;have iv2:=eP hg;have ap:=Ky (a:=left.map Int.ofNat) (b:=[(j:Int)]) (by simp;omega);have hfr:=zl hv hn0;left;refine⟨_,m-1,by simp only[wc,↓reduceIte,Nat.reduceEqDiff,Int.reduceNeg,e4,e7,e10,e72,e74,ij,iv,up,ap,iv2,ad,Kv];rfl,by omega,t+1,out.set j (bz p i d),left++[j],most,by omega,(Cs hW hi hd hd1 h1 h2 hjm hv).mono (λk hk=>?_),hL.set hv hn0 hjn,?_,?_,λs j' hs hj'=>?_,?_⟩
  ·rcases hk with(hk|hk)|hk
   ·exact .inl (TI _ hk)
   ·exact .inr hk
   ·subst hk;exact .inl (TE _ (by simp))
  ·simp only[Ud,TJ,Um];omega
  ·rw[UC (λe=>by subst e;rw[hv]at hd;cases hd;exact hd1 rfl)];exact hd
  ·by_cases hs2:s=t
   ·subst hs2;rw[hj]at hj';cases hj';exact hg
   ·have:=hdone s j' (by omega) hj';by_cases e:j=j'
    ·subst e;exact hg
    ·rw[UC e];exact this
  ·refine⟨by simp[e2],by simp[e3],by simp,by simp[e5],by simp,by simp[e10],by simp[e72],by simp[e73],by simp⟩
 ·by_cases hv2:v=bz p i d
  ·left;refine⟨_,m-1,by simp only[wc,↓reduceIte,Nat.reduceEqDiff,Int.reduceNeg,e4,e10,e72,e74,ij,iv,hv2,hn0,ad];rfl,by omega,t+1,out,left,most,by omega,hW,hL,hF,hd,λs j' hs hj'=>?_,?_⟩
   ·by_cases hs2:s=t
    ·subst hs2;rw[hj]at hj';cases hj';rw[hv,hv2]
    ·exact hdone s j' (by omega) hj'
   ·refine⟨by simp[e2],by simp[e3],by simp[e4],by simp[e5],by simp[e7],by simp[e10],by simp[e72],by simp[e73],by simp⟩
  ·right;exact⟨qw,by simp only[wc,↓reduceIte,Nat.reduceEqDiff,Int.reduceNeg,e4,e10,e72,e74,ij,iv,hv1,hv2,qw],rfl,Da hW hi hd hd1 hjm hv hv1 hv2⟩
theorem ym{C:b6}{V:Nat->List PV->List PV->Bool}{a b:VC}{env e1:Env}{P:Env->Nat->Prop}{Q:PV->Prop}(h:aL C V a env=some (.norm e1))
  (k:(∃e2 m',aL C V b e1=some (.norm e2)/\P e2 m')∨∃v,aL C V b e1=some (.ret v [])/\Q v):(∃e2 m',aL C V (.seq a b) env=some (.norm e2)/\P e2 m')∨∃v,aL C V (.seq a b) env=some (.ret v [])/\Q v:=by
 rcases k with⟨e2,m',k1,k2⟩|⟨v,k1,k2⟩
 ·exact .inl ⟨e2,m',nx h k1,k2⟩
 ·exact .inr ⟨v,nx h k1,k2⟩
theorem I5{C:b6}{V:Nat->List PV->List PV->Bool}{i:Nat}{b:VC}{env:Env}{P:Env->Nat->Prop}{Q:PV->Prop}
  (k:(∃e2 m',aL C V b env=some (.norm e2)/\P e2 m')∨∃v,aL C V b env=some (.ret v [])/\Q v):(∃e2 m',aL C V (.block i b) env=some (.norm e2)/\P e2 m')∨∃v,aL C V (.block i b) env=some (.ret v [])/\Q v:=by
 rcases k with⟨e2,m',k1,k2⟩|⟨v,k1,k2⟩
 ·exact .inl ⟨e2,m',jg k1,k2⟩
 ·exact .inr ⟨v,bt k1,k2⟩
def Io(p:SProg)(h:SHandler)(m:Nat)(e:Env):Prop:=
 ∃(out:List Int)(left:List Nat)(most:Int),WalkI p h.code out (λk=>k∈left)/\LeftI h.code out left/\2*jy out+left.length=m/\
  e 2=.lptr [iw p.handlers,i4 p.actors,dS p.boot,.int .i64 p.fuel]/\e 3=.lptr [.int .i64 h.args,cw h.code]/\e 4=eI out/\e 5=.int .i64 most/\e 7=eI (left.map Int.ofNat)
theorem Mv{m:Nat}(p:SProg)(hp:DL p)(h:SHandler)(hh:h∈p.handlers):∃(out most:PV)(b:Bool),aj aG (m+3) 140 [aA p,dh h]=some (.tup [out,most,.bool b],[])/\(b=true↔dK p h.code):=by
 suffices hs:∃(out most:PV)(b:Bool),aL (aj aG (m+2)) (aY aG) kC.body (Env.ofArgs [aA p,dh h])=some (.ret (.tup [out,most,.bool b]) [])/\(b=true↔dK p h.code)by
  obtain⟨out,most,b,h1,h2⟩:=hs;exact⟨out,most,b,am (F:=kC) rfl rfl rfl h1 (.inl rfl),h2⟩
 have hcl:=hp.code h hh;have hin:=hp.instr h hh;have tk:=λi(hi:i∈h.code)=>Lv (m:=m) p hp i (gm (hin i hi)) (oA (hin i hi));have pt:=λi(hi:i∈h.code)=>NW (m:=m+1) i.op (gm (hin i hi));have nx':=λk i(hk:k<1000000) ha=>Mx (m:=m+1) (k:=k) i hk ha;have rp:=On (m:=m+1) hcl;generalize aj aG (m+2)=C at*;generalize aY aG=V;simp only[aA,ao,eA]at tk nx';have lc:bO (cw h.code)=some (.int .i64 h.code.length):=fG;have ad:=bT (k:=h.code.length) (by omega);have r0:(List.replicate (h.code.length+1) (-1:Int)).length=h.code.length+1:=by simp
 have i0:az 1 (eI (List.replicate (h.code.length+1) (-1))) (.int .i64 0)=some (.lptr [.int .i64 (-1)]):=eP (k:=0) (by rw[UK];simp);have u0:oB none (eI (List.replicate (h.code.length+1) (-1))) (.int .i64 0) 0 (.int .i64 0)=some (eI ((List.replicate (h.code.length+1) (-1)).set 0 0)):=Ev (k:=0) (by simp);have e1:PV.lst [.int .i64 (-1)] false=eI [-1]:=rfl;simp only[aA,ao,dh,kC];have key:(∃e,aL C V (.block 0 (.loop ja)) (((((((Env.ofArgs [.agg [iw p.handlers,i4 p.actors,dS p.boot,.int .i64 p.fuel],.agg [.int .i64 h.args,cw h.code]]).set 5 (.int .i64 0)).set 3 (.lptr [.int .i64 h.args,cw h.code])).set 2 (.lptr [iw p.handlers,i4 p.actors,dS p.boot,.int .i64 p.fuel])).set 18 (eI (List.replicate (h.code.length+1) (-1)))).set 4 (eI (List.replicate (h.code.length+1) (-1)))).set 4 (eI ((List.replicate (h.code.length+1) (-1)).set 0 0))|>.set 7 (eI [0]))=some (.norm e)/\∃(out:List Int)(most:Int),e 4=eI out/\e 5=.int .i64 most/\dK p h.code)∨
   ∃v,aL C V (.block 0 (.loop ja)) (((((((Env.ofArgs [.agg [iw p.handlers,i4 p.actors,dS p.boot,.int .i64 p.fuel],.agg [.int .i64 h.args,cw h.code]]).set 5 (.int .i64 0)).set 3 (.lptr [.int .i64 h.args,cw h.code])).set 2 (.lptr [iw p.handlers,i4 p.actors,dS p.boot,.int .i64 p.fuel])).set 18 (eI (List.replicate (h.code.length+1) (-1)))).set 4 (eI (List.replicate (h.code.length+1) (-1)))).set 4 (eI ((List.replicate (h.code.length+1) (-1)).set 0 0))|>.set 7 (eI [0]))=some (.ret v [])/\v=qw/\¬dK p h.code:=by
  rw[ja];have hfr:=C5 ((List.replicate (h.code.length+1) (-1)).set 0 (0:Int));rw[UX,r0]at hfr;refine jD (C:=C) (V:=V) (m:=2*jy ((List.replicate (h.code.length+1) (-1)).set 0 0)+1) (by omega) (λm e=>Io p h m e/\m<1000) (λe=>∃(out:List Int)(most:Int),e 4=eI out/\e 5=.int .i64 most/\dK p h.code) (λv=>v=qw/\¬dK p h.code) (λm e ⟨hs,hm⟩=>?_) ⟨⟨_,[0],0,(wN p h.code).mono (λk hk=>by simp[hk]),?_,by simp,by simp,by simp,by simp,by simp,by simp⟩,by omega⟩
  ·obtain⟨out,left,most,hW,hL,hF,e2,e3,e4,e5,e7⟩:=hs;have ll:bO (eI (left.map Int.ofNat))=some (.int .i64 left.length):=by rw[cE,Uk]
   cases left with
   |nil=>
    left;have g00:((0:Int)<((0:Nat):Int))=False:=by simp
    exact⟨e,by simp only[wc,↓reduceIte,e7,ll,g00],out,most,e4,e5,zF hW (λk _ h=>by simp at h)⟩
   | cons at' left=>
    right;obtain⟨hat,d,hd,hd1⟩:=hL at' (by simp);have g0:(0:Int)<((left.length+1:Nat):Int):=by omega
    have ia:az 1 (eI ((at'::left).map Int.ofNat)) (.int .i64 0)=some (.lptr [.int .i64 (at':Nat)]):=eP (k:=0) rfl;have sl:cj 1 (eI ((at'::left).map Int.ofNat)) (.int .i64 1) (.tup []) (.tup [])=some (eI (left.map Int.ofNat)):=M9;have hL':LeftI h.code out left:=λk hk=>hL k (by simp[hk]);refine⟨e,by simp only[wc,↓reduceIte,e7,ll,g0],?_⟩;by_cases hend:at'=h.code.length
    ·subst hend;left;refine⟨_,2*jy out+left.length,by simp only[wc,↓reduceIte,Nat.reduceEqDiff,e3,e7,ia,sl,lc];rfl,by simp at hF;omega,⟨out,left,most,?_,hL',rfl,by simp[e2],by simp[e3],by simp[e4],by simp[e5],by simp⟩,by simp at hF;omega⟩;refine qZ hW (k:=h.code.length) (λj hj=>?_) (λi d' hi _ _=>?_)
     ·rcases List.mem_cons.1 hj with rfl|hj
      ·exact .inr rfl
      ·exact .inl hj
     ·have:=(List.getElem?_eq_some_iff.1 hi).1;omega
    have hend':¬(at':Int)=(h.code.length:Int):=by omega
    obtain⟨i,hi,him⟩:=aN (l:=h.code) (k:=at') (by omega);have tk:=tk i him;have pt:=pt i him;have hii:=hin i him;have nx':=nx' at' i (by omega) (λho=>by
     unfold dL bX at hii;rcases ho with ho|ho<;>simp[ho,eg]at hii<;>omega)
    have ic:=od hi;have id':=eP hd;have hlow:=hW.low at' d hd;have ht:=CI hp i;have hpp:=mW i.op;have sb:=vr (x:=d) (y:=aD p i) (by omega) (by omega);have aa:=jo (x:=d-aD p i) (y:=cM i.op) (by omega) (by omega);have gt:d-aD p i+cM i.op=bz p i d:=rfl;by_cases hlt:d-aD p i<0
    ·right;refine⟨qw,?_,rfl,xH hW hi hd hd1 (λhb=>by omega)⟩;refine bt ?_;refine nx (by simp only[wc,↓reduceIte,Nat.reduceEqDiff,e7,ia,sl];rfl) ?_;refine nx (by simp only[wc,↓reduceIte,Nat.reduceEqDiff,e3,lc,hend'];rfl) ?_;refine nx (by simp only[wc,↓reduceIte,Nat.reduceEqDiff,Nat.reduceAdd,Tz,e2,e3,e4,ic,id',tk,sb];rfl) ?_;refine ah ?_;simp only[wc,↓reduceIte,Nat.reduceEqDiff,reduceCtorEq,hlt,qw]
    by_cases hbig:8<d-aD p i+cM i.op
    ·right;refine⟨qw,?_,rfl,xH hW hi hd hd1 (λhb=>by rw[<-gt]at hb;omega)⟩;refine bt ?_;refine nx (by simp only[wc,↓reduceIte,Nat.reduceEqDiff,e7,ia,sl];rfl) ?_;refine nx (by simp only[wc,↓reduceIte,Nat.reduceEqDiff,e3,lc,hend'];rfl) ?_;refine nx (by simp only[wc,↓reduceIte,Nat.reduceEqDiff,Nat.reduceAdd,Tz,e2,e3,e4,ic,id',tk,sb];rfl) ?_;refine ah ?_;simp only[wc,↓reduceIte,Nat.reduceEqDiff,Tz,hlt,pt,aa,hbig,qw]
    obtain⟨mx,hmx⟩:=Tb true most d (bz p i d);have ln:bO (eI ((bj at' i).map Int.ofNat))=some (.int .i64 ((bj at' i).length:Nat)):=by rw[cE,Uk]
    have hnl:=tI at' i;rw[gt]at aa hbig;have start:∀e1:Env,e1 2=.lptr [iw p.handlers,i4 p.actors,dS p.boot,.int .i64 p.fuel]->e1 3=.lptr [.int .i64 h.args,cw h.code]->e1 4=eI out->e1 5=.int .i64 mx->e1 7=eI (left.map Int.ofNat)->e1 10=.int .i64 (bz p i d)->e1 72=eI ((bj at' i).map Int.ofNat)->e1 73=.int .i64 ((bj at' i).length:Nat)->e1 74=.int .i64 0->
      (∃e2 m',aL C V (.block 2 (.loop eH)) e1=some (.norm e2)/\m'<m/\Io p h m' e2/\m'<1000)∨∃v,aL C V (.block 2 (.loop eH)) e1=some (.ret v [])/\v=qw/\¬dK p h.code:=λe1 a2 a3 a4 a5 a7 a10 a72 a73 a74=>by
     rcases GP (C:=C) (V:=V) (p:=p) (h:=h) (at':=at') (i:=i) (d:=d) (M:=2*jy out+left.length) (m:=(bj at' i).length) hi hd1 (by omega) (by omega) (λj hj=>AA hii (by omega) j hj) (by simp at hF;omega) (by omega)
      (env:=e1) ⟨0,out,left,mx,by omega,hW.mono (λk hk=>by rcases List.mem_cons.1 hk with rfl|hk;exact .inr rfl;exact .inl hk),hL',by omega,hd,λs j hs=>by omega,a2,a3,a4,a5,a7,a10,a72,a73,a74⟩with⟨e2',k1,t,out',left',most',k2,k3,k4,k5,k6,k7,b2,b3,b4,b5,b7,_⟩|h
     ·left;refine⟨e2',2*jy out'+left'.length,k1,by simp at hF;omega,⟨out',left',most',qZ k3 (k:=at') (λj hj=>hj) (λi' d' hi' hd' hd1'=>?_),k4,rfl,b2,b3,b4,b5,b7⟩,by simp at hF;omega⟩;rw[hi]at hi';cases hi';rw[k6]at hd';cases hd';refine⟨by omega,by omega,λj hj=>?_⟩;obtain⟨s,hs⟩:=UP hj;exact k7 s j (by have:=(List.getElem?_eq_some_iff.1 hs).1;omega) hs
     ·exact .inr h
    refine I5 (ym (by simp only[wc,↓reduceIte,Nat.reduceEqDiff,e7,ia,sl];rfl) (ym (by simp only[wc,↓reduceIte,Nat.reduceEqDiff,e3,lc,hend'];rfl) (ym (by simp only[wc,↓reduceIte,Nat.reduceEqDiff,Nat.reduceAdd,Tz,e2,e3,e4,ic,id',tk,sb];rfl) (ym (by simp only[wc,↓reduceIte,Nat.reduceEqDiff,Tz,hlt,pt,aa,hbig];rfl) (ym (by simp only[wc,↓reduceIte,Nat.reduceEqDiff,e4,e5,id',pt,aa,hmx,nx',ln];rfl) ?_)))));exact start _ (by simp[e2]) (by simp[e3]) (by simp[e4]) (by simp) (by simp) (by simp) (by simp) (by simp) (by simp)
  ·intro k hk;simp at hk;subst hk;exact⟨UN _,0,by rw[Ul (by simp)],by omega⟩
 rcases key with⟨e,k1,out,most,k2,k3,k4⟩|⟨v,k1,rfl,k2⟩
 ·refine⟨eI out,.int .i64 most,true,?_,by simp[k4]⟩;refine nx (by simp only[wc,↓reduceIte,Nat.reduceEqDiff,Nat.reduceAdd,Int.reduceNeg,Tz,lc,ad,e1,rp,i0,u0];rfl) ?_;rw[mM];refine nx (by simp only[wc,↓reduceIte,Int.reduceNeg,Kv];rfl) ?_;refine nx k1 ?_;simp only[wc,↓reduceIte,Nat.reduceEqDiff,k2,k3]
 ·refine⟨.lst [] false,.int .i64 0,false,?_,by simp[k2]⟩;refine nx (by simp only[wc,↓reduceIte,Nat.reduceEqDiff,Nat.reduceAdd,Int.reduceNeg,Tz,lc,ad,e1,rp,i0,u0];rfl) ?_;rw[mM];refine nx (by simp only[wc,↓reduceIte,Int.reduceNeg,Kv];rfl) ?_;rw[ah k1];rfl
end Gv
namespace Gv
open Go
open Classical in
noncomputable def rQ (p:SProg) (h:SHandler):Int:=if dK p h.code then 0 else 5
noncomputable def iY (p:SProg):Int:=if mf p≠0 then mf p else bS (rQ p) p.handlers
theorem N9{m:Nat}(p:SProg)(hp:fL p):aj aG (m+6) 128 [aA p]=some (.int .i64 (iY p),[]):=by
 refine am (F:=lJ) rfl rfl rfl ?_ (.inr rfl);have hc:=KP (m:=m) p hp;have hw:=λ(ok:DL p) h hh=>Mv (m:=m+2) p ok h hh;generalize aj aG (m+5)=C at*;generalize aY aG=V;simp only[aA,ao,dh]at hc hw;simp only[aA,ao,lJ,iY];refine nx (by simp only[wc,↓reduceIte,Nat.reduceAdd,Tz];rfl) ?_;by_cases h0:mf p=0
 ·refine nx (by simp only[wc,↓reduceIte,hc,h0];rfl) ?_;rw[TF (by simp[h0])];have ok:=Sr h0;rw[mM];refine nx (by simp only[wc,↓reduceIte,Nat.reduceEqDiff,bK];rfl) ?_;rw[pm];refine qd (l:=p.handlers) (rQ p) (by have:=hp.hs;omega) (λe=>e 1=.lptr [iw p.handlers,i4 p.actors,dS p.boot,.int .i64 p.fuel]/\e 15=iw p.handlers/\e 16=.int .i64 p.handlers.length) (λe v h=>by simpa using h)
   (λk e hk hs hv=>by simp only[X.ev,hv,hs.2.2,ac,bin,bA]) (λk h e hx hm ⟨s1,s2,s3⟩ hv=>?_) (λhn=>rfl) (λhz e he=>?_) ⟨by simp,by simp,by simp⟩ (by simp)
  ·have ih:=iK hx;obtain⟨out,most,b,w1,w2⟩:=hw ok h hm;cases b with
   |true=>
    have hz:rQ p h=0:=by rw[rQ,TB (w2.1 rfl)]
    refine⟨_,by simp only[wc,↓reduceIte,Nat.reduceEqDiff,Nat.reduceAdd,Int.reduceNeg,Tz,un,s1,s2,hv,ih,w1];rfl,λh=>absurd hz h,λ_=>⟨_,rfl,?_⟩⟩;simp[s1,s2,s3,hv]
   |false=>
    have hz:rQ p h=5:=by rw[rQ,TF (λh=>by have:=w2.2 h;cases this)]
    refine⟨_,by simp only[wc,↓reduceIte,Nat.reduceEqDiff,Nat.reduceAdd,Int.reduceNeg,Tz,un,s1,s2,hv,ih,w1,hz],λ_=>rfl,λh=>by rw[hz]at h;cases h⟩
  ·rw[hz];simp only[wc,↓reduceIte]
 ·rw[TB h0];refine ah ?_;simp only[wc,↓reduceIte,hc,h0]
end Gv
namespace Gv
open Go
def pw:PV:=.tup [.lst [] false,.int .i64 (-1),.int .i64 5]
def wz(p:SProg)(code:List SInstr)(at':Nat)(i:SInstr)(d:Int)(F0 m:Nat)(e:Env):Prop:=
 ∃(t:Nat)(out:List Int)(again:Bool)(most:Int),t+m=(bj at' i).length/\WalkI p code out (λk=>again=true∨at'<=k)/\jy out<=F0/\(again=true->jy out<F0)/\
  out[at']?=some d/\(∀(s j:Nat),s<t->(bj at' i)[s]?=some j->out[j]?=some (bz p i d))/\
  e 2=.lptr [iw p.handlers,i4 p.actors,dS p.boot,.int .i64 p.fuel]/\e 7=cw code/\e 8=.int .i64 (code.length:Nat)/\e 9=eI out/\e 11=.int .i64 most/\e 12=.bool again/\e 13=.int .i64 (at':Nat)/\e 16=.int .i64 (bz p i d)/\
  e 17=eI ((bj at' i).map Int.ofNat)/\e 18=.int .i64 (t:Nat)
theorem EM{C:b6}{V:Nat->List PV->List PV->Bool}{p:SProg}{code:List SInstr}{at':Nat}{i:SInstr}{d:Int}{F0 m:Nat}(hi:code[at']?=some i)(hd1:d≠ -1)(h1:aD p i<=d)(h2:bz p i d<=8)(hd0:0<=d)(hin:∀j∈bj at' i,j<=code.length)
  (hm:m<1000){env:Env}(h0:wz p code at' i d F0 m env):
  (∃e,aL C V (.block 7 (.loop dX)) env=some (.norm e)/\wz p code at' i d F0 0 e)∨∃v,aL C V (.block 7 (.loop dX)) env=some (.ret v [])/\v=pw/\¬dK p code:=by
 rw[dX];refine jD (C:=C) (V:=V) (by omega) (λm e=>wz p code at' i d F0 m e) (λe=>wz p code at' i d F0 0 e) (λv=>v=pw/\¬dK p code) (λm e hs=>?_) h0;obtain⟨t,out,again,most,ht,hW,hF,hF2,hd,hdone,e2,e7,e8,e9,e11,e12,e13,e16,e17,e18⟩:=hs;have hp0:=mW i.op;have hn0:0<=bz p i d:=by unfold bz;omega
 have ln:bO (eI ((bj at' i).map Int.ofNat))=some (.int .i64 ((bj at' i).length:Nat)):=by rw[cE,Uk]
 by_cases htm:m=0
 ·subst htm;have hlt:((t<(bj at' i).length):Prop)=False:=by simp;omega
  refine .inl ⟨e,?_,t,out,again,most,ht,hW,hF,hF2,hd,hdone,e2,e7,e8,e9,e11,e12,e13,e16,e17,e18⟩;simp only[wc,↓reduceIte,e17,e18,ln,Ux,hlt]
 have hlt:((t<(bj at' i).length):Prop)=True:=by simp;omega
 refine .inr ⟨e,by simp only[wc,↓reduceIte,e17,e18,ln,Ux,hlt],?_⟩;obtain⟨j,hj,hjm⟩:=aN (l:=bj at' i) (k:=t) (by omega);have hjn:=hin j hjm;have ij:=eP (k:=t) (l:=(bj at' i).map Int.ofNat) (x:=(j:Int)) (by rw[TR,hj];rfl);obtain⟨v,hv,_⟩:=aN (l:=out) (k:=j) (by rw[hW.len];omega);have iv:=eP hv;have hjl:=(List.getElem?_eq_some_iff.1 hv).1;have hnl:=tI at' i;have ad:=bT (k:=t) (by omega);have hlow:=hW.low j v hv;by_cases hv1:v= -1
 ·subst hv1;have up:=Ev (l:=out) (k:=j) (x:=bz p i d) hjl;have hg:(out.set j (bz p i d))[j]?=some (bz p i d):=Ul hjl;have hfr:=zl hv (show bz p i d≠ -1 by omega);left;refine⟨_,m-1,by simp only[wc,↓reduceIte,Nat.reduceEqDiff,Int.reduceLT,Int.reduceLE,Int.reduceNeg,e9,e16,e17,e18,ij,iv,up,ad];rfl,by omega,t+1,out.set j (bz p i d),true,most,by omega,(Cs hW hi hd hd1 h1 h2 hjm hv).mono (λk hk=>.inl rfl),by omega,λ_=>by omega,?_,λs j' hs hj'=>?_,?_⟩
  ·rw[UC (λe=>by subst e;rw[hv]at hd;cases hd;exact hd1 rfl)];exact hd
  ·by_cases hs2:s=t
   ·subst hs2;rw[hj]at hj';cases hj';exact hg
   ·have:=hdone s j' (by omega) hj';by_cases e:j=j'
    ·subst e;exact hg
    ·rw[UC e];exact this
  ·refine⟨by simp[e2],by simp[e7],by simp[e8],by simp,by simp[e11],by simp,by simp[e13],by simp[e16],by simp[e17],by simp⟩
 ·have hv0:0<=v:=by omega
  have hv3:¬v<0:=by omega
  by_cases hv2:v=bz p i d
  ·left;subst hv2;refine⟨_,m-1,by simp only[wc,↓reduceIte,Int.reduceNeg,e9,e16,e17,e18,ij,iv,hv0,hv3,ad];rfl,by omega,t+1,out,again,most,by omega,hW,hF,hF2,hd,λs j' hs hj'=>?_,?_⟩
   ·by_cases hs2:s=t
    ·subst hs2;rw[hj]at hj';cases hj';exact hv
    ·exact hdone s j' (by omega) hj'
   ·refine⟨by simp[e2],by simp[e7],by simp[e8],by simp[e9],by simp[e11],by simp[e12],by simp[e13],by simp[e16],by simp[e17],by simp⟩
  ·right;exact⟨pw,by simp only[wc,↓reduceIte,Nat.reduceEqDiff,Int.reduceNeg,e9,e16,e17,e18,ij,iv,hv0,hv2,pw],rfl,Da hW hi hd hd1 hjm hv hv1 hv2⟩
def Cm(p:SProg)(code:List SInstr)(F0 m:Nat)(e:Env):Prop:=
 ∃(k:Nat)(out:List Int)(again:Bool)(most:Int),k+m=code.length/\WalkI p code out (λj=>again=true∨k<=j)/\jy out<=F0/\(again=true->jy out<F0)/\
  e 2=.lptr [iw p.handlers,i4 p.actors,dS p.boot,.int .i64 p.fuel]/\e 7=cw code/\e 8=.int .i64 (code.length:Nat)/\e 9=eI out/\e 11=.int .i64 most/\e 12=.bool again/\e 13=.int .i64 (k:Nat)
theorem QM{C:b6}{V:Nat->List PV->List PV->Bool}{env:Env}{k:Nat}{i:SInstr}(ha:i.op=20∨i.op=21->0<=i.a)(hk:k<1000000)(e14:env 14=.lptr [.int .i64 i.op,.int .i64 i.a])(e13:env 13=.int .i64 (k:Nat)):
  aL C V (.seq (.st [.asg [] [(107,(.ld none (.v 14) 0))]]) (.block 6 (.seq (.st [.asg [(.bin .eql (.v 107) (N 20))] []]) (.cond (.bin .eql (.v 107) (N 20)) (.st [.asg [] [(17,(.lst (.cn (.ld none (.v 14) 1) .nl)))]])
   (.seq (.st [.asg [(.bin .eql (.v 107) (N 21))] []]) (.cond (.bin .eql (.v 107) (N 21)) (.st [.asg [] [(17,(.lst (.cn (.ld none (.v 14) 1) (.cn (.bin .add (.v 13) (N 1)) .nl))))]])
   (.seq (.st [.asg [(.bin .eql (.v 107) (N 25))] []]) (.cond (.bin .eql (.v 107) (N 25)) (.st [.asg [] [(17,(.lst .nl))]]) (.st [.asg [] [(17,(.lst (.cn (.bin .add (.v 13) (N 1)) .nl)))]]))))))))) env=
   some (.norm ((env.set 107 (.int .i64 i.op)).set 17 (eI ((bj k i).map Int.ofNat)))):=by
 have ad:=bT (k:=k) (by omega);unfold bj;by_cases h:i.op=20
 ·have:Int.ofNat i.a.toNat=i.a:=by have:=ha (.inl h);simp;omega
  simp only[wc,↓reduceIte,Nat.reduceEqDiff,e14,h,TW,UW,this];rfl
 ·by_cases h1:i.op=21
  ·have:Int.ofNat i.a.toNat=i.a:=by have:=ha (.inr h1);simp;omega
   simp only[wc,↓reduceIte,Nat.reduceEqDiff,Int.reduceEq,e13,e14,h1,ad,TW,UW,this];rfl
  ·by_cases h2:i.op=25
   ·simp only[wc,↓reduceIte,Int.reduceEq,e14,h2,UW];rfl
   ·simp only[wc,↓reduceIte,Nat.reduceEqDiff,e13,e14,h,h1,h2,ad,TW,UW];rfl
theorem IT{m0:Nat}{C:b6}{V:Nat->List PV->List PV->Bool}{p:SProg}(hp:DL p){h:SHandler}(hh:h∈p.handlers){F0 m:Nat}
  (pp:∀i∈h.code,C 260 [.int .i64 i.op]=some (.int .i64 (bm i.op),[]))(pt:∀i∈h.code,C 261 [.int .i64 i.op]=some (.int .i64 (cM i.op),[]))
  (hm:m<1000){env:Env}(h0:Cm p h.code F0 m env):
  (∃e,aL C V (.block 4 (.loop gT)) env=some (.norm e)/\Cm p h.code F0 0 e)∨∃v,aL C V (.block 4 (.loop gT)) env=some (.ret v [])/\v=pw/\¬dK p h.code:=by
 have hcl:=hp.code h hh;have hins:=hp.instr h hh;rw[gT];refine jD (C:=C) (V:=V) (by omega) (λm e=>Cm p h.code F0 m e) (λe=>Cm p h.code F0 0 e) (λv=>v=pw/\¬dK p h.code) (λm e hs=>?_) h0;obtain⟨k,out,again,most,ht,hW,hF,hF2,e2,e7,e8,e9,e11,e12,e13⟩:=hs;by_cases htm:m=0
 ·subst htm;have hlt:((k<h.code.length):Prop)=False:=by simp;omega
  refine .inl ⟨e,?_,k,out,again,most,ht,hW,hF,hF2,e2,e7,e8,e9,e11,e12,e13⟩;simp only[wc,↓reduceIte,e8,e13,Ux,hlt]
 have hlt:((k<h.code.length):Prop)=True:=by simp;omega
 refine .inr ⟨e,by simp only[wc,↓reduceIte,e8,e13,Ux,hlt],?_⟩;obtain⟨i,hi,him⟩:=aN (l:=h.code) (k:=k) (by omega);obtain⟨d,hd,_⟩:=aN (l:=out) (k:=k) (by rw[hW.len];omega);have id':=eP hd;have ic:=od hi;have hlow:=hW.low k d hd;have ad:=bT (k:=k) (by omega);have hins:=hins i him;have pp:=pp i him;have pt:=pt i him;by_cases hd1:d= -1
 ·left;subst hd1;refine⟨_,m-1,nx (iS (i:=5) (Bn (by simp only[wc,↓reduceIte,Int.reduceLT,Int.reduceNeg,e9,e13,id'];rfl))) (by simp only[wc,↓reduceIte,e13,ad];rfl),by omega,k+1,out,again,most,by omega,qZ hW (k:=k) (λj hj=>?_) (λi' d' hi' hd' hd1'=>?_),hF,hF2,by simp[e2],by simp[e7],by simp[e8],by simp[e9],by simp[e11],by simp[e12],by simp⟩
  ·rcases hj with hj|hj
   ·exact .inl (.inl hj)
   ·by_cases e:j=k
    ·exact .inr e
    ·exact .inl (.inr (by omega))
  ·rw[hd]at hd';cases hd';exact absurd rfl hd1'
 have hd0:0<=d:=by omega
 have hd2:¬d<0:=by omega
 have htk:=CI hp i;have hpn:=wt i.op;have hpp:=mW i.op;have sb:=vr (x:=d) (y:=aD p i) (by omega) (by omega);have aa:=jo (x:=d-aD p i) (y:=cM i.op) (by omega) (by omega);have gt:d-aD p i+cM i.op=bz p i d:=rfl;rw[gt]at aa;have tk:∃e1:Env,aL C V (.seq (.st [.asg [(.bin .eql (.ld none (.v 14) 0) (N 22))] []]) (.cond (.bin .eql (.ld none (.v 14) 0) (N 22)) (.st [.asg [] [(15,(.bin .add (.v 15) (.ld none (.fa (.ia 2 (.ld none (.v 2) 0) (.ld none (.v 14) 1)) 0) 0)))]]) .skip)) (((e.set 14 (.lptr [.int .i64 i.op,.int .i64 i.a])).set 66 (.int .i64 (bm i.op))).set 15 (.int .i64 (bm i.op)))=some (.norm e1)/\e1 15=.int .i64 (aD p i)/\e1 14=.lptr [.int .i64 i.op,.int .i64 i.a]/\∀n,n≠14->n≠66->n≠15->e1 n=e n:=by
  unfold aD;by_cases h22:i.op=22
  ·obtain⟨a0,a1⟩:=oA hins h22;obtain⟨j,x,hj,hx,ha⟩:=iC a0 a1;have ih:=iK hx;have hxa:=hp.args x (TC hx);have ad2:=jo (x:=bm i.op) (y:=x.args) (by omega) (by omega);rw[TB h22,ha];refine⟨_,by simp only[wc,↓reduceIte,Nat.reduceEqDiff,e2,h22,hj,ih,h22▸ad2];rfl,by simp[h22],by simp[h22,hj],λn a b c=>by simp[a,b,c]⟩
  ·rw[TF h22];refine⟨_,by simp only[wc,↓reduceIte,Nat.reduceEqDiff,h22];rfl,by simp,by simp,λn a b c=>by simp[a,b,c]⟩
 obtain⟨e1,t1,t2,t3,t4⟩:=tk;have f2:=t4 2 (by omega) (by omega) (by omega);have f7:=t4 7 (by omega) (by omega) (by omega);have f8:=t4 8 (by omega) (by omega) (by omega);have f9:=t4 9 (by omega) (by omega) (by omega);have f11:=t4 11 (by omega) (by omega) (by omega);have f12:=t4 12 (by omega) (by omega) (by omega);have f13:=t4 13 (by omega) (by omega) (by omega);rw[e2]at f2;rw[e7]at f7;rw[e8]at f8;rw[e9]at f9;rw[e11]at f11;rw[e12]at f12;rw[e13]at f13;by_cases hbad:d<aD p i∨8<bz p i d
 ·right;refine⟨pw,?_,rfl,xH hW hi hd hd1 (λhb=>by omega)⟩;refine ah (bt (nx (by simp only[wc,↓reduceIte,e9,e13,id',hd2];rfl) (nx (by simp only[wc,↓reduceIte,Nat.reduceAdd,Tz,e7,e13,ic,pp]) (nx t1 (nx (by simp only[wc,↓reduceIte,Nat.reduceEqDiff,f9,f13,t2,t3,id',sb,pt,aa];rfl) (ah ?_))))));rcases Int.lt_or_le d (aD p i)with hb|hb
  ·simp only[wc,↓reduceIte,Nat.reduceEqDiff,reduceCtorEq,Int.reduceNeg,f9,f13,t2,id',hb,pw]
  ·have hb':¬d<aD p i:=by omega
   have hb2:8<bz p i d:=by omega
   simp only[wc,↓reduceIte,Nat.reduceEqDiff,Int.reduceNeg,f9,f13,t2,id',hb',hb2,pw]
 have hb1:¬d<aD p i:=by omega
 have hb2:¬8<bz p i d:=by omega
 obtain⟨mx,hmx⟩:=Tb true most d (bz p i d);have start:∀e3:Env,e3 2=.lptr [iw p.handlers,i4 p.actors,dS p.boot,.int .i64 p.fuel]->e3 7=cw h.code->e3 8=.int .i64 (h.code.length:Nat)->e3 9=eI out->e3 11=.int .i64 mx->e3 12=.bool again->e3 13=.int .i64 (k:Nat)->e3 16=.int .i64 (bz p i d)->e3 17=eI ((bj k i).map Int.ofNat)->e3 18=.int .i64 0->
   (∃e4,aL C V (.block 7 (.loop dX)) e3=some (.norm e4)/\Cm p h.code F0 (m-1) (e4.set 13 (.int .i64 ((k+1:Nat):Int)))/\e4 13=.int .i64 (k:Nat))∨∃v,aL C V (.block 7 (.loop dX)) e3=some (.ret v [])/\v=pw/\¬dK p h.code:=λe3 a2 a7 a8 a9 a11 a12 a13 a16 a17 a18=>by
  have hnl:=tI k i;rcases EM (C:=C) (V:=V) (p:=p) (code:=h.code) (at':=k) (i:=i) (d:=d) (F0:=F0) (m:=(bj k i).length) hi hd1 (by omega) (by omega) hd0 (λj hj=>AA hins (by omega) j hj) (by omega)
   (env:=e3) ⟨0,out,again,mx,by omega,hW,hF,hF2,hd,λs j hs=>by omega,a2,a7,a8,a9,a11,a12,a13,a16,a17,a18⟩with⟨e4,k1,t,out',again',most',k2,k3,k4,k5,k6,k7,b2,b7,b8,b9,b11,b12,b13,_⟩|hf
  ·left;refine⟨e4,k1,⟨k+1,out',again',most',by omega,qZ k3 (k:=k) (λj hj=>?_) (λi' d' hi' hd' hd1'=>?_),k4,k5,by simp[b2],by simp[b7],by simp[b8],by simp[b9],by simp[b11],by simp[b12],by simp⟩,b13⟩
   ·rcases hj with hj|hj
    ·exact .inl (.inl hj)
    ·by_cases e:j=k
     ·exact .inr e
     ·exact .inl (.inr (by omega))
   ·rw[hi]at hi';cases hi';rw[k6]at hd';cases hd';refine⟨by omega,by omega,λj hj=>?_⟩;obtain⟨s,hs⟩:=UP hj;exact k7 s j (by have:=(List.getElem?_eq_some_iff.1 hs).1;omega) hs
  ·exact .inr hf
 have hop:i.op=20∨i.op=21->0<=i.a:=λho=>by
  have hins:=hins;unfold dL bX at hins;rcases ho with ho|ho<;>simp[ho,eg]at hins<;>omega
 have nd:=λ(env:Env) a b=>QM (C:=C) (V:=V) (env:=env) (k:=k) (i:=i) hop (by omega) a b;rcases start ((((((e1.set 87 (.int .i64 (cM i.op))).set 16 (.int .i64 (bz p i d))).set 11 (.int .i64 mx)).set 107 (.int .i64 i.op)).set 17 (eI ((bj k i).map Int.ofNat))).set 18 (.int .i64 0)) (by simp[f2]) (by simp[f7]) (by simp[f8]) (by simp[f9]) (by simp) (by simp[f12]) (by simp[f13]) (by simp) (by simp) (by simp)with⟨e4,k1,k2,k3⟩|⟨v,k1,k2⟩
 ·left;refine⟨_,m-1,nx (jg (i:=5) (nx (by simp only[wc,↓reduceIte,e9,e13,id',hd2];rfl) (nx (by simp only[wc,↓reduceIte,Nat.reduceAdd,Tz,e7,e13,ic,pp]) (nx t1 (nx (by simp only[wc,↓reduceIte,Nat.reduceEqDiff,f9,f13,t2,t3,id',sb,pt,aa];rfl) (nx (by simp only[wc,↓reduceIte,Nat.reduceEqDiff,Int.reduceNeg,f9,f13,t2,id',hb1,hb2];rfl) (nx (by simp only[wc,↓reduceIte,Nat.reduceEqDiff,f9,f11,f13,id',hmx];rfl) (nx (nd _ (by simp[t3]) (by simp[f13])) (nx (by simp only[wc,↓reduceIte]) k1))))))))) (by simp only[wc,↓reduceIte,k3,ad]),by omega,k2⟩
 ·right;exact⟨v,ah (bt (nx (by simp only[wc,↓reduceIte,e9,e13,id',hd2];rfl) (nx (by simp only[wc,↓reduceIte,Nat.reduceAdd,Tz,e7,e13,ic,pp]) (nx t1 (nx (by simp only[wc,↓reduceIte,Nat.reduceEqDiff,f9,f13,t2,t3,id',sb,pt,aa];rfl) (nx (by simp only[wc,↓reduceIte,Nat.reduceEqDiff,Int.reduceNeg,f9,f13,t2,id',hb1,hb2];rfl) (nx (by simp only[wc,↓reduceIte,Nat.reduceEqDiff,f9,f11,f13,id',hmx];rfl) (nx (nd _ (by simp[t3]) (by simp[f13])) (nx (by simp only[wc,↓reduceIte]) k1))))))))),k2⟩
theorem Km{n j:Nat}(hj:j<n):(List.replicate j (-1:Int)++List.replicate (n-j) 0).set j (-1)=List.replicate (j+1) (-1)++List.replicate (n-(j+1)) 0:=by
 rw[List.set_append_right (h:=by simp),Va,Nat.sub_self,show n-j=(n-(j+1))+1 by omega,UT,List.set_cons_zero,List.replicate_succ',UA];rfl
def NL(p:SProg)(code:List SInstr)(m:Nat)(e:Env):Prop:=
 ∃(out:List Int)(again:Bool)(most:Int),WalkI p code out (λj=>again=true∨code.length<=j)/\(again=true->m=jy out+1)/\(again=false->m=0)/\
  e 2=.lptr [iw p.handlers,i4 p.actors,dS p.boot,.int .i64 p.fuel]/\e 7=cw code/\e 8=.int .i64 (code.length:Nat)/\e 9=eI out/\e 11=.int .i64 most/\e 12=.bool again
open Classical in
noncomputable def Ig (p:SProg) (code:List SInstr):Int:=if dK p code then 0 else 5
theorem Ik{m:Nat}(p:SProg)(hp:DL p)(k:Nat)(h:SHandler)(hk:p.handlers[k]?=some h):∃(l most:PV),aj aG (m+3) 251 [aA p,.int .i64 (k:Nat)]=some (.tup [l,most,.int .i64 (Ig p h.code)],[]):=by
 suffices hs:∃(l most:PV),aL (aj aG (m+2)) (aY aG) iq.body (Env.ofArgs [aA p,.int .i64 (k:Nat)])=some (.ret (.tup [l,most,.int .i64 (Ig p h.code)]) [])by
  obtain⟨l,most,h1⟩:=hs;exact⟨l,most,am (F:=iq) rfl rfl rfl h1 (.inl rfl)⟩
 have hh:=TC hk;have hkl:=(List.getElem?_eq_some_iff.1 hk).1;have hcl:=hp.code h hh;have hin:=hp.instr h hh;have pp:=λi(hi:i∈h.code)=>Kz (m:=m) i.op (gm (hin i hi));have pt:=λi(hi:i∈h.code)=>KA (m:=m) i.op (gm (hin i hi));generalize aj aG (m+2)=C at*;generalize aY aG=V;have lc:bO (cw h.code)=some (.int .i64 h.code.length):=fG;have ih:=iK hk;have k0:¬(k:Int)<0:=by omega
 have k1:¬(p.handlers.length:Int)<=(k:Int):=by omega
 have ad:=bT (k:=h.code.length) (by omega);have hmk:LP 1 (.int .i64 0) (.int .i64 ((h.code.length+1:Nat):Int))=some (eI (List.replicate (h.code.length+1) 0)):=by
  simp only[LP];rw[TB ⟨by omega,by simp[bV];omega,rfl,rfl⟩];simp[eI]
 simp only[aA,ao,iq];have fin:(∃(out:List Int)(most:Int)(e:Env),aL C V (.block 2 (.loop eG))= λ_=>none)∨True:=.inr trivial;clear fin;have loop1:∀e0:Env,e0 2=.lptr [iw p.handlers,i4 p.actors,dS p.boot,.int .i64 p.fuel]->e0 7=cw h.code->e0 8=.int .i64 (h.code.length:Nat)->e0 9=eI (List.replicate (h.code.length+1) 0)->e0 10=.int .i64 0->
   ∃e1,aL C V (.block 0 (.loop jF)) e0=some (.norm e1)/\e1 2=.lptr [iw p.handlers,i4 p.actors,dS p.boot,.int .i64 p.fuel]/\e1 7=cw h.code/\e1 8=.int .i64 (h.code.length:Nat)/\e1 9=eI (List.replicate (h.code.length+1) (-1)):=λe0 a2 a7 a8 a9 a10=>by
  rw[jF];refine mB (C:=C) (V:=V) (n:=h.code.length+1) (by omega) (λj e=>e 2=.lptr [iw p.handlers,i4 p.actors,dS p.boot,.int .i64 p.fuel]/\e 7=cw h.code/\e 8=.int .i64 (h.code.length:Nat)/\e 9=eI (List.replicate j (-1)++List.replicate (h.code.length+1-j) 0)/\e 10=.int .i64 (j:Nat)) _ (λj e hj ⟨b2,b7,b8,b9,b10⟩=>?_) (λe ⟨b2,b7,b8,b9,b10⟩=>?_) ⟨a2,a7,a8,by simpa using a9,a10⟩
  ·have hle:(j:Int)<=(h.code.length:Int):=by omega
   have ij:=eP (k:=j) (l:=List.replicate j (-1)++List.replicate (h.code.length+1-j) 0) (x:=0) (by rw[T0 (by simp),Va,Nat.sub_self,UK,TB (by omega)]);have up:=Ev (l:=List.replicate j (-1)++List.replicate (h.code.length+1-j) 0) (k:=j) (x:= -1) (by simp;omega);have ad:=bT (k:=j) (by omega);refine⟨e,_,by simp only[wc,↓reduceIte,b8,b10,hle],by simp only[wc,↓reduceIte,Nat.reduceEqDiff,Int.reduceNeg,b9,b10,ij,up,ad];rfl,by simp[b2],by simp[b7],by simp[b8],?_,by simp⟩;have:=Km (n:=h.code.length+1) (j:=j) hj;simp[this]
  ·have hle:¬((h.code.length+1:Nat):Int)<=(h.code.length:Int):=by omega
   refine⟨e,by simp only[wc,↓reduceIte,b8,b10,hle],b2,b7,b8,?_⟩;rw[b9];simp
 have outer:∀e0:Env,e0 2=.lptr [iw p.handlers,i4 p.actors,dS p.boot,.int .i64 p.fuel]->e0 7=cw h.code->e0 8=.int .i64 (h.code.length:Nat)->e0 9=eI ((List.replicate (h.code.length+1) (-1)).set 0 0)->e0 11=.int .i64 0->e0 12=.bool true->
   (∃e,aL C V (.block 2 (.loop eG)) e0=some (.norm e)/\∃(out:List Int)(most:Int),e 9=eI out/\e 11=.int .i64 most/\dK p h.code)∨∃v,aL C V (.block 2 (.loop eG)) e0=some (.ret v [])/\v=pw/\¬dK p h.code:=λe0 a2 a7 a8 a9 a11 a12=>by
  rw[eG];have hfr:=C5 ((List.replicate (h.code.length+1) (-1)).set 0 (0:Int));rw[UX,Va]at hfr;refine jD (C:=C) (V:=V) (m:=jy ((List.replicate (h.code.length+1) (-1)).set 0 0)+1) (by omega) (λm e=>NL p h.code m e) (λe=>∃(out:List Int)(most:Int),e 9=eI out/\e 11=.int .i64 most/\dK p h.code) (λv=>v=pw/\¬dK p h.code) (λm e hs=>?_)
   ⟨_,true,0,(wN p h.code).mono (λk _=>.inl rfl),λ_=>rfl,(λh=>by cases h),a2,a7,a8,a9,a11,a12⟩
  obtain⟨out,again,most,hW,hm1,hm2,e2,e7,e8,e9,e11,e12⟩:=hs;cases again with
  |false=>
   left;exact⟨e,by simp only[wc,e12],out,most,e9,e11,zF hW λk hk hx=>by rcases hx with hx|hx;cases hx;omega⟩
  | true=>
   right;refine⟨e,by simp only[wc,e12],?_⟩;have hm1:=hm1 rfl;rcases IT (m0:=0) (C:=C) (V:=V) hp hh (F0:=jy out) (m:=h.code.length) pp pt (by omega)
    (env:=((e.set 12 (.bool false)).set 13 (.int .i64 0))) ⟨0,out,false,most,by omega,hW.mono (λk _=>.inr (UN _)),TN _,(λh=>by cases h),by simp[e2],by simp[e7],by simp[e8],by simp[e9],by simp[e11],by simp,by simp⟩with⟨e4,k1,k,out',again',most',k2,k3,k4,k5,b2,b7,b8,b9,b11,b12,b13⟩|⟨v,k1,k2⟩
   ·left;refine⟨e4,(if again'=true then jy out'+1 else 0),jg (nx (by simp only[wc,↓reduceIte]) k1),?_,out',again',most',k3.mono (λj hj=>by rcases hj with hj|hj;exact .inl hj;exact .inr (by omega)),λh=>by rw[TB h],λh=>by rw[h];simp,b2,b7,b8,b9,b11,b12⟩;split
    ·rename_i hb;have:=k5 hb;omega
    ·omega
   ·right;exact⟨v,bt (nx (by simp only[wc,↓reduceIte]) k1),k2⟩
 obtain⟨e1,q1,q2,q7,q8,q9⟩:=loop1 ((((((Env.ofArgs [.agg [iw p.handlers,i4 p.actors,dS p.boot,.int .i64 p.fuel],.int .i64 (k:Nat)]).set 2 (.lptr [iw p.handlers,i4 p.actors,dS p.boot,.int .i64 p.fuel])).set 7 (cw h.code)).set 8 (.int .i64 (h.code.length:Nat))).set 9 (eI (List.replicate (h.code.length+1) 0))).set 10 (.int .i64 0)) (by simp) (by simp) (by simp) (by simp) (by simp);have i0:az 1 (eI (List.replicate (h.code.length+1) (-1))) (.int .i64 0)=some (.lptr [.int .i64 (-1)]):=eP (k:=0) (by rw[UK];simp);have u0:oB none (eI (List.replicate (h.code.length+1) (-1))) (.int .i64 0) 0 (.int .i64 0)=some (eI ((List.replicate (h.code.length+1) (-1)).set 0 0)):=Ev (k:=0) (by simp);rcases outer (((e1.set 9 (eI ((List.replicate (h.code.length+1) (-1)).set 0 0))).set 11 (.int .i64 0)).set 12 (.bool true)) (by simp[q2]) (by simp[q7]) (by simp[q8]) (by simp) (by simp) (by simp)with⟨e,r1,out,most,r2,r3,r4⟩|⟨v,r1,rfl,r2⟩
 ·refine⟨eI out,.int .i64 most,?_⟩;rw[Ig,TB r4];refine nx (by simp only[wc,↓reduceIte,Nat.reduceAdd,Tz];rfl) (nx (by simp only[wc,↓reduceIte,Nat.reduceEqDiff,Int.reduceNeg,bK,k0,k1];rfl) (nx (by simp only[wc,↓reduceIte,Nat.reduceEqDiff,ih,lc,ad,hmk];rfl) ?_));rw[mM];refine nx (by simp only[wc,↓reduceIte]) (nx q1 (nx (by simp only[wc,↓reduceIte,Int.reduceNeg,q9,i0,u0];rfl) ?_));rw[mM];refine nx (by simp only[wc,↓reduceIte,Int.reduceNeg]) (nx r1 ?_);simp only[wc,↓reduceIte,Nat.reduceEqDiff,r2,r3]
 ·refine⟨.lst [] false,.int .i64 (-1),?_⟩;rw[Ig,TF r2];refine nx (by simp only[wc,↓reduceIte,Nat.reduceAdd,Tz];rfl) (nx (by simp only[wc,↓reduceIte,Nat.reduceEqDiff,Int.reduceNeg,bK,k0,k1];rfl) (nx (by simp only[wc,↓reduceIte,Nat.reduceEqDiff,ih,lc,ad,hmk];rfl) ?_));rw[mM];refine nx (by simp only[wc,↓reduceIte]) (nx q1 (nx (by simp only[wc,↓reduceIte,Int.reduceNeg,q9,i0,u0];rfl) ?_));rw[mM];refine nx (by simp only[wc,↓reduceIte,Int.reduceNeg]) (ah r1)
theorem Fh{m:Nat}(p:SProg)(hp:fL p):aj aG (m+4) 240 [aA p]=some (.int .i64 (iY p),[]):=by
 refine am (F:=gK) rfl rfl rfl ?_ (.inr rfl);have hc:=HZ (m:=m) p hp;have hw:=λ(ok:DL p) k h hk=>Ik (m:=m) p ok k h hk;have hl:=hp.hs;generalize aj aG (m+3)=C at*;generalize aY aG=V;simp only[aA,ao]at hc hw;simp only[aA,ao,gK];refine nx (by simp only[wc,↓reduceIte,Nat.reduceAdd,Tz,hc];rfl) ?_;rw[mM];refine nx (by simp only[wc,↓reduceIte];rfl) ?_;rw[kN];refine Dd (C:=C) (V:=V) (m:=p.handlers.length) (by omega)
  (λm e=>∃(k:Nat)(v:Int),k+m=p.handlers.length/\e 1=.lptr [iw p.handlers,i4 p.actors,dS p.boot,.int .i64 p.fuel]/\e 3=.int .i64 v/\e 4=.int .i64 (k:Nat)/\(v=0->mf p=0/\∀j<k,∀x,p.handlers[j]?=some x->rQ p x=0)/\(v≠0->v=iY p))
  (λe=>e 3=.int .i64 (iY p)) (λ_=>False) (λm e ⟨k,v,hk,e1,e3,e4,hv0,hv1⟩=>?_) ⟨0,mf p,by omega,by simp,by simp,by simp,λh=>⟨h,λj hj=>by omega⟩,λh=>by rw[iY,TB h]⟩ (λe he=>?_) (λv hv=>hv.elim)
 ·by_cases hv:v=0
  ·obtain⟨h0,hj⟩:=hv0 hv;by_cases hm:m=0
   ·left;have hlt:((k<p.handlers.length):Prop)=False:=by simp;omega
    refine⟨e,by simp only[wc,↓reduceIte,e1,e3,e4,bK,Ux,hlt],?_⟩;have:bS (rQ p) p.handlers=0:=ui λj hj' x hx=>hj j (by omega) x hx;rw[e3,hv,iY,TF (by simp[h0]),this]
   ·right;have hlt:((k<p.handlers.length):Prop)=True:=by simp;omega
    refine⟨e,by simp only[wc,↓reduceIte,e1,e3,e4,bK,Ux,hlt,hv],.inl ?_⟩;obtain⟨x,hx,hm'⟩:=aN (l:=p.handlers) (k:=k) (by omega);obtain⟨l,most,hw⟩:=hw (Sr h0) k x hx;have ad:=bT (k:=k) (by omega);refine⟨_,m-1,by simp only[wc,↓reduceIte,Nat.reduceEqDiff,e1,e4,hw,ad];rfl,by omega,k+1,Ig p x.code,by omega,by simp[e1],by simp,by simp,λhz=>⟨h0,λj hj' y hy=>?_⟩,λhz=>?_⟩
    ·by_cases e:j=k
     ·subst e;rw[hx]at hy;cases hy;exact hz
     ·exact hj j (by omega) y hy
    ·have:=ux (f:=rQ p) hx hz λj hj' y hy=>hj j hj' y hy;rw[iY,TF (by simp[h0]),this];rfl
  ·left;refine⟨e,?_,by rw[e3,hv1 hv]⟩;by_cases hlt:k<p.handlers.length
   ·simp only[wc,↓reduceIte,e1,e3,e4,bK,Ux,hlt,hv]
   ·simp only[wc,↓reduceIte,e1,e3,e4,bK,Ux,hlt,hv]
 ·simp only[wc,↓reduceIte,he]
end Gv
