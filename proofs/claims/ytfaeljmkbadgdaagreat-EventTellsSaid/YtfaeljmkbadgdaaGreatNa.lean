/- A part of the proof that the law is true of all its inputs, by an interpreter that is proved sound. -/
import Derived.Test.YtfaeljmkbadgdaaGreatPa
import Derived.Test.YtfaeljmkbadgdaaGreatVw
namespace Gv
open Go
def ec(op:Int):Bool:=decide (1<=op/\op<=25)
def ch(op:Int):Int:=if op=1 then 1 else if op=5∨op=6 then 2 else if op=7 then 3 else if op=20∨op=21 then 4 else if op=22 then 5 else 0
def oU(op:Int):Int:=if op=4∨(9<=op/\op<=13)∨(15<=op/\op<=18)then 2 else if op=2∨op=3∨op=6∨op=14∨op=19∨op=21∨op=22 then 1 else 0
def lq(op:Int):Int:=if op=3∨op=4 then 2 else if op=1∨op=5∨op=7∨op=8∨(9<=op/\op<=19)then 1 else 0
def bD{α:Type}(f:α->Int):List α->Int
 |[]=>0
 |x::l=>if f x=0 then bD f l else f x
def eu(hs n:Nat)(args:Int)(i:SInstr):Int:=
 if ec i.op=false then 1
 else if ch i.op=0/\i.a≠0 then 1
 else if ch i.op=4/\(i.a<0∨(n:Int)<i.a)then 4
 else if ch i.op=2/\(i.a<0∨8<=i.a)then 6
 else if ch i.op=3/\(i.a<0∨args<=i.a)then 6
 else if ch i.op=5/\(i.a<0∨(hs:Int)<=i.a)then 7
 else 0
def eT(p:SProg)(h:SHandler):Int:=
 if h.args<0∨4<h.args then 1 else if 64<h.code.length then 3 else bD (eu p.handlers.length h.code.length h.args) h.code
def mD(p:SProg)(k:Int):Int:=match p.handlers[k.toNat]? with|some h=>h.args|none=>0
def kO(p:SProg)(a:SActor):Int:=
 if 8<a.regs.length then 3 else if a.cap<0∨16<a.cap then 1
 else if a.timer≠ -1/\(a.timer<0∨(p.handlers.length:Int)<=a.timer∨mD p a.timer≠0)then 7
 else if a.armed=true/\a.timer= -1 then 1 else 0
def jU(p:SProg)(n:SNote):Int:=
 if n.to<0∨(p.actors.length:Int)<=n.to∨n.handler<0∨(p.handlers.length:Int)<=n.handler then 7
 else if(n.args.length:Int)≠mD p n.handler then 1 else 0
def kU(p:SProg):Int:=
 if 16<p.handlers.length∨8<p.actors.length∨16<p.boot.length then 3
 else if p.actors.length=0∨p.fuel<1∨256<p.fuel then 1
 else if bD (eT p) p.handlers≠0 then bD (eT p) p.handlers
 else if bD (kO p) p.actors≠0 then bD (kO p) p.actors
 else bD (jU p) p.boot
theorem sf{α:Type}{f:α->Int}{l:List α}{k:Nat}{x:α}(hx:l[k]?=some x)(hn:f x≠0)(hj:∀j,j<k->∀y,l[j]?=some y->f y=0):bD f l=f x:=by
 induction l generalizing k with
 |nil=>simp at hx
 | cons y l ih=>
  cases k with
  |zero=>simp at hx;subst hx;simp[bD,hn]
  |succ k=>
   have h0:=hj 0 (by omega) y rfl;simp only[bD,h0,PQ];exact ih (by simpa using hx) λj hj' z hz=>hj (j+1) (by omega) z (by simpa using hz)
theorem sD{α:Type}{f:α->Int}{l:List α}(h:∀k,k<l.length->∀x,l[k]?=some x->f x=0):bD f l=0:=by
 induction l with
 |nil=>rfl
 |cons y l ih=>
  have h0:=h 0 (by simp) y rfl;simp only[bD,h0,PQ];exact ih λk hk x hx=>h (k+1) (by simp;omega) x (by simpa using hx)
theorem jb{α:Type}{f:α->Int}:∀{l:List α},bD f l=0↔∀x∈l,f x=0
 |[]=>by simp[bD]
 |y::l=>by
  by_cases h:f y=0
  ·simp[bD,h,jb (l:=l)]
  ·simp[bD,h]
def cz(p:SProg)(i:SInstr):Int:=oU i.op+if i.op=22 then mD p i.a else 0
def cu(k:Nat)(i:SInstr):List Nat:=if i.op=20 then[i.a.toNat]else if i.op=21 then[i.a.toNat,k+1]else if i.op=25 then[]else[k+1]
structure I4 (p:SProg) (code:List SInstr) (D:Nat->Int):Prop where
 start:D 0=0
 low:∀k i,code[k]?=some i->D k≠ -1->cz p i<=D k/\D k-cz p i+lq i.op<=8
 go:∀k i,code[k]?=some i->D k≠ -1->∀j∈cu k i,D j=D k-cz p i+lq i.op
def dw(p:SProg)(code:List SInstr):Prop:=∃D,I4 p code D
theorem kJ{C:bK}{V:Nat->List PV->List PV->Bool}{HD BD:VC}{b m:Nat}(hm:m<1099511627775)(St:Nat->Env->Prop)(Q:Env->Prop)(R:PV->Prop)
  (hstep:∀m env,St m env->(∃e,aF C V HD env=some (.exit b e)/\Q e)∨∃e1,aF C V HD env=some (.norm e1)/\((∃e2 m',aF C V BD e1=some (.norm e2)/\m'<m/\St m' e2)∨∃v,aF C V BD e1=some (.ret v [])/\R v))
  {env:Env}(h0:St m env):
  (∃e,aF C V (.block b (.loop (.seq HD BD))) env=some (.norm e)/\Q e)∨∃v,aF C V (.block b (.loop (.seq HD BD))) env=some (.ret v [])/\R v:=by
 have key:∀(m j:Nat)(env:Env),St m env->(∃e,dS (aF C V (.seq HD BD)) (m+1+j) env=some (.exit b e)/\Q e)∨∃v,dS (aF C V (.seq HD BD)) (m+1+j) env=some (.ret v [])/\R v:=by
  intro m;induction m using Nat.strongRecOn with
  | ind m ih=>
   intro j env hs;rw[show m+1+j=(m+j)+1 by omega];rcases hstep m env hs with⟨e,h1,h2⟩|⟨e1,h1,⟨e2,m',h2,h3,h4⟩|⟨v,h2,h3⟩⟩
   ·exact .inl ⟨e,by simp only[dS,aF,h1],h2⟩
   ·have:=ih m' h3 (m+j-(m'+1)) e2 h4;rw[show m'+1+(m+j-(m'+1))=m+j by omega]at this;simp only[dS,aF,h1,h2];exact this
   ·exact .inr ⟨v,by simp only[dS,aF,h1,h2],h3⟩
 have hb:m+1+(1099511627775-m)=zq:=by rw[pR];omega
 rcases key m (1099511627775-m) env h0 with⟨e,h1,h2⟩|⟨v,h1,h2⟩
 ·refine .inl ⟨e,fD ?_,h2⟩;rw[hb]at h1;simp only[aF];exact h1
 ·refine .inr ⟨v,aM ?_,h2⟩;rw[hb]at h1;simp only[aF];exact h1
theorem GB{C:bK}{V:Nat->List PV->List PV->Bool}{HD BD K:VC}{b m:Nat}{X0:Option ti}(hm:m<1099511627775)(St:Nat->Env->Prop)(Q:Env->Prop)(R:PV->Prop)
  (hstep:∀m env,St m env->(∃e,aF C V HD env=some (.exit b e)/\Q e)∨∃e1,aF C V HD env=some (.norm e1)/\((∃e2 m',aF C V BD e1=some (.norm e2)/\m'<m/\St m' e2)∨∃v,aF C V BD e1=some (.ret v [])/\R v))
  {env:Env}(h0:St m env)(hk:∀e,Q e->aF C V K e=X0)(hr:∀v,R v->X0=some (.ret v [])):aF C V (.seq (.block b (.loop (.seq HD BD))) K) env=X0:=by
 rcases kJ (C:=C) (V:=V) hm St Q R hstep h0 with⟨e,h1,h2⟩|⟨v,h1,h2⟩
 ·exact nx h1 (hk e h2)
 ·rw[ai h1,hr v h2]
def bm(p:SProg)(i:SInstr)(d:Int):Int:=d-cz p i+lq i.op
theorem pJ(op:Int):0<=lq op/\lq op<=2:=by
 unfold lq;split
 ·omega
 ·split<;>omega
theorem yu(op:Int):0<=oU op/\oU op<=2:=by
 unfold oU;split
 ·omega
 ·split<;>omega
structure WalkI (p:SProg) (code:List SInstr) (out:List Int) (ex:Nat->Prop):Prop where
 len:out.length=code.length+1
 low:∀(k:Nat)(d:Int),out[k]?=some d->d= -1∨(0<=d/\d<=8)
 o0:out[0]?=some 0
 sound:∀D,I4 p code D->∀(k:Nat)(d:Int),out[k]?=some d->d≠ -1->D k=d
 closed:∀(k:Nat)(i:SInstr)(d:Int),code[k]?=some i->out[k]?=some d->d≠ -1->ex k∨(cz p i<=d/\bm p i d<=8/\∀j∈cu k i,out[j]?=some (bm p i d))
theorem WalkI.mono{p:SProg}{code:List SInstr}{out:List Int}{ex ex':Nat->Prop}(h:WalkI p code out ex)(he:∀k,ex k->ex' k):WalkI p code out ex':=
 ⟨h.len,h.low,h.o0,h.sound,λk i d h1 h2 h3=>(h.closed k i d h1 h2 h3).imp_left (he k)⟩
theorem uE(p:SProg)(code:List SInstr):WalkI p code ((List.replicate (code.length+1) (-1)).set 0 0) (λk=>k=0):=by
 have hg:∀(k:Nat)(d:Int),((List.replicate (code.length+1) (-1:Int)).set 0 0)[k]?=some d->(k=0/\d=0)∨(k≠0/\d= -1):=λk d h=>by
  by_cases hk:0=k
  ·subst hk;rw[P5 (by simp)]at h;cases h;exact .inl ⟨rfl,rfl⟩
  ·rw[Qa hk,Qd]at h;split at h<;>cases h
   exact .inr ⟨λh=>hk h.symm,rfl⟩
 refine⟨by simp,λk d h=>?_,P5 (by simp),λD hD k d h hd=>?_,λk i d _ h hd=>?_⟩
 ·rcases hg k d h with⟨_,rfl⟩|⟨_,rfl⟩<;>simp
 ·rcases hg k d h with⟨rfl,rfl⟩|⟨_,rfl⟩
  ·exact hD.start
  ·exact absurd rfl hd
 ·rcases hg k d h with⟨rfl,rfl⟩|⟨_,rfl⟩
  ·exact .inl rfl
  ·exact absurd rfl hd
theorem zV{p:SProg}{code:List SInstr}{out:List Int}{ex:Nat->Prop}(h:WalkI p code out ex){at' k:Nat}{i:SInstr}{d:Int}(hi:code[at']?=some i)(hd:out[at']?=some d)(hd1:d≠ -1)
  (h1:cz p i<=d)(h2:bm p i d<=8)(hk:k∈cu at' i)(hk2:out[k]?=some (-1)):WalkI p code (out.set k (bm p i d)) (λj=>ex j∨j=k):=by
 have hp:=pJ i.op;have hkl:=(List.getElem?_eq_some_iff.1 hk2).1;have hn0:0<=bm p i d:=by unfold bm;omega
 have hne:∀(j:Nat)(v:Int),v≠ -1->out[j]?=some v->(out.set k (bm p i d))[j]?=some v:=λj v hv hj=>by
  rw[Qa (λe=>by subst e;rw[hk2]at hj;cases hj;exact hv rfl)];exact hj
 refine⟨by rw[Rk];exact h.len,λj v hj=>?_,hne 0 0 (by omega) h.o0,λD hD j v hj hv=>?_,λj i' v hc hj hv=>?_⟩
 ·by_cases e:k=j
  ·subst e;rw[P5 hkl]at hj;cases hj;omega
  ·rw[Qa e]at hj;exact h.low j v hj
 ·by_cases e:k=j
  ·subst e;rw[P5 hkl]at hj;cases hj;have a:=h.sound D hD at' d hd hd1;rw[hD.go at' i hi (by rw[a];exact hd1) k hk,a];rfl
  ·rw[Qa e]at hj;exact h.sound D hD j v hj hv
 ·by_cases e:k=j
  ·exact .inl (.inr e.symm)
  ·rw[Qa e]at hj;rcases h.closed j i' v hc hj hv with a|⟨a,b,c⟩
   ·exact .inl (.inl a)
   ·refine .inr ⟨a,b,λj' hj'=>hne j' _ ?_ (c j' hj')⟩;have:=pJ i'.op;unfold bm;omega
theorem xy{p:SProg}{code:List SInstr}{out:List Int}{ex:Nat->Prop}(h:WalkI p code out ex)(he:∀k,k<code.length->¬ex k):dw p code:=by
 refine⟨λk=>(out[k]?).getD (-1),by simp[h.o0],λk i hi hd=>?_,λk i hi hd j hj=>?_⟩
 all_goals
  have hk:=(List.getElem?_eq_some_iff.1 hi).1;obtain⟨d,hk2,_⟩:=aP (l:=out) (k:=k) (by rw[h.len];omega);simp only[hk2,PK]at hd⊢;rcases h.closed k i d hi hk2 hd with a|⟨a,b,c⟩
  ·exact absurd a (he k hk)
 ·exact⟨a,b⟩
 ·simp only[c j hj,PK];rfl
theorem wu{p:SProg}{code:List SInstr}{out:List Int}{ex:Nat->Prop}(h:WalkI p code out ex){k:Nat}{i:SInstr}{d:Int}(hi:code[k]?=some i)(hd:out[k]?=some d)(hd1:d≠ -1)(hb:¬(cz p i<=d/\bm p i d<=8)):¬dw p code:=λ⟨D,hD⟩=>by
 have a:=h.sound D hD k d hd hd1;have:=hD.low k i hi (by rw[a];exact hd1);rw[a]at this;exact hb this
theorem AP{p:SProg}{code:List SInstr}{out:List Int}{ex:Nat->Prop}(h:WalkI p code out ex){k j:Nat}{i:SInstr}{d v:Int}(hi:code[k]?=some i)(hd:out[k]?=some d)(hd1:d≠ -1)(hj:j∈cu k i)(hv:out[j]?=some v)(hv1:v≠ -1)(hb:v≠bm p i d):¬dw p code:=λ⟨D,hD⟩=>by
 have a:=h.sound D hD k d hd hd1;have b:=h.sound D hD j v hv hv1;have:=hD.go k i hi (by rw[a];exact hd1) j hj;rw[a,b]at this;exact hb this
theorem pL{p:SProg}{code:List SInstr}{out:List Int}{ex ex':Nat->Prop}(h:WalkI p code out ex){k:Nat}(he:∀j,ex j->ex' j∨j=k)
  (hk:∀i d,code[k]?=some i->out[k]?=some d->d≠ -1->cz p i<=d/\bm p i d<=8/\∀j∈cu k i,out[j]?=some (bm p i d)):WalkI p code out ex':=
 ⟨h.len,h.low,h.o0,h.sound,λj i d h1 h2 h3=>by
  rcases h.closed j i d h1 h2 h3 with a|a
  ·rcases he j a with a|rfl
   ·exact .inl a
   ·exact .inr (hk i d h1 h2 h3)
  ·exact .inr a⟩
def iU(out:List Int):Nat:=out.countP λd=>decide (d= -1)
theorem xn{out:List Int}{k:Nat}{v:Int}(hk:out[k]?=some (-1))(hv:v≠ -1):iU (out.set k v)+1=iU out:=by
 obtain⟨hl,he⟩:=List.getElem?_eq_some_iff.1 hk;have hpos:0<out.countP λd=>decide (d= -1):=List.countP_pos_iff.2 ⟨-1,Pl hk,by simp⟩;unfold iU;rw[List.countP_set hl,he];simp[hv];omega
theorem AS(out:List Int):iU out<=out.length:=List.countP_le_length
theorem CF{hs n k:Nat}{args:Int}{i:SInstr}(h:eu hs n args i=0)(hk:k<n):∀j∈cu k i,j<=n:=by
 intro j hj;unfold cu at hj;unfold eu ch at h;by_cases h20:i.op=20
 ·simp[h20,ec]at h hj;omega
 ·by_cases h21:i.op=21
  ·simp[h21,ec]at h hj;omega
  ·by_cases h25:i.op=25
   ·simp[h25]at hj
   ·simp[h20,h21,h25]at hj;omega
structure gI where
 regs:List Int
 armed:Bool
 down:Int
 sent:Int
 over:Int
 deriving DecidableEq
structure ay where
 actors:List gI
 mail:List b6
 used:SBudget
 deriving DecidableEq
def fp(l:gI):List PV:=[eI l.regs,.bool l.armed,.int .i64 l.down,.int .i64 l.sent,.int .i64 l.over]
def qE(l:gI):PV:=.agg (fp l)
def dB(l:List gI):PV:=.lst (l.map qE) false
def aD(w:ay):List PV:=[dB w.actors,cg w.mail,.int .i64 w.used.drop,.int .i64 w.used.dup,.int .i64 w.used.time,.int .i64 w.used.crash]
def aX(w:ay):PV:=.agg (aD w)
def jL(l:List SHandler):PV:=.lst (l.map cN) false
def kz(l:List SActor):PV:=.lst (l.map iq) false
def kT(l:List SNote):PV:=.lst (l.map jX) false
theorem aC(p:SProg):AB p=[jL p.handlers,kz p.actors,kT p.boot,.int .i64 p.fuel]:=rfl
def aJ(p:SProg):PV:=.agg (AB p)
theorem oi{k:Nat}{l:List gI}{x:gI}(h:l[k]?=some x):au 5 (dB l) (.int .i64 (k:Nat))=some (.lptr (fp x)):=oE (f:=qE) h rfl
theorem bw{l:List gI}:cB (dB l)=some (.int .i64 l.length):=lS
theorem bM{l:List SHandler}:cB (jL l)=some (.int .i64 l.length):=lS
theorem dA{l:List SActor}:cB (kz l)=some (.int .i64 l.length):=lS
theorem i9{l:List SNote}:cB (kT l)=some (.int .i64 l.length):=lS
theorem mH{k:Nat}{l:List SHandler}{x:SHandler}(h:l[k]?=some x):au 2 (jL l) (.int .i64 (k:Nat))=some (.lptr [.int .i64 x.args,cM x.code]):=IU h
theorem r6{k:Nat}{l:List SActor}{x:SActor}(h:l[k]?=some x):au 4 (kz l) (.int .i64 (k:Nat))=some (.lptr [eI x.regs,.int .i64 x.cap,.int .i64 x.timer,.bool x.armed]):=IZ h
theorem Gf{k:Nat}{l:List SNote}{x:SNote}(h:l[k]?=some x):au 3 (kT l) (.int .i64 (k:Nat))=some (.lptr [.int .i64 x.to,.int .i64 x.handler,eI x.args]):=IR h
def je(a:SActor)(l:gI):Bool:=decide (l.regs.length=a.regs.length/\0<=l.down/\l.down<=4/\0<=l.sent/\0<=l.over/\l.sent<=2199023255551/\l.over<=2199023255551/\¬(l.armed=true/\a.timer= -1))
def yX(w:ay)(k:Int):Int:=match w.actors[k.toNat]? with|some l=>l.sent|none=>0
def iH(p:SProg)(w:ay)(m:b6):Bool:=
 decide (jU p m.note=0/\0<=m.id.n/\0<=m.id.copy/\m.id.copy<=w.used.dup/\ -1<=m.id.frm/\m.id.frm<w.actors.length/\(if m.id.frm= -1 then m.id.n<16 else m.id.n<yX w m.id.frm))
def tS(b:SBudget):Bool:=decide (0<=b.drop/\0<=b.dup/\0<=b.time/\0<=b.crash/\b.drop<=1000/\b.dup<=1000/\b.time<=1000/\b.crash<=1000)
def tl(a b:Int):Int:=max (IntKind.i64.wrap (a-b)) 0
def dQ(b:SBudget)(w:ay):SBudget:=⟨tl b.drop w.used.drop,tl b.dup w.used.dup,tl b.time w.used.time,tl b.crash w.used.crash⟩
theorem I0(x y:Int):aY .gtr .i64 x .i64 y=some (.bool (decide (y<x))):=by simp[aY]
theorem IS(x y:Int):aY .leq .i64 x .i64 y=some (.bool (decide (x<=y))):=by simp[aY]
theorem IY(x y:Int):aY .geq .i64 x .i64 y=some (.bool (decide (y<=x))):=by simp[aY]
theorem Ma(x y:Int):aY .neq .i64 x .i64 y=some (.bool (!decide (x=y))):=by by_cases h:x=y<;>simp[aY,h]
theorem wb:type_of%(And.intro wa (And.intro @IE (And.intro @Ma (And.intro @sZ (And.intro @I0 (And.intro @IS (And.intro @IY (And.intro @QZ (And.intro @Ri (And.intro @QF (And.intro @Qy (And.intro @ff (And.intro @tf (And.intro @tt (And.intro @Env.ofArgs_at (And.intro @PK (And.intro @un.eq_1 @un.eq_2))))))))))))))))):=And.intro wa (And.intro @IE (And.intro @Ma (And.intro @sZ (And.intro @I0 (And.intro @IS (And.intro @IY (And.intro @QZ (And.intro @Ri (And.intro @QF (And.intro @Qy (And.intro @ff (And.intro @tf (And.intro @tt (And.intro @Env.ofArgs_at (And.intro @PK (And.intro @un.eq_1 @un.eq_2))))))))))))))))
theorem Hw{m:Nat}(op:Int):ak aI (m+1) 190 [.int .i64 op]=some (.bool (ec op),[]):=by
 refine an (F:=lP) rfl rfl rfl ?_ (.inr rfl);unfold ec;by_cases h1:1<=op<;>by_cases h2:op<=25<;>simp only[wb,↓reduceIte,lP,h1,h2,QE]
theorem FZ{m:Nat}(op:Int):ak aI (m+1) 271 [.int .i64 op]=some (.bool (ec op),[]):=by
 refine an (F:=kc) rfl rfl rfl ?_ (.inr rfl);unfold ec;by_cases h1:1<=op<;>by_cases h2:op<=25<;>simp only[wb,↓reduceIte,kc,h1,h2,QE]
theorem Es{m:Nat}(op:Int):ak aI (m+1) 189 [.int .i64 op]=some (.int .i64 (ch op),[]):=by
 rcases(show op=1∨op=5∨op=6∨op=7∨op=20∨op=21∨op=22∨(op≠1/\op≠5/\op≠6/\op≠7/\op≠20/\op≠21/\op≠22)by omega)with rfl|rfl|rfl|rfl|rfl|rfl|rfl|⟨h1,h2,h3,h4,h5,h6,h7⟩
 iterate 7 (·kernel_rfl)
 refine an (F:=jl) rfl rfl rfl ?_ (.inr rfl);simp only[ch,h1,h2,h3,h4,h5,h6,h7,QA,PS];simp only[wb,↓reduceIte,Nat.reduceEqDiff,jl,h1,h2,h3,h4,h5,h6,h7]
theorem A9{m:Nat}(op:Int):ak aI (m+1) 272 [.int .i64 op]=some (.int .i64 (ch op),[]):=by
 rcases(show op=1∨op=5∨op=6∨op=7∨op=20∨op=21∨op=22∨(op≠1/\op≠5/\op≠6/\op≠7/\op≠20/\op≠21/\op≠22)by omega)with rfl|rfl|rfl|rfl|rfl|rfl|rfl|⟨h1,h2,h3,h4,h5,h6,h7⟩
 iterate 7 (·kernel_rfl)
 refine an (F:=hU) rfl rfl rfl ?_ (.inr rfl);simp only[ch,h1,h2,h3,h4,h5,h6,h7,QA,PS];simp only[wb,↓reduceIte,Nat.reduceEqDiff,hU,h1,h2,h3,h4,h5,h6,h7]
theorem rJ{op:Int}(h:ec op=true):op=1∨op=2∨op=3∨op=4∨op=5∨op=6∨op=7∨op=8∨op=9∨op=10∨op=11∨op=12∨op=13∨op=14∨op=15∨op=16∨op=17∨op=18∨op=19∨op=20∨op=21∨op=22∨op=23∨op=24∨op=25:=by
 have:=Qb h;omega
theorem Jt{m:Nat}(op:Int)(h:ec op=true):ak aI (m+1) 178 [.int .i64 op]=some (.int .i64 (oU op),[]):=by
 rcases rJ h with rfl|rfl|rfl|rfl|rfl|rfl|rfl|rfl|rfl|rfl|rfl|rfl|rfl|rfl|rfl|rfl|rfl|rfl|rfl|rfl|rfl|rfl|rfl|rfl|rfl<;>kernel_rfl
theorem Je{m:Nat}(op:Int)(h:ec op=true):ak aI (m+1) 158 [.int .i64 op]=some (.int .i64 (lq op),[]):=by
 rcases rJ h with rfl|rfl|rfl|rfl|rfl|rfl|rfl|rfl|rfl|rfl|rfl|rfl|rfl|rfl|rfl|rfl|rfl|rfl|rfl|rfl|rfl|rfl|rfl|rfl|rfl<;>kernel_rfl
theorem Ip{m:Nat}(op:Int)(h:ec op=true):ak aI (m+2) 260 [.int .i64 op]=some (.int .i64 (oU op),[]):=by
 rcases rJ h with rfl|rfl|rfl|rfl|rfl|rfl|rfl|rfl|rfl|rfl|rfl|rfl|rfl|rfl|rfl|rfl|rfl|rfl|rfl|rfl|rfl|rfl|rfl|rfl|rfl<;>kernel_rfl
theorem G6{m:Nat}(op:Int)(h:ec op=true):ak aI (m+2) 261 [.int .i64 op]=some (.int .i64 (lq op),[]):=by
 rcases rJ h with rfl|rfl|rfl|rfl|rfl|rfl|rfl|rfl|rfl|rfl|rfl|rfl|rfl|rfl|rfl|rfl|rfl|rfl|rfl|rfl|rfl|rfl|rfl|rfl|rfl<;>kernel_rfl
theorem vI(op:Int):ch op=0∨ch op=1∨ch op=2∨ch op=3∨ch op=4∨ch op=5:=by
 unfold ch
 repeat' split
 all_goals omega
theorem G5{m:Nat}(p:SProg)(h:SHandler)(i:SInstr):ak aI (m+2) 176 [aJ p,cN h,iG i]=some (.int .i64 (eu p.handlers.length h.code.length h.args i),[]):=by
 refine an (F:=cR) rfl rfl rfl ?_ (.inr rfl);have ho:=Es (m:=m) i.op;have hv:=Hw (m:=m) i.op;generalize ak aI (m+1)=C at*;generalize bc aI=V;simp only[aJ,aC,cN,iG,eu];have lc:cB (cM h.code)=some (.int .i64 h.code.length):=jc;have lh:cB (jL p.handlers)=some (.int .i64 p.handlers.length):=bM;have c1:(jL p.handlers).isCell=true:=rfl;have c2:(kz p.actors).isCell=true:=rfl;have c3:(kT p.boot).isCell=true:=rfl;have d1:(jL p.handlers).fits none=true:=rfl;have d2:(kz p.actors).fits none=true:=rfl;have d3:(kT p.boot).fits none=true:=rfl;cases hq:ec i.op with
 |false=>
  rw[hq]at hv;simp only[wb,↓reduceIte,Nat.reduceEqDiff,Nat.reduceAdd,Int.reduceNeg,O7,un,cR,ho,hv,c1,c2,c3,d1,d2,d3]
 |true=>
  rw[hq]at hv;rcases vI i.op with hk|hk|hk|hk|hk|hk<;>rw[hk]at ho⊢
  ·by_cases h1:i.a=0<;>simp only[wb,↓reduceIte,Nat.reduceEqDiff,reduceCtorEq,Nat.reduceAdd,Int.reduceEq,Int.reduceLT,Int.reduceLE,Int.reduceNeg,O7,un,cR,ho,hv,h1,lc,lh,c1,c2,c3,d1,d2,d3,ne_eq,Qg,Qw,QE,QC]
  ·simp only[wb,↓reduceIte,Nat.reduceEqDiff,reduceCtorEq,Nat.reduceAdd,Int.reduceEq,Int.reduceNeg,O7,un,cR,ho,hv,lc,lh,c1,c2,c3,d1,d2,d3,ne_eq,QC]
  ·by_cases h1:i.a<0<;>by_cases h2:8<=i.a<;>simp only[wb,↓reduceIte,Nat.reduceEqDiff,reduceCtorEq,Nat.reduceAdd,Int.reduceEq,Int.reduceNeg,O7,un,cR,ho,hv,h1,h2,lc,lh,c1,c2,c3,d1,d2,d3,ne_eq,QE,QC,QA,QP,QY,Q5,false_or]
  ·by_cases h1:i.a<0<;>by_cases h2:h.args<=i.a<;>simp only[wb,↓reduceIte,Nat.reduceEqDiff,reduceCtorEq,Nat.reduceAdd,Int.reduceEq,Int.reduceNeg,O7,un,cR,ho,hv,h1,h2,lc,lh,c1,c2,c3,d1,d2,d3,ne_eq,QE,QC,QA,QP,QY,Q5,false_or]
  ·by_cases h1:i.a<0<;>by_cases h2:(h.code.length:Int)<i.a<;>simp only[wb,↓reduceIte,Nat.reduceEqDiff,reduceCtorEq,Nat.reduceAdd,Int.reduceEq,Int.reduceNeg,O7,un,cR,ho,hv,h1,h2,lc,lh,c1,c2,c3,d1,d2,d3,ne_eq,QE,QC,QA,QP,Q5,false_or]
  ·by_cases h1:i.a<0<;>by_cases h2:(p.handlers.length:Int)<=i.a<;>simp only[wb,↓reduceIte,Nat.reduceEqDiff,reduceCtorEq,Nat.reduceAdd,Int.reduceEq,Int.reduceNeg,O7,un,cR,ho,hv,h1,h2,lc,lh,c1,c2,c3,d1,d2,d3,ne_eq,QE,QC,QA,QP,QY,Q5,false_or]
theorem t5{C:bK}{V:Nat->List PV->List PV->Bool}{c:X}{BODY K:VC}{vi b:Nat}{X0:Option ti}{α:Type}{l:List α}(f:α->Int)(hn:l.length<1099511627775)(St:Env->Prop)
  (hset:∀env v,St env->St (env.set vi v))
  (hc:∀(k:Nat) env,k<=l.length->St env->env vi=.int .i64 (k:Nat)->c.ev env=some (.bool (decide (k<l.length))))
  (hbody:∀(k:Nat)(x:α) env,l[k]?=some x->x∈l->St env->env vi=.int .i64 (k:Nat)->∃r,aF C V BODY env=some r/\(f x≠0->r=.ret (.int .i64 (f x)) [])/\(f x=0->∃env',r=.norm env'/\St env'/\env' vi=.int .i64 (k:Nat)))
  (hr:bD f l≠0->X0=some (.ret (.int .i64 (bD f l)) []))(hk:bD f l=0->∀e,St e->aF C V K e=X0)
  {env:Env}(h0:St env)(hv:env vi=.int .i64 0):
  aF C V (.seq (.block b (.loop (.seq (FW c b) (.seq BODY (rU vi))))) K) env=X0:=by
 refine we (n:=l.length) hn (λk=>(l[k]?).elim false λx=> !decide (f x=0)) (λk=>(l[k]?).elim .junk λx=>.int .i64 (f x)) (λ_ e=>St e) (λk e v h=>hset e v h) (λk e h1 h2 h3=>hc k e h1 h2 h3) (λk e hk2 hs hv2=>?_) (λk hk2 hp hj=>?_) (λhp e he=>?_) h0 hv
 ·obtain⟨x,hx,hm⟩:=aP hk2;obtain⟨r,h1,h2,h3⟩:=hbody k x e hx hm hs hv2;refine⟨r,h1,?_⟩;by_cases hf:f x=0
  ·simp only[hx,Option.elim,hf,QZ,QF,Ps,PS];obtain⟨e',a,b,c⟩:=h3 hf;exact⟨e',a,b,c⟩
  ·simp only[hx,Option.elim,hf,Ri,Qy,PQ];exact h2 hf
 ·obtain⟨x,hx,hm⟩:=aP hk2;simp only[hx,Option.elim,PC,PD]at hp⊢;have:=sf hx hp λj hj' y hy=>by
   have:=hj j hj';simpa[hy]using this
  rw[hr (by rw[this];exact hp),this]
 ·refine hk (sD λk hk2 x hx=>?_) e he;have:=hp k hk2;simpa[hx]using this
theorem oJ{C:bK}{V:Nat->List PV->List PV->Bool}{c:X}{BODY K:VC}{vi b:Nat}{X0:Option ti}{α:Type}{l:List α}(f:α->Int)(hn:l.length<1099511627775)(St:Env->Prop)
  (hset:∀env v,St env->St (env.set vi v))
  (hc:∀(k:Nat) env,k<=l.length->St env->env vi=.int .i64 (k:Nat)->c.ev env=some (.bool (decide (k<l.length))))
  (hbody:∀(k:Nat)(x:α) env,l[k]?=some x->x∈l->St env->env vi=.int .i64 (k:Nat)->∃r,aF C V BODY env=some r/\(f x≠0->r=.ret (.int .i64 (f x)) [])/\(f x=0->∃env',r=.norm env'/\St env'/\env' vi=.int .i64 (k:Nat)))
  (hr:bD f l≠0->X0=some (.ret (.int .i64 (bD f l)) []))(hk:bD f l=0->∀e,St e->aF C V K e=X0)
  {env:Env}(h0:St env)(hv:env vi=.int .i64 0):
  aF C V (.seq (.block b (.loop (.seq (.st [.asg [c] []]) (.seq (.cond c .skip (.exit b)) (.seq BODY (rU vi)))))) K) env=X0:=by
 have:=t5 (C:=C) (V:=V) (K:=K) (X0:=X0) (b:=b) f hn St hset hc hbody hr hk h0 hv;rw[<-this,aF.eq_def,aF.eq_def C V (.seq _ K)];simp only;rw[Ha]
theorem Gm{m:Nat}(n hs:Nat)(args:Int)(i:SInstr):ak aI (m+2) 259 [iG i,.int .i64 (n:Nat),.int .i64 args,.int .i64 (hs:Nat)]=some (.int .i64 (eu hs n args i),[]):=by
 refine an (F:=bv) rfl rfl rfl ?_ (.inr rfl);have ho:=A9 (m:=m) i.op;have hv:=FZ (m:=m) i.op;generalize ak aI (m+1)=C at*;generalize bc aI=V;simp only[iG,eu];cases hq:ec i.op with
 |false=>
  rw[hq]at hv;simp only[wb,↓reduceIte,Nat.reduceAdd,Int.reduceNeg,O7,un,bv,hv]
 |true=>
  rw[hq]at hv;rcases vI i.op with hk|hk|hk|hk|hk|hk<;>rw[hk]at ho⊢
  ·by_cases h1:i.a=0<;>simp only[wb,↓reduceIte,Nat.reduceEqDiff,reduceCtorEq,Nat.reduceAdd,Int.reduceEq,Int.reduceLT,Int.reduceLE,Int.reduceNeg,O7,un,bv,ho,hv,h1,ne_eq,Qg,Qw,QE,QC]
  ·simp only[wb,↓reduceIte,Nat.reduceEqDiff,reduceCtorEq,Nat.reduceAdd,Int.reduceEq,Int.reduceNeg,O7,un,bv,ho,hv,ne_eq,QC]
  ·by_cases h1:i.a<0<;>by_cases h2:8<=i.a<;>simp only[wb,↓reduceIte,Nat.reduceEqDiff,reduceCtorEq,Nat.reduceAdd,Int.reduceEq,Int.reduceNeg,O7,un,bv,ho,hv,h1,h2,ne_eq,QE,QC,QA,QP,QY,Q5,false_or]
  ·by_cases h1:i.a<0<;>by_cases h2:args<=i.a<;>simp only[wb,↓reduceIte,Nat.reduceEqDiff,reduceCtorEq,Nat.reduceAdd,Int.reduceEq,Int.reduceNeg,O7,un,bv,ho,hv,h1,h2,ne_eq,QE,QC,QA,QP,QY,Q5,false_or]
  ·by_cases h1:i.a<0<;>by_cases h2:(n:Int)<i.a<;>simp only[wb,↓reduceIte,Nat.reduceEqDiff,reduceCtorEq,Nat.reduceAdd,Int.reduceEq,Int.reduceNeg,O7,un,bv,ho,hv,h1,h2,ne_eq,QE,QC,QA,QP,Q5,false_or]
  ·by_cases h1:i.a<0<;>by_cases h2:(hs:Int)<=i.a<;>simp only[wb,↓reduceIte,Nat.reduceEqDiff,reduceCtorEq,Nat.reduceAdd,Int.reduceEq,Int.reduceNeg,O7,un,bv,ho,hv,h1,h2,ne_eq,QE,QC,QA,QP,QY,Q5,false_or]
theorem de(l:List SHandler):(jL l).isCell=true:=rfl
theorem db(l:List SActor):(kz l).isCell=true:=rfl
theorem dh(l:List SNote):(kT l).isCell=true:=rfl
theorem dk(l:List SHandler):(jL l).fits none=true:=rfl
theorem dm(l:List SActor):(kz l).fits none=true:=rfl
theorem dl(l:List SNote):(kT l).fits none=true:=rfl
theorem DM{m:Nat}(p:SProg)(h:SHandler)(hl:h.code.length<1000000000):ak aI (m+3) 151 [aJ p,cN h]=some (.int .i64 (eT p h),[]):=by
 refine an (F:=gW) rfl rfl rfl ?_ (.inr rfl);have hi:=λi=>G5 (m:=m) p h i;generalize ak aI (m+2)=C at*;generalize bc aI=V;have lc:cB (cM h.code)=some (.int .i64 h.code.length):=jc;simp only[aJ,aC,cN,iG]at hi;simp only[aJ,aC,cN,eT,gW,lR];refine nx (by simp only[wb,↓reduceIte,Nat.reduceAdd,O7,de,db,dh,dk,dm,dl];rfl) ?_;by_cases h1:h.args<0
 ·refine ai ?_;simp only[wb,↓reduceIte,Nat.reduceEqDiff,h1,QY]
 by_cases h2:4<h.args
 ·refine ai ?_;simp only[wb,↓reduceIte,Nat.reduceEqDiff,h1,h2,QP]
 by_cases h3:64<h.code.length
 ·refine ai ?_;have h3':(64:Int)<(h.code.length:Int):=by omega
  simp only[wb,↓reduceIte,Nat.reduceEqDiff,h1,h2,h3,h3',lc,QA]
 have h3':¬(64:Int)<(h.code.length:Int):=by omega
 refine nx (by simp only[wb,↓reduceIte,Nat.reduceEqDiff,h1,h2,h3',lc];rfl) ?_;rw[oR];refine nx (by simp only[wb,↓reduceIte,Nat.reduceEqDiff,lc];rfl) ?_;simp only[h1,h2,h3,QA,PS];refine oJ (l:=h.code) (eu p.handlers.length h.code.length h.args) (by omega) (λe=>e 2=.lptr [jL p.handlers,kz p.actors,kT p.boot,.int .i64 p.fuel]/\e 3=.lptr [.int .i64 h.args,cM h.code]/\e 21=cM h.code/\e 22=.int .i64 h.code.length) (λe v h=>by simpa using h)
  (λk e hk hs hv=>by simp only[X.ev,hv,hs.2.2.2,ac,bin,cK]) (λk x e hx hm ⟨s1,s2,s3,s4⟩ hv=>?_) (λhn=>rfl) (λhz e he=>?_) ⟨by simp,by simp,by simp,by simp⟩ (by simp)
 ·have ix:=qM hx;have hi:=hi x;by_cases hz:eu p.handlers.length h.code.length h.args x=0
  ·rw[hz]at hi;refine⟨_,by simp only[wb,↓reduceIte,Nat.reduceEqDiff,Nat.reduceAdd,O7,s1,s2,s3,hv,ix,de,db,dh,dk,dm,dl,hi];rfl,λh=>absurd hz h,λ_=>⟨_,rfl,?_⟩⟩;simp[s1,s2,s3,s4,hv]
  ·refine⟨_,by simp only[wb,↓reduceIte,Nat.reduceEqDiff,Nat.reduceAdd,O7,s1,s2,s3,hv,ix,de,db,dh,dk,dm,dl,hi,hz],λ_=>rfl,λh=>absurd h hz⟩
 ·rw[hz];simp only[wb,↓reduceIte]
theorem pN{p:SProg}{k:Int}(h0:0<=k)(h1:k<p.handlers.length):∃(j:Nat)(h:SHandler),k=(j:Int)/\p.handlers[j]?=some h/\mD p k=h.args:=by
 obtain⟨j,rfl⟩:=QQ h0;obtain⟨h,hh,_⟩:=aP (l:=p.handlers) (k:=j) (by omega);exact⟨j,h,rfl,hh,by simp[mD,hh]⟩
theorem IA{m:Nat}(p:SProg)(a:SActor):ak aI (m+1) 153 [aJ p,iq a]=some (.int .i64 (kO p a),[]):=by
 refine an (F:=kf) rfl rfl rfl ?_ (.inr rfl);generalize ak aI m=C at*;generalize bc aI=V;have lr:cB (eI a.regs)=some (.int .i64 a.regs.length):=dP;have lh:cB (jL p.handlers)=some (.int .i64 p.handlers.length):=bM;simp only[aJ,aC,iq,kO,kf];by_cases h1:8<a.regs.length
 ·have h1':(8:Int)<(a.regs.length:Int):=by omega
  simp only[wb,↓reduceIte,Nat.reduceEqDiff,Nat.reduceAdd,Int.reduceNeg,O7,de,db,dh,dk,dm,dl,lr,h1,h1']
 have h1':¬(8:Int)<(a.regs.length:Int):=by omega
 by_cases h2:a.cap<0
 ·simp only[wb,↓reduceIte,Nat.reduceEqDiff,Nat.reduceAdd,Int.reduceNeg,O7,de,db,dh,dk,dm,dl,lr,h1,h1',h2,QY]
 by_cases h3:16<a.cap
 ·simp only[wb,↓reduceIte,Nat.reduceEqDiff,Nat.reduceAdd,Int.reduceNeg,O7,de,db,dh,dk,dm,dl,lr,h1,h1',h2,h3,QP]
 by_cases h4:a.timer= -1
 ·cases h5:a.armed<;>simp only[wb,↓reduceIte,Nat.reduceEqDiff,Nat.reduceAdd,Int.reduceLT,Int.reduceNeg,O7,de,db,dh,dk,dm,dl,lr,lh,h1,h1',h2,h3,h4,QA,ne_eq,Qg,QC]
 by_cases h6:a.timer<0
 ·simp only[wb,↓reduceIte,Nat.reduceEqDiff,reduceCtorEq,Nat.reduceAdd,Int.reduceNeg,O7,de,db,dh,dk,dm,dl,lr,lh,h1,h1',h2,h3,h4,h6,QA,ne_eq,Qw,QY]
 by_cases h7:(p.handlers.length:Int)<=a.timer
 ·simp only[wb,↓reduceIte,Nat.reduceEqDiff,reduceCtorEq,Nat.reduceAdd,Int.reduceNeg,O7,de,db,dh,dk,dm,dl,lr,lh,h1,h1',h2,h3,h4,h6,h7,QA,QP,QY,ne_eq,Qw]
 obtain⟨j,h,hj,hh,ha⟩:=pN (p:=p) (k:=a.timer) (by omega) (by omega);have ih:=mH hh;rw[hj]at h4 h6 h7 ha;by_cases h8:h.args=0
 ·cases h5:a.armed<;>simp only[wb,↓reduceIte,Nat.reduceEqDiff,Nat.reduceAdd,Int.reduceNeg,O7,de,db,dh,dk,dm,dl,lr,lh,hj,ha,ih,h1,h1',h2,h3,h4,h6,h7,h8,QA,ne_eq,Qg,Qw,QE]
 ·cases h5:a.armed<;>simp only[wb,↓reduceIte,Nat.reduceEqDiff,Nat.reduceAdd,Int.reduceNeg,O7,de,db,dh,dk,dm,dl,lr,lh,hj,ha,ih,h1,h1',h2,h3,h4,h6,h7,h8,QA,QP,ne_eq,Qw]
theorem Gp{m:Nat}(p:SProg)(n:SNote):ak aI (m+1) 155 [aJ p,jX n]=some (.int .i64 (jU p n),[]):=by
 refine an (F:=mo) rfl rfl rfl ?_ (.inr rfl);generalize ak aI m=C at*;generalize bc aI=V;have lr:cB (eI n.args)=some (.int .i64 n.args.length):=dP;have lh:cB (jL p.handlers)=some (.int .i64 p.handlers.length):=bM;have la:cB (kz p.actors)=some (.int .i64 p.actors.length):=dA;simp only[aJ,aC,jX,jU,mo];by_cases h1:n.to<0
 ·simp only[wb,↓reduceIte,Nat.reduceEqDiff,Nat.reduceAdd,O7,de,db,dh,dk,dm,dl,h1,QY]
 by_cases h2:(p.actors.length:Int)<=n.to
 ·simp only[wb,↓reduceIte,Nat.reduceEqDiff,Nat.reduceAdd,O7,de,db,dh,dk,dm,dl,la,h1,h2,QY,QP]
 by_cases h3:n.handler<0
 ·simp only[wb,↓reduceIte,Nat.reduceEqDiff,Nat.reduceAdd,O7,de,db,dh,dk,dm,dl,la,h1,h2,h3,QY,QP]
 by_cases h4:(p.handlers.length:Int)<=n.handler
 ·simp only[wb,↓reduceIte,Nat.reduceEqDiff,Nat.reduceAdd,O7,de,db,dh,dk,dm,dl,la,lh,h1,h2,h3,h4,QP]
 obtain⟨j,h,hj,hh,ha⟩:=pN (p:=p) (k:=n.handler) (by omega) (by omega);have ih:=mH hh;rw[hj]at h3 h4 ha;by_cases h8:(n.args.length:Int)=h.args
 ·simp only[wb,↓reduceIte,Nat.reduceEqDiff,Nat.reduceAdd,O7,de,db,dh,dk,dm,dl,la,lh,lr,hj,ha,ih,h1,h2,h3,h4,h8,QA,ne_eq,Qg]
 ·simp only[wb,↓reduceIte,Nat.reduceEqDiff,Nat.reduceAdd,O7,de,db,dh,dk,dm,dl,la,lh,lr,hj,ha,ih,h1,h2,h3,h4,h8,QA,ne_eq,Qw]
theorem Cp{m:Nat}(p:SProg)(n:SNote):ak aI (m+1) 241 [aJ p,jX n]=some (.int .i64 (jU p n),[]):=by
 refine an (F:=fq) rfl rfl rfl ?_ (.inr rfl);generalize ak aI m=C at*;generalize bc aI=V;have lr:cB (eI n.args)=some (.int .i64 n.args.length):=dP;have lh:cB (jL p.handlers)=some (.int .i64 p.handlers.length):=bM;have la:cB (kz p.actors)=some (.int .i64 p.actors.length):=dA;simp only[aJ,aC,jX,jU,fq];by_cases h1:n.to<0
 ·simp only[wb,↓reduceIte,Nat.reduceEqDiff,reduceCtorEq,Nat.reduceAdd,O7,de,db,dh,dk,dm,dl,h1,QY]
 by_cases h2:(p.actors.length:Int)<=n.to
 ·simp only[wb,↓reduceIte,Nat.reduceEqDiff,reduceCtorEq,Nat.reduceAdd,O7,de,db,dh,dk,dm,dl,la,h1,h2,QY,QP]
 by_cases h3:n.handler<0
 ·simp only[wb,↓reduceIte,Nat.reduceEqDiff,reduceCtorEq,Nat.reduceAdd,O7,de,db,dh,dk,dm,dl,la,h1,h2,h3,QY,QP]
 by_cases h4:(p.handlers.length:Int)<=n.handler
 ·simp only[wb,↓reduceIte,Nat.reduceEqDiff,Nat.reduceAdd,O7,de,db,dh,dk,dm,dl,la,lh,h1,h2,h3,h4,QP]
 obtain⟨j,h,hj,hh,ha⟩:=pN (p:=p) (k:=n.handler) (by omega) (by omega);have ih:=mH hh;rw[hj]at h3 h4 ha;by_cases h8:(n.args.length:Int)=h.args
 ·simp only[wb,↓reduceIte,Nat.reduceEqDiff,Nat.reduceAdd,O7,de,db,dh,dk,dm,dl,la,lh,lr,hj,ha,ih,h1,h2,h3,h4,h8,QA,ne_eq,Qg]
 ·simp only[wb,↓reduceIte,Nat.reduceEqDiff,Nat.reduceAdd,O7,de,db,dh,dk,dm,dl,la,lh,lr,hj,ha,ih,h1,h2,h3,h4,h8,QA,ne_eq,Qw]
theorem GY{m fn:Nat}(p:SProg)(f:SHandler->Int)(l:List SHandler)(hl:l.length<1000000000)(hC:∀x∈l,ak aI m fn [aJ p,cN x]=some (.int .i64 (f x),[]))(hV:∀x,bc aI fn [aJ p,cN x] []=true):
  ak aI (m+1) 150 [aJ p,jL l,.fn fn []]=some (.int .i64 (bD f l),[]):=by
 refine an (F:=dd) rfl rfl rfl ?_ (.inr rfl);generalize ak aI m=C at*;generalize bc aI=V at*;simp only[aJ,aC,cN]at hC hV;simp only[aJ,aC,dd,fm];refine nx (by simp only[wb,↓reduceIte,Nat.reduceAdd,O7,de,db,dh,dk,dm,dl];rfl) ?_;rw[oR];refine nx (by simp only[wb,↓reduceIte,Nat.reduceEqDiff,bM];rfl) ?_;refine oJ (l:=l) f (by omega) (λe=>e 2=.fn fn []/\e 3=.lptr [jL p.handlers,kz p.actors,kT p.boot,.int .i64 p.fuel]/\e 10=jL l/\e 11=.int .i64 l.length) (λe v h=>by simpa using h)
  (λk e hk hs hv=>by simp only[X.ev,hv,hs.2.2.2,ac,bin,cK]) (λk x e hx hm ⟨s1,s2,s3,s4⟩ hv=>?_) (λhn=>rfl) (λhz e he=>?_) ⟨by simp[Env.ofArgs_at],by simp,by simp[],by simp⟩ (by simp)
 ·have ix:=mH hx;have hi:=hC x hm;have hv':=hV x;by_cases hz:f x=0
  ·rw[hz]at hi;refine⟨_,by simp only[wb,↓reduceIte,Nat.reduceEqDiff,Nat.reduceAdd,O7,s1,s2,s3,hv,ix,de,db,dh,dk,dm,dl,hv',PB,hi];rfl,λh=>absurd hz h,λ_=>⟨_,rfl,?_⟩⟩;simp[s1,s2,s3,s4,hv]
  ·refine⟨_,by simp only[wb,↓reduceIte,Nat.reduceEqDiff,Nat.reduceAdd,O7,s1,s2,s3,hv,ix,de,db,dh,dk,dm,dl,hv',PB,hi,hz],λ_=>rfl,λh=>absurd h hz⟩
 ·rw[hz];simp only[wb,↓reduceIte]
theorem HH{m fn:Nat}(p:SProg)(f:SActor->Int)(l:List SActor)(hl:l.length<1000000000)(hC:∀x∈l,ak aI m fn [aJ p,iq x]=some (.int .i64 (f x),[]))(hV:∀x,bc aI fn [aJ p,iq x] []=true):
  ak aI (m+1) 152 [aJ p,kz l,.fn fn []]=some (.int .i64 (bD f l),[]):=by
 refine an (F:=dO) rfl rfl rfl ?_ (.inr rfl);generalize ak aI m=C at*;generalize bc aI=V at*;simp only[aJ,aC,iq]at hC hV;simp only[aJ,aC,dO,gw];refine nx (by simp only[wb,↓reduceIte,Nat.reduceAdd,O7,de,db,dh,dk,dm,dl];rfl) ?_;rw[oR];refine nx (by simp only[wb,↓reduceIte,Nat.reduceEqDiff,dA];rfl) ?_;refine oJ (l:=l) f (by omega) (λe=>e 2=.fn fn []/\e 3=.lptr [jL p.handlers,kz p.actors,kT p.boot,.int .i64 p.fuel]/\e 10=kz l/\e 11=.int .i64 l.length) (λe v h=>by simpa using h)
  (λk e hk hs hv=>by simp only[X.ev,hv,hs.2.2.2,ac,bin,cK]) (λk x e hx hm ⟨s1,s2,s3,s4⟩ hv=>?_) (λhn=>rfl) (λhz e he=>?_) ⟨by simp[Env.ofArgs_at],by simp,by simp[],by simp⟩ (by simp)
 ·have ix:=r6 hx;have hi:=hC x hm;have hv':=hV x;by_cases hz:f x=0
  ·rw[hz]at hi;refine⟨_,by simp only[wb,↓reduceIte,Nat.reduceEqDiff,Nat.reduceAdd,O7,s1,s2,s3,hv,ix,de,db,dh,dk,dm,dl,hv',PB,hi];rfl,λh=>absurd hz h,λ_=>⟨_,rfl,?_⟩⟩;simp[s1,s2,s3,s4,hv]
  ·refine⟨_,by simp only[wb,↓reduceIte,Nat.reduceEqDiff,Nat.reduceAdd,O7,s1,s2,s3,hv,ix,de,db,dh,dk,dm,dl,hv',PB,hi,hz],λ_=>rfl,λh=>absurd h hz⟩
 ·rw[hz];simp only[wb,↓reduceIte]
theorem Ix{m fn:Nat}(p:SProg)(f:SNote->Int)(l:List SNote)(hl:l.length<1000000000)(hC:∀x∈l,ak aI m fn [aJ p,jX x]=some (.int .i64 (f x),[]))(hV:∀x,bc aI fn [aJ p,jX x] []=true):
  ak aI (m+1) 154 [aJ p,kT l,.fn fn []]=some (.int .i64 (bD f l),[]):=by
 refine an (F:=dU) rfl rfl rfl ?_ (.inr rfl);generalize ak aI m=C at*;generalize bc aI=V at*;simp only[aJ,aC,jX]at hC hV;simp only[aJ,aC,dU,gR];refine nx (by simp only[wb,↓reduceIte,Nat.reduceAdd,O7,de,db,dh,dk,dm,dl];rfl) ?_;rw[oR];refine nx (by simp only[wb,↓reduceIte,Nat.reduceEqDiff,i9];rfl) ?_;refine oJ (l:=l) f (by omega) (λe=>e 2=.fn fn []/\e 3=.lptr [jL p.handlers,kz p.actors,kT p.boot,.int .i64 p.fuel]/\e 10=kT l/\e 11=.int .i64 l.length) (λe v h=>by simpa using h)
  (λk e hk hs hv=>by simp only[X.ev,hv,hs.2.2.2,ac,bin,cK]) (λk x e hx hm ⟨s1,s2,s3,s4⟩ hv=>?_) (λhn=>rfl) (λhz e he=>?_) ⟨by simp[Env.ofArgs_at],by simp,by simp[],by simp⟩ (by simp)
 ·have ix:=Gf hx;have hi:=hC x hm;have hv':=hV x;by_cases hz:f x=0
  ·rw[hz]at hi;refine⟨_,by simp only[wb,↓reduceIte,Nat.reduceEqDiff,Nat.reduceAdd,O7,s1,s2,s3,hv,ix,de,db,dh,dk,dm,dl,hv',PB,hi];rfl,λh=>absurd hz h,λ_=>⟨_,rfl,?_⟩⟩;simp[s1,s2,s3,s4,hv]
  ·refine⟨_,by simp only[wb,↓reduceIte,Nat.reduceEqDiff,Nat.reduceAdd,O7,s1,s2,s3,hv,ix,de,db,dh,dk,dm,dl,hv',PB,hi,hz],λ_=>rfl,λh=>absurd h hz⟩
 ·rw[hz];simp only[wb,↓reduceIte]
structure kZ (p:SProg):Prop where
 hs:p.handlers.length<1000000000
 as:p.actors.length<1000000000
 ns:p.boot.length<1000000000
 code:∀h∈p.handlers,h.code.length<1000000000
 regs:∀a∈p.actors,a.regs.length<1000000000
 args:∀n∈p.boot,n.args.length<1000000000
theorem wc:type_of%(And.intro wb (And.intro @de (And.intro @db (And.intro @dh (And.intro @dk (And.intro @dm (And.intro @dl (And.intro @ne_eq.{1} (And.intro @Qg (And.intro @Qw (And.intro @and_self (And.intro @Rc (And.intro @true_and (And.intro @QE (And.intro @QC (And.intro @QA (And.intro @QP (And.intro @QY (And.intro @Q5 @false_or))))))))))))))))))):=And.intro wb (And.intro @de (And.intro @db (And.intro @dh (And.intro @dk (And.intro @dm (And.intro @dl (And.intro @ne_eq.{1} (And.intro @Qg (And.intro @Qw (And.intro @and_self (And.intro @Rc (And.intro @true_and (And.intro @QE (And.intro @QC (And.intro @QA (And.intro @QP (And.intro @QY (And.intro @Q5 @false_or))))))))))))))))))
theorem GZ{m:Nat}(p:SProg)(hp:kZ p):ak aI (m+5) 139 [aJ p]=some (.int .i64 (kU p),[]):=by
 refine an (F:=km) rfl rfl rfl ?_ (.inr rfl);have e1:=GY (m:=m+3) (fn:=151) p (eT p) p.handlers hp.hs (λx hx=>DM (m:=m) p x (hp.code x hx)) (λx=>rfl);have e2:=HH (m:=m+3) (fn:=153) p (kO p) p.actors hp.as (λx hx=>IA (m:=m+2) p x) (λx=>rfl);have e3:=Ix (m:=m+3) (fn:=155) p (jU p) p.boot hp.ns (λx hx=>Gp (m:=m+2) p x) (λx=>rfl);generalize ak aI (m+4)=C at*;generalize bc aI=V;have hm:∀f,JX f (.tup [])=some (.fn f []):=λ_=>rfl;simp only[aJ,aC]at e1 e2 e3;simp only[aJ,aC,kU,km];refine nx (by simp only[wc,↓reduceIte,Nat.reduceAdd,O7];rfl) ?_;have g:∀a b:Nat,((a:Int)<(b:Int))=(a<b):=λa b=>by simp
 by_cases h1:16<p.handlers.length
 ·have h1':(16:Int)<(p.handlers.length:Int):=by omega
  refine ai ?_;simp only[wc,↓reduceIte,bM,h1,h1']
 have h1':¬(16:Int)<(p.handlers.length:Int):=by omega
 by_cases h2:8<p.actors.length
 ·have h2':(8:Int)<(p.actors.length:Int):=by omega
  refine ai ?_;simp only[wc,↓reduceIte,Nat.reduceEqDiff,bM,dA,h1,h1',h2,h2']
 have h2':¬(8:Int)<(p.actors.length:Int):=by omega
 by_cases h3:16<p.boot.length
 ·have h3':(16:Int)<(p.boot.length:Int):=by omega
  refine ai ?_;simp only[wc,↓reduceIte,Nat.reduceEqDiff,bM,dA,i9,h1,h1',h2,h2',h3,h3']
 have h3':¬(16:Int)<(p.boot.length:Int):=by omega
 by_cases h4:p.actors.length=0
 ·have h4':(p.actors.length:Int)=0:=by omega
  rw[Pd (by omega),O9 (by omega)];refine ai ?_;simp only[wc,↓reduceIte,Nat.reduceEqDiff,Int.reduceLT,bM,dA,i9,h1',h3',h4']
 have h4':¬(p.actors.length:Int)=0:=by omega
 by_cases h5:p.fuel<1
 ·refine ai ?_;simp only[wc,↓reduceIte,Nat.reduceEqDiff,bM,dA,i9,h1,h1',h2,h2',h3,h3',h4,h4',h5]
 by_cases h6:256<p.fuel
 ·refine ai ?_;simp only[wc,↓reduceIte,Nat.reduceEqDiff,bM,dA,i9,h1,h1',h2,h2',h3,h3',h4,h4',h5,h6]
 refine nx (by simp only[wc,↓reduceIte,Nat.reduceEqDiff,bM,dA,i9,h1',h2',h3',h4',h5,h6];rfl) ?_;simp only[h1,h2,h3,h4,h5,h6,QA,PS];by_cases h7:bD (eT p) p.handlers=0
 ·refine nx (by simp only[wc,↓reduceIte,Nat.reduceEqDiff,hm,e1,h7];rfl) ?_;by_cases h8:bD (kO p) p.actors=0
  ·refine nx (by simp only[wc,↓reduceIte,Nat.reduceEqDiff,hm,e2,h8];rfl) ?_;simp only[wc,↓reduceIte,Nat.reduceEqDiff,hm,e3,h7,h8]
  ·refine ai ?_;simp only[wc,↓reduceIte,Nat.reduceEqDiff,hm,e2,h7,h8]
 ·refine ai ?_;simp only[wc,↓reduceIte,Nat.reduceEqDiff,hm,e1,h7]
theorem GQ{C:bK}{V:Nat->List PV->List PV->Bool}{c:X}{BODY:VC}{vi b:Nat}{α:Type}{l:List α}(f:α->Int)(hn:l.length<1099511627775)(St:Env->Prop)
  (hset:∀env v,St env->St (env.set vi v))
  (hc:∀(k:Nat) env,k<=l.length->St env->env vi=.int .i64 (k:Nat)->c.ev env=some (.bool (decide (k<l.length))))
  (hbody:∀(k:Nat)(x:α) env,l[k]?=some x->x∈l->St env->env vi=.int .i64 (k:Nat)->∃r,aF C V BODY env=some r/\(f x≠0->r=.ret (.int .i64 (f x)) [])/\(f x=0->∃env',r=.norm env'/\St env'/\env' vi=.int .i64 (k:Nat)))
  {env:Env}(h0:St env)(hv:env vi=.int .i64 0):
  (bD f l≠0/\aF C V (.block b (.loop (.seq (FW c b) (.seq BODY (rU vi))))) env=some (.ret (.int .i64 (bD f l)) []))∨(bD f l=0/\∃e,aF C V (.block b (.loop (.seq (FW c b) (.seq BODY (rU vi))))) env=some (.norm e)/\St e):=by
 obtain⟨r,h1,h2⟩:=xL (C:=C) (V:=V) (b:=b) (n:=l.length) hn (λk=>(l[k]?).elim false λx=> !decide (f x=0)) (λk=>(l[k]?).elim .junk λx=>.int .i64 (f x)) (λ_ e=>St e) (λk e v h=>hset e v h) (λk e h1 h2 h3=>hc k e h1 h2 h3) (λk e hk2 hs hv2=>by
  obtain⟨x,hx,hm⟩:=aP hk2;obtain⟨r,h1,h2,h3⟩:=hbody k x e hx hm hs hv2;refine⟨r,h1,?_⟩;by_cases hf:f x=0
  ·simp only[hx,Option.elim,hf,QZ,QF,Ps,PS];obtain⟨e',a,b,c⟩:=h3 hf;exact⟨e',a,b,c⟩
  ·simp only[hx,Option.elim,hf,Ri,Qy,PQ];exact h2 hf) h0 hv
 rcases h2 with⟨k,a1,a2,a3,rfl⟩|⟨a1,e,rfl,a2⟩
 ·left;obtain⟨x,hx,hm⟩:=aP a1;simp only[hx,Option.elim,PC,PD]at a2;have:=sf hx a2 λj hj' y hy=>by
   have:=a3 j hj';simpa[hy]using this
  simp only[hx,Option.elim]at h1;exact⟨by rw[this];exact a2,by rw[this];exact h1⟩
 ·right;exact⟨sD λk hk2 x hx=>by have:=a1 k hk2;simpa[hx]using this,e,h1,a2⟩
theorem Du(p:SProg):kU p=if 16<p.handlers.length∨8<p.actors.length∨16<p.boot.length then 3 else if p.actors.length=0∨p.fuel<1∨256<p.fuel then 1
 else if bD (eT p) p.handlers≠0 then bD (eT p) p.handlers else if bD (kO p) p.actors≠0 then bD (kO p) p.actors else bD (jU p) p.boot:=rfl
theorem Fk{m:Nat}(p:SProg)(hp:kZ p):ak aI (m+3) 250 [aJ p]=some (.int .i64 (kU p),[]):=by
 refine an (F:=fu) rfl rfl rfl ?_ (.inr rfl);have hi:=λn hs args i=>Gm (m:=m) n hs args i;have hn:=λn=>Cp (m:=m+1) p n;generalize ak aI (m+2)=C at*;generalize bc aI=V;simp only[aJ,aC,iG,jX]at hi hn;simp only[aJ,aC,fu];refine nx (by simp only[wc,↓reduceIte,Nat.reduceAdd,O7];rfl) ?_;have g1:((16:Int)<(p.handlers.length:Int))=(16<p.handlers.length):=by simp;omega
 have g2:((8:Int)<(p.actors.length:Int))=(8<p.actors.length):=by simp;omega
 have g3:((16:Int)<(p.boot.length:Int))=(16<p.boot.length):=by simp;omega
 have g4:((p.actors.length:Int)=0)=(p.actors.length=0):=by simp
 rw[Du];by_cases h1:16<p.handlers.length
 ·rw[O9 (.inl h1)];refine ai ?_;simp only[wc,↓reduceIte,reduceCtorEq,bM,g1,h1]
 by_cases h2:8<p.actors.length
 ·rw[O9 (.inr (.inl h2))];refine ai ?_;simp only[wc,↓reduceIte,reduceCtorEq,bM,dA,g1,g2,h1,h2]
 by_cases h3:16<p.boot.length
 ·rw[O9 (.inr (.inr h3))];refine ai ?_;simp only[wc,↓reduceIte,bM,dA,i9,g1,g2,g3,h1,h2,h3]
 rw[Pd (by omega)];by_cases h4:p.actors.length=0
 ·rw[O9 (.inl h4)];have g4':(p.actors.length:Int)=0:=by omega
  have g2':¬(8:Int)<0:=by omega
  refine ai ?_;simp only[wc,↓reduceIte,reduceCtorEq,bM,dA,i9,g1,g2',g3,g4',h1,h3]
 by_cases h5:p.fuel<1
 ·rw[O9 (.inr (.inl h5))];refine ai ?_;simp only[wc,↓reduceIte,reduceCtorEq,bM,dA,i9,g1,g2,g3,g4,h1,h2,h3,h4,h5]
 by_cases h6:256<p.fuel
 ·rw[O9 (.inr (.inr h6))];refine ai ?_;simp only[wc,↓reduceIte,bM,dA,i9,g1,g2,g3,g4,h1,h2,h3,h4,h5,h6]
 rw[Pd (by omega)];refine nx (by simp only[wc,↓reduceIte,bM,dA,i9,g1,g2,g3,g4,h1,h2,h3,h4,h5,h6];rfl) ?_;rw[oR];refine nx (by simp only[wc,↓reduceIte];rfl) ?_;rw[jV];refine t5 (l:=p.handlers) (eT p) (by have:=hp.hs;omega) (λe=>e 1=.lptr [jL p.handlers,kz p.actors,kT p.boot,.int .i64 p.fuel]) (λe v h=>by simpa using h) (λk e hk hs hv=>by simp only[wc,↓reduceIte,hs,hv,bM,P8])
  (λk h e hx hm s1 hv=>?_) (λhz=>by rw[O9 hz]) (λhz e he=>?_) (by simp) (by simp)
 ·have ih:=mH hx;have lc:cB (cM h.code)=some (.int .i64 h.code.length):=jc;have hcl:=hp.code h hm;have g5:((64:Int)<(h.code.length:Int))=(64<h.code.length):=by simp;omega
  rw[eT];by_cases q1:h.args<0
  ·rw[O9 (.inl q1)];exact⟨_,by simp only[wc,↓reduceIte,reduceCtorEq,Nat.reduceAdd,O7,s1,hv,ih,q1],λ_=>rfl,λh=>by cases h⟩
  by_cases q2:4<h.args
  ·rw[O9 (.inr q2)];exact⟨_,by simp only[wc,↓reduceIte,Nat.reduceAdd,O7,s1,hv,ih,q1,q2],λ_=>rfl,λh=>by cases h⟩
  rw[Pd (by omega)];by_cases q3:64<h.code.length
  ·rw[O9 q3];exact⟨_,by simp only[wc,↓reduceIte,Nat.reduceAdd,O7,s1,hv,ih,q1,q2,lc,g5,q3],λ_=>rfl,λh=>by cases h⟩
  rw[Pd q3];have key:=GQ (C:=C) (V:=V) (b:=3) (vi:=5) (c:=.bin .lss (.v 5) (.len (.ld none (.v 4) 1))) (l:=h.code) (eu p.handlers.length h.code.length h.args) (by omega)
   (λe=>e 1=.lptr [jL p.handlers,kz p.actors,kT p.boot,.int .i64 p.fuel]/\e 3=.int .i64 (k:Nat)/\e 4=.lptr [.int .i64 h.args,cM h.code]) (λe v h=>by simpa using h) (λk e hk hs hv=>by simp only[wc,↓reduceIte,hs.2.2,hv,lc,P8])
   (λk' x e' hx' hm' ⟨t1,t2,t3⟩ hv'=>by
    have ix:=qM hx';have hi:=hi h.code.length p.handlers.length h.args x;refine(?_:∃r,aF C V (.block 4 (.seq (.st [.call [.ld (some 2) (.ia 2 (.ld none (.v 4) 1) (.v 5)) 0,.len (.ld none (.v 4) 1),.len (.ld none (.v 1) 0)] none 87 259 [.ld (some 2) (.ia 2 (.ld none (.v 4) 1) (.v 5)) 0,.len (.ld none (.v 4) 1),.ld none (.v 4) 0,.len (.ld none (.v 1) 0)] [],.asg [] [(6,.v 87)],.asg [.bin .neq (.v 6) (N 0)] []]) (.cond (.bin .neq (.v 6) (N 0)) (.seq (.st [.asg [] [(2,.v 6)]]) (.ret (.v 2) [])) .skip))) e'=some r/\_);by_cases hz:eu p.handlers.length h.code.length h.args x=0
    ·rw[hz]at hi;refine⟨_,by simp only[wc,↓reduceIte,Nat.reduceAdd,O7,t1,t3,hv',ix,lc,bM,hi];rfl,λh=>absurd hz h,λ_=>⟨_,rfl,?_⟩⟩;simp[t1,t2,t3,hv']
    ·exact⟨_,by simp only[wc,↓reduceIte,Nat.reduceAdd,O7,t1,t3,hv',ix,lc,bM,hi,hz],λ_=>rfl,λh=>absurd h hz⟩)
   (env:=(e.set 4 (.lptr [.int .i64 h.args,cM h.code])).set 5 (.int .i64 0)) ⟨by simp[s1],by simp[hv],by simp⟩ (by simp)
  rcases key with⟨k1,k2⟩|⟨k1,e',k2,k3⟩
  ·refine⟨_,aM (nx (by simp only[wc,↓reduceIte,Nat.reduceAdd,O7,s1,hv,ih];rfl) (nx (by simp only[wc,↓reduceIte,q1,q2];rfl) (nx (by simp only[wc,↓reduceIte,lc,g5,q3];rfl) (nx (by simp only[wc,↓reduceIte]) k2)))),λ_=>rfl,λh=>absurd h k1⟩
  ·refine⟨_,bd (nx (by simp only[wc,↓reduceIte,Nat.reduceAdd,O7,s1,hv,ih];rfl) (nx (by simp only[wc,↓reduceIte,q1,q2];rfl) (nx (by simp only[wc,↓reduceIte,lc,g5,q3];rfl) (nx (by simp only[wc,↓reduceIte]) k2)))),λh=>absurd k1 h,λ_=>⟨e',rfl,k3.1,k3.2.1⟩⟩
 rw[Pd (λh=>h hz)];rw[oR];refine nx (by simp only[wc,↓reduceIte];rfl) ?_;rw[jW];refine t5 (l:=p.actors) (kO p) (by have:=hp.as;omega) (λe=>e 1=.lptr [jL p.handlers,kz p.actors,kT p.boot,.int .i64 p.fuel]) (λe v h=>by simpa using h) (λk e hk hs hv=>by simp only[wc,↓reduceIte,hs,hv,dA,P8])
  (λk a e hx hm s1 hv=>?_) (λhz=>by rw[O9 hz]) (λhz e he=>?_) (by simpa using he) (by simp)
 ·have ih:=r6 hx;have lr:cB (eI a.regs)=some (.int .i64 a.regs.length):=dP;have g5:((8:Int)<(a.regs.length:Int))=(8<a.regs.length):=by simp;omega
  rw[kO];by_cases q1:8<a.regs.length
  ·rw[O9 q1];exact⟨_,by simp only[wc,↓reduceIte,Nat.reduceAdd,Int.reduceNeg,O7,s1,hv,ih,lr,g5,q1],λ_=>rfl,λh=>by cases h⟩
  rw[Pd q1];by_cases q2:a.cap<0
  ·rw[O9 (.inl q2)];exact⟨_,by simp only[wc,↓reduceIte,reduceCtorEq,Nat.reduceAdd,Int.reduceNeg,O7,s1,hv,ih,lr,g5,q1,q2],λ_=>rfl,λh=>by cases h⟩
  by_cases q3:16<a.cap
  ·rw[O9 (.inr q3)];exact⟨_,by simp only[wc,↓reduceIte,Nat.reduceAdd,Int.reduceNeg,O7,s1,hv,ih,lr,g5,q1,q2,q3],λ_=>rfl,λh=>by cases h⟩
  rw[Pd (by omega)];by_cases q4:a.timer= -1
  ·rw[Pd (by omega)];cases q5:a.armed
   ·rw[Pd (by simp)];refine⟨_,by simp only[wc,↓reduceIte,Nat.reduceEqDiff,Nat.reduceAdd,Int.reduceLT,Int.reduceNeg,O7,s1,hv,ih,lr,g5,q1,q2,q3,q4,q5];rfl,λh=>absurd rfl h,λ_=>⟨_,rfl,?_⟩⟩;simp[s1,hv]
   ·rw[O9 ⟨rfl,q4⟩];exact⟨_,by simp only[wc,↓reduceIte,Nat.reduceEqDiff,Nat.reduceAdd,Int.reduceLT,Int.reduceNeg,O7,s1,hv,ih,lr,g5,q1,q2,q3,q4,q5],λ_=>rfl,λh=>by cases h⟩
  by_cases q6:a.timer<0
  ·rw[O9 ⟨q4,.inl q6⟩];exact⟨_,by simp only[wc,↓reduceIte,Nat.reduceEqDiff,reduceCtorEq,Nat.reduceAdd,Int.reduceNeg,O7,s1,hv,ih,lr,bM,g5,q1,q2,q3,q4,q6],λ_=>rfl,λh=>by cases h⟩
  by_cases q7:(p.handlers.length:Int)<=a.timer
  ·rw[O9 ⟨q4,.inr (.inl q7)⟩];exact⟨_,by simp only[wc,↓reduceIte,Nat.reduceEqDiff,reduceCtorEq,Nat.reduceAdd,Int.reduceNeg,O7,s1,hv,ih,lr,bM,g5,q1,q2,q3,q4,q6,q7],λ_=>rfl,λh=>by cases h⟩
  obtain⟨j,h,hj,hh,ha⟩:=pN (p:=p) (k:=a.timer) (by omega) (by omega);have ihh:=mH hh;rw[ha];by_cases q8:h.args=0
  ·rw[Pd (by omega),Pd (by omega)];rw[hj]at q4 q6 q7;cases q5:a.armed
   ·refine⟨_,by simp only[wc,↓reduceIte,Nat.reduceEqDiff,Nat.reduceAdd,Int.reduceNeg,O7,s1,hv,ih,hj,ihh,lr,bM,g5,q1,q2,q3,q4,q5,q6,q7,q8];rfl,λh=>absurd rfl h,λ_=>⟨_,rfl,?_⟩⟩;simp[s1,hv]
   ·refine⟨_,by simp only[wc,↓reduceIte,Nat.reduceEqDiff,Nat.reduceAdd,Int.reduceNeg,O7,s1,hv,ih,hj,ihh,lr,bM,g5,q1,q2,q3,q4,q5,q6,q7,q8];rfl,λh=>absurd rfl h,λ_=>⟨_,rfl,?_⟩⟩;simp[s1,hv]
  ·rw[O9 ⟨q4,.inr (.inr q8)⟩];rw[hj]at q4 q6 q7;exact⟨_,by simp only[wc,↓reduceIte,Nat.reduceEqDiff,Nat.reduceAdd,Int.reduceNeg,O7,s1,hv,ih,hj,ihh,lr,bM,g5,q1,q2,q3,q4,q6,q7,q8],λ_=>rfl,λh=>by cases h⟩
 rw[Pd (λh=>h hz)];rw[oR];refine nx (by simp only[wc,↓reduceIte];rfl) ?_;rw[jT];refine t5 (l:=p.boot) (jU p) (by have:=hp.ns;omega) (λe=>e 1=.lptr [jL p.handlers,kz p.actors,kT p.boot,.int .i64 p.fuel]) (λe v h=>by simpa using h) (λk e hk hs hv=>by simp only[wc,↓reduceIte,hs,hv,i9,P8])
  (λk x e hx hm s1 hv=>?_) (λhz=>rfl) (λhz e he=>?_) (by simpa using he) (by simp)
 ·have ih:=Gf hx;have hn:=hn x;by_cases hz:jU p x=0
  ·rw[hz]at hn;refine⟨_,by simp only[wc,↓reduceIte,Nat.reduceAdd,O7,s1,hv,ih,hn];rfl,λh=>absurd hz h,λ_=>⟨_,rfl,?_⟩⟩;simp[s1,hv]
  ·exact⟨_,by simp only[wc,↓reduceIte,Nat.reduceAdd,O7,s1,hv,ih,hn,hz],λ_=>rfl,λh=>absurd h hz⟩
 ·rw[hz];simp only[wc,↓reduceIte]
theorem zW{x y:Int}(h1: -9223372036854775808<=x+y)(h2:x+y<=9223372036854775807):aY .add .i64 x .i64 y=some (.int .i64 (x+y)):=by
 simp only[aY];rw[Pd (by decide),sA h1 h2]
theorem Ck{x y:Int}(h1: -9223372036854775808<=x-y)(h2:x-y<=9223372036854775807):aY .sub .i64 x .i64 y=some (.int .i64 (x-y)):=by
 simp only[aY];rw[Pd (by decide),sA h1 h2]
structure He (p:SProg):Prop where
 hs:p.handlers.length<=16
 as:p.actors.length<=8
 as0:0<p.actors.length
 ns:p.boot.length<=16
 fuel:1<=p.fuel/\p.fuel<=256
 args:∀h∈p.handlers,0<=h.args/\h.args<=4
 code:∀h∈p.handlers,h.code.length<=64
 instr:∀h∈p.handlers,∀i∈h.code,eu p.handlers.length h.code.length h.args i=0
 regs:∀a∈p.actors,a.regs.length<=8
 cap:∀a∈p.actors,0<=a.cap/\a.cap<=16
 timer:∀a∈p.actors,a.timer≠ -1->0<=a.timer/\a.timer<p.handlers.length/\mD p a.timer=0
 armed:∀a∈p.actors,a.armed=true->a.timer≠ -1
 boot:∀n∈p.boot,jU p n=0
theorem OD{p:SProg}(h:kU p=0):He p:=by
 unfold kU at h;split at h
 ·omega
 ·rename_i h1;split at h
  ·omega
  ·rename_i h2;split at h
   ·rename_i h3;exact absurd h h3
   ·rename_i h3;split at h
    ·rename_i h4;exact absurd h h4
    ·rename_i h4;have h3:=jb.1 (Decidable.of_not_not h3);have h4:=jb.1 (Decidable.of_not_not h4);have h5:=jb.1 h;have hh:∀x∈p.handlers,0<=x.args/\x.args<=4/\x.code.length<=64/\bD (eu p.handlers.length x.code.length x.args) x.code=0:=λx hx=>by
      have:=h3 x hx;unfold eT at this;split at this
      ·omega
      ·split at this
       ·omega
       ·exact⟨by omega,by omega,by omega,this⟩
     have ha:∀a∈p.actors,a.regs.length<=8/\(0<=a.cap/\a.cap<=16)/\(a.timer≠ -1->0<=a.timer/\a.timer<p.handlers.length/\mD p a.timer=0)/\(a.armed=true->a.timer≠ -1):=λa ha=>by
      have:=h4 a ha;unfold kO at this;split at this
      ·omega
      ·split at this
       ·omega
       ·split at this
        ·omega
        ·rename_i q1;split at this
         ·omega
         ·rename_i q2;exact⟨by omega,by omega,λht=>by omega,λhb ht=>q2 ⟨hb,ht⟩⟩
     exact⟨by omega,by omega,by omega,by omega,by omega,λx hx=>⟨(hh x hx).1,(hh x hx).2.1⟩,λx hx=>(hh x hx).2.2.1,λx hx=>jb.1 (hh x hx).2.2.2,λa h=>(ha a h).1,λa h=>(ha a h).2.1,λa h=>(ha a h).2.2.1,λa h=>(ha a h).2.2.2,h5⟩
theorem mf{hs n:Nat}{args:Int}{i:SInstr}(h:eu hs n args i=0):ec i.op=true:=by
 cases hv:ec i.op with
 |true=>rfl
 |false=>simp[eu,hv]at h
theorem uO{hs n:Nat}{args:Int}{i:SInstr}(h:eu hs n args i=0)(h2:i.op=22):0<=i.a/\i.a<hs:=by
 unfold eu ch at h;simp[h2,ec]at h;omega
theorem Am{p:SProg}(hp:He p)(i:SInstr):0<=cz p i/\cz p i<=6:=by
 have:=yu i.op;unfold cz;split
 ·have:0<=mD p i.a/\mD p i.a<=4:=by
   unfold mD;split
   ·rename_i h hh;exact hp.args h (Pl hh)
   ·omega
  omega
 ·omega
theorem Hx{m:Nat}(p:SProg)(hp:He p)(i:SInstr)(hv:ec i.op=true)(hs:i.op=22->0<=i.a/\i.a<p.handlers.length):ak aI (m+2) 157 [aJ p,iG i]=some (.int .i64 (cz p i),[]):=by
 refine an (F:=kv) rfl rfl rfl ?_ (.inr rfl);have ho:=Jt (m:=m) i.op hv;generalize ak aI (m+1)=C at*;generalize bc aI=V;simp only[aJ,aC,iG,cz,kv];by_cases h:i.op=22
 ·obtain⟨a0,a1⟩:=hs h;obtain⟨j,x,hj,hx,ha⟩:=pN a0 a1;have ih:=mH hx;have hh:=hp.args x (Pl hx);have hq:=yu i.op;have ad:=zW (x:=oU i.op) (y:=x.args) (by omega) (by omega);rw[O9 h,ha];rw[h]at ho ad;simp only[wc,↓reduceIte,Nat.reduceEqDiff,Nat.reduceAdd,O7,ho,h,hj,ih,ad]
 ·rw[Pd h];simp only[wc,↓reduceIte,Nat.reduceEqDiff,Nat.reduceAdd,O7,ho,h,Int.add_zero]
theorem Kq{m k:Nat}(i:SInstr)(hk:k<1000000)(ha:i.op=20∨i.op=21->0<=i.a):ak aI (m+1) 159 [.int .i64 (k:Nat),iG i]=some (eI ((cu k i).map Int.ofNat),[]):=by
 refine an (F:=lL) rfl rfl rfl ?_ (.inl rfl);generalize ak aI m=C at*;generalize bc aI=V;simp only[iG,cu,lL];have ad:=bV (k:=k) (by omega);by_cases h:i.op=20
 ·have:Int.ofNat i.a.toNat=i.a:=by have:=ha (.inl h);simp;omega
  simp only[wc,↓reduceIte,Nat.reduceEqDiff,Nat.reduceAdd,O7,h,PM,QM,this];rfl
 ·by_cases h1:i.op=21
  ·have:Int.ofNat i.a.toNat=i.a:=by have:=ha (.inr h1);simp;omega
   simp only[wc,↓reduceIte,Nat.reduceEqDiff,reduceCtorEq,Nat.reduceAdd,Int.reduceEq,O7,h1,ad,PM,QM,this];rfl
  ·by_cases h2:i.op=25
   ·simp only[wc,↓reduceIte,Nat.reduceAdd,Int.reduceEq,O7,h2,QM];rfl
   ·simp only[wc,↓reduceIte,reduceCtorEq,Nat.reduceAdd,O7,h,h1,h2,ad,PM,QM];rfl
theorem LB{m n:Nat}(hn:n<=64):ak aI (m+1) 156 [eI [-1],.int .i64 ((n+1:Nat):Int)]=some (eI (List.replicate (n+1) (-1)),[]):=by
 refine Dv (F:=tM) rfl rfl rfl ?_ rfl (.inr ?_)
 ·generalize ak aI m=C;generalize bc aI=V;have i0:=jt (k:=0) (l:=[-1]) (x:= -1) rfl;have l1:cB (eI [-1])=some (.int .i64 1):=rfl;have h1:((n+1:Nat):Int)<=65:=by omega
  have h2:(1:Int)<=((n+1:Nat):Int):=by omega
  rw[show eI (List.replicate (n+1) (-1))=.lst (List.replicate (n+1) (.int .i64 (-1))) false by simp[eI]];have hr:=Aa (C:=C) (V:=V) (env:=Env.ofArgs [eI [-1],.int .i64 ((n+1:Nat):Int)]) (e:=.int .i64 (-1)) (c:=false) (n:=n+1) rfl rfl rfl (by omega);simp only[aO]at hr;simp only[wc,Int.reduceNeg,tM,l1,h1,h2];exact hr
 ·simp[eI,ta]
theorem G1(l:List Int):aO (.lst (l.map λn=>PV.int .i64 n) false)=eI l:=by rw[<-JU l];rfl
theorem GR(l:List Int):lW (l.map λn=>PV.int .i64 n) 1=true:=by cases l<;>rfl
theorem D1{l:List Int}{k:Nat}(h:k<=l.length):gb 1 (eI l) (.int .i64 (k:Nat)) (.tup []) (.tup [])=some (eI (l.drop k)):=by
 rw[<-G1 (l.drop k)];simp[eI,gb,mE,dt,aL,ru,GR,h,List.map_drop];rw[Qv (by simp)]
theorem KA{a:Int}{l:List Int}:gb 1 (eI (a::l)) (.int .i64 1) (.tup []) (.tup [])=some (eI l):=D1 (l:=a::l) (k:=1) (by simp)
theorem OM(b:Bool)(x y z:Int):∃r:Int,BP b [.int .i64 x,.int .i64 y,.int .i64 z]=some (.int .i64 r):=by
 simp only[BP,mP,x7];exact⟨_,rfl⟩
theorem EI{l:List Int}{k:Nat}{x:Int}(h:k<l.length):DR none (eI l) (.int .i64 (k:Nat)) 0 (.int .i64 x)=some (eI (l.set k x)):=by
 have hg:(l.map λn=>PV.int .i64 n)[k]?=some (.int .i64 l[k]):=by simp[Pa h]
 simp only[DR,eI];rw[O9 (by simp;omega)];simp only[Int.toNat_natCast,hg];rw[O9 ⟨rfl,rfl,Pf _⟩];simp[List.map_set,PV.withCells,PV.cells]
theorem Oc{a b:List Int}(h:a.length+b.length<2147483648):nE 1 (eI a) (eI b)=some (eI (a++b)):=by
 simp only[eI,nE];rw[O9 ⟨Ad b,by simp only[PU];exact h⟩,QR]
def LeftI(code:List SInstr)(out:List Int)(left:List Nat):Prop:=∀k∈left,k<=code.length/\∃d,out[k]?=some d/\d≠ -1
theorem LeftI.set{code:List SInstr}{out:List Int}{left:List Nat}{k:Nat}{v:Int}(h:LeftI code out left)(hk:out[k]?=some (-1))(hv:v≠ -1)(hc:k<=code.length):LeftI code (out.set k v) (left++[k]):=λj hj=>by
 have hl:=(List.getElem?_eq_some_iff.1 hk).1;rcases List.mem_append.1 hj with hj|hj
 ·obtain⟨a,d,b,c⟩:=h j hj;refine⟨a,d,?_,c⟩;rw[Qa (λe=>by subst e;rw[hk]at b;cases b;exact c rfl)];exact b
 ·rw[Px]at hj;subst hj;exact⟨hc,v,P5 hl,hv⟩
def o8:PV:=.tup [.lst [] false,.int .i64 0,.bool false]
def yf(p:SProg)(h:SHandler)(at':Nat)(i:SInstr)(d:Int)(M m:Nat)(e:Env):Prop:=
 ∃(t:Nat)(out:List Int)(left:List Nat)(most:Int),t+m=(cu at' i).length/\WalkI p h.code out (λk=>k∈left∨k=at')/\LeftI h.code out left/\2*iU out+left.length<=M/\
  out[at']?=some d/\(∀(s j:Nat),s<t->(cu at' i)[s]?=some j->out[j]?=some (bm p i d))/\
  e 2=.lptr [jL p.handlers,kz p.actors,kT p.boot,.int .i64 p.fuel]/\e 3=.lptr [.int .i64 h.args,cM h.code]/\e 4=eI out/\e 5=.int .i64 most/\e 7=eI (left.map Int.ofNat)/\e 10=.int .i64 (bm p i d)/\
  e 72=eI ((cu at' i).map Int.ofNat)/\e 73=.int .i64 ((cu at' i).length:Nat)/\e 74=.int .i64 (t:Nat)
theorem qQ(k:Nat)(i:SInstr):(cu k i).length<=2:=by
 unfold cu;split
 ·simp
 ·split
  ·simp
  ·split<;>simp
theorem DD{C:bK}{V:Nat->List PV->List PV->Bool}{p:SProg}{h:SHandler}{at':Nat}{i:SInstr}{d:Int}{M m:Nat}(hi:h.code[at']?=some i)(hd1:d≠ -1)(h1:cz p i<=d)(h2:bm p i d<=8)(hin:∀j∈cu at' i,j<=h.code.length)(hM:M<1000000)
  (hm:m<1000){env:Env}(h0:yf p h at' i d M m env):
  (∃e,aF C V (.block 2 (.loop d9)) env=some (.norm e)/\yf p h at' i d M 0 e)∨∃v,aF C V (.block 2 (.loop d9)) env=some (.ret v [])/\v=o8/\¬dw p h.code:=by
 rw[d9,Ha];refine kJ (C:=C) (V:=V) (by omega) (λm e=>yf p h at' i d M m e) (λe=>yf p h at' i d M 0 e) (λv=>v=o8/\¬dw p h.code) (λm e hs=>?_) h0;obtain⟨t,out,left,most,ht,hW,hL,hF,hd,hdone,e2,e3,e4,e5,e7,e10,e72,e73,e74⟩:=hs;have hn0:bm p i d≠ -1:=by have:=pJ i.op;unfold bm;omega
 by_cases htm:m=0
 ·subst htm;refine .inl ⟨e,?_,t,out,left,most,ht,hW,hL,hF,hd,hdone,e2,e3,e4,e5,e7,e10,e72,e73,e74⟩;rw[p7 (n:=(cu at' i).length) (k:=t) (by simp only[wc,e73,e74,P8]),Pd (by omega)]
 refine .inr ⟨e,?_,?_⟩
 ·rw[p7 (n:=(cu at' i).length) (k:=t) (by simp only[wc,e73,e74,P8]),O9 (by omega)]
 obtain⟨j,hj,hjm⟩:=aP (l:=cu at' i) (k:=t) (by omega);have hjn:=hin j hjm;have ij:=jt (k:=t) (l:=(cu at' i).map Int.ofNat) (x:=(j:Int)) (by rw[Pk,hj];rfl);obtain⟨v,hv,_⟩:=aP (l:=out) (k:=j) (by rw[hW.len];omega);have iv:=jt hv;have hjl:=(List.getElem?_eq_some_iff.1 hv).1;have hnl:=qQ at' i;have ad:=bV (k:=t) (by omega);by_cases hv1:v= -1
 ·subst hv1;have up:=EI (l:=out) (k:=j) (x:=bm p i d) hjl;have hg:(out.set j (bm p i d))[j]?=some (bm p i d):=P5 hjl;have iv2:=jt hg;have ap:=Oc (a:=left.map Int.ofNat) (b:=[(j:Int)]) (by simp;omega);have hfr:=xn hv hn0;left;refine⟨_,m-1,by simp only[wc,↓reduceIte,Nat.reduceEqDiff,Int.reduceNeg,e4,e7,e10,e72,e74,ij,iv,up,ap,iv2,ad,NT];rfl,by omega,t+1,out.set j (bm p i d),left++[j],most,by omega,(zV hW hi hd hd1 h1 h2 hjm hv).mono (λk hk=>?_),hL.set hv hn0 hjn,?_,?_,λs j' hs hj'=>?_,?_⟩
  ·rcases hk with(hk|hk)|hk
   ·exact .inl (Pc _ hk)
   ·exact .inr hk
   ·subst hk;exact .inl (O8 _ (by simp))
  ·simp only[Pu,PJ,PT];omega
  ·rw[Qa (λe=>by subst e;rw[hv]at hd;cases hd;exact hd1 rfl)];exact hd
  ·by_cases hs2:s=t
   ·subst hs2;rw[hj]at hj';cases hj';exact hg
   ·have:=hdone s j' (by omega) hj';by_cases e:j=j'
    ·subst e;exact hg
    ·rw[Qa e];exact this
  ·refine⟨by simp[e2],by simp[e3],by simp,by simp[e5],by simp,by simp[e10],by simp[e72],by simp[e73],by simp⟩
 ·by_cases hv2:v=bm p i d
  ·left;refine⟨_,m-1,by simp only[wc,↓reduceIte,Nat.reduceEqDiff,Int.reduceNeg,e4,e10,e72,e74,ij,iv,hv2,hn0,ad];rfl,by omega,t+1,out,left,most,by omega,hW,hL,hF,hd,λs j' hs hj'=>?_,?_⟩
   ·by_cases hs2:s=t
    ·subst hs2;rw[hj]at hj';cases hj';rw[hv,hv2]
    ·exact hdone s j' (by omega) hj'
   ·refine⟨by simp[e2],by simp[e3],by simp[e4],by simp[e5],by simp[e7],by simp[e10],by simp[e72],by simp[e73],by simp⟩
  ·right;exact⟨o8,by simp only[wc,↓reduceIte,Nat.reduceEqDiff,Int.reduceNeg,e4,e10,e72,e74,ij,iv,hv1,hv2,o8],rfl,AP hW hi hd hd1 hjm hv hv1 hv2⟩
theorem zO{C:bK}{V:Nat->List PV->List PV->Bool}{a b:VC}{env e1:Env}{P:Env->Nat->Prop}{Q:PV->Prop}(h:aF C V a env=some (.norm e1))
  (k:(∃e2 m',aF C V b e1=some (.norm e2)/\P e2 m')∨∃v,aF C V b e1=some (.ret v [])/\Q v):(∃e2 m',aF C V (.seq a b) env=some (.norm e2)/\P e2 m')∨∃v,aF C V (.seq a b) env=some (.ret v [])/\Q v:=by
 rcases k with⟨e2,m',k1,k2⟩|⟨v,k1,k2⟩
 ·exact .inl ⟨e2,m',nx h k1,k2⟩
 ·exact .inr ⟨v,nx h k1,k2⟩
theorem J8{C:bK}{V:Nat->List PV->List PV->Bool}{i:Nat}{b:VC}{env:Env}{P:Env->Nat->Prop}{Q:PV->Prop}
  (k:(∃e2 m',aF C V b env=some (.norm e2)/\P e2 m')∨∃v,aF C V b env=some (.ret v [])/\Q v):(∃e2 m',aF C V (.block i b) env=some (.norm e2)/\P e2 m')∨∃v,aF C V (.block i b) env=some (.ret v [])/\Q v:=by
 rcases k with⟨e2,m',k1,k2⟩|⟨v,k1,k2⟩
 ·exact .inl ⟨e2,m',bd k1,k2⟩
 ·exact .inr ⟨v,aM k1,k2⟩
def F5(p:SProg)(h:SHandler)(m:Nat)(e:Env):Prop:=
 ∃(out:List Int)(left:List Nat)(most:Int),WalkI p h.code out (λk=>k∈left)/\LeftI h.code out left/\2*iU out+left.length=m/\
  e 2=.lptr [jL p.handlers,kz p.actors,kT p.boot,.int .i64 p.fuel]/\e 3=.lptr [.int .i64 h.args,cM h.code]/\e 4=eI out/\e 5=.int .i64 most/\e 7=eI (left.map Int.ofNat)
theorem JB{m:Nat}(p:SProg)(hp:He p)(h:SHandler)(hh:h∈p.handlers):∃(out most:PV)(b:Bool),ak aI (m+3) 140 [aJ p,cN h]=some (.tup [out,most,.bool b],[])/\(b=true↔dw p h.code):=by
 suffices hs:∃(out most:PV)(b:Bool),aF (ak aI (m+2)) (bc aI) jH.body (Env.ofArgs [aJ p,cN h])=some (.ret (.tup [out,most,.bool b]) [])/\(b=true↔dw p h.code)by
  obtain⟨out,most,b,h1,h2⟩:=hs;exact⟨out,most,b,an (F:=jH) rfl rfl rfl h1 (.inl rfl),h2⟩
 have hcl:=hp.code h hh;have hin:=hp.instr h hh;have tk:=λi(hi:i∈h.code)=>Hx (m:=m) p hp i (mf (hin i hi)) (uO (hin i hi));have pt:=λi(hi:i∈h.code)=>Je (m:=m+1) i.op (mf (hin i hi));have nx':=λk i(hk:k<1000000) ha=>Kq (m:=m+1) (k:=k) i hk ha;have rp:=LB (m:=m+1) hcl;generalize ak aI (m+2)=C at*;generalize bc aI=V;simp only[aJ,aC,iG]at tk nx';have lc:cB (cM h.code)=some (.int .i64 h.code.length):=jc;have ad:=bV (k:=h.code.length) (by omega);have r0:(List.replicate (h.code.length+1) (-1:Int)).length=h.code.length+1:=by simp
 have i0:au 1 (eI (List.replicate (h.code.length+1) (-1))) (.int .i64 0)=some (.lptr [.int .i64 (-1)]):=jt (k:=0) (by rw[Qd];simp);have u0:DR none (eI (List.replicate (h.code.length+1) (-1))) (.int .i64 0) 0 (.int .i64 0)=some (eI ((List.replicate (h.code.length+1) (-1)).set 0 0)):=EI (k:=0) (by simp);have e1:PV.lst [.int .i64 (-1)] false=eI [-1]:=rfl;simp only[aJ,aC,cN,jH];have key:(∃e,aF C V (.block 0 (.loop gY)) (((((((Env.ofArgs [.agg [jL p.handlers,kz p.actors,kT p.boot,.int .i64 p.fuel],.agg [.int .i64 h.args,cM h.code]]).set 5 (.int .i64 0)).set 3 (.lptr [.int .i64 h.args,cM h.code])).set 2 (.lptr [jL p.handlers,kz p.actors,kT p.boot,.int .i64 p.fuel])).set 18 (eI (List.replicate (h.code.length+1) (-1)))).set 4 (eI (List.replicate (h.code.length+1) (-1)))).set 4 (eI ((List.replicate (h.code.length+1) (-1)).set 0 0))|>.set 7 (eI [0]))=some (.norm e)/\∃(out:List Int)(most:Int),e 4=eI out/\e 5=.int .i64 most/\dw p h.code)∨
   ∃v,aF C V (.block 0 (.loop gY)) (((((((Env.ofArgs [.agg [jL p.handlers,kz p.actors,kT p.boot,.int .i64 p.fuel],.agg [.int .i64 h.args,cM h.code]]).set 5 (.int .i64 0)).set 3 (.lptr [.int .i64 h.args,cM h.code])).set 2 (.lptr [jL p.handlers,kz p.actors,kT p.boot,.int .i64 p.fuel])).set 18 (eI (List.replicate (h.code.length+1) (-1)))).set 4 (eI (List.replicate (h.code.length+1) (-1)))).set 4 (eI ((List.replicate (h.code.length+1) (-1)).set 0 0))|>.set 7 (eI [0]))=some (.ret v [])/\v=o8/\¬dw p h.code:=by
  rw[gY];have hfr:=AS ((List.replicate (h.code.length+1) (-1)).set 0 (0:Int));rw[Rk,r0]at hfr;refine kJ (C:=C) (V:=V) (m:=2*iU ((List.replicate (h.code.length+1) (-1)).set 0 0)+1) (by omega) (λm e=>F5 p h m e/\m<1000) (λe=>∃(out:List Int)(most:Int),e 4=eI out/\e 5=.int .i64 most/\dw p h.code) (λv=>v=o8/\¬dw p h.code) (λm e ⟨hs,hm⟩=>?_) ⟨⟨_,[0],0,(uE p h.code).mono (λk hk=>by simp[hk]),?_,by simp,by simp,by simp,by simp,by simp,by simp⟩,by omega⟩
  ·obtain⟨out,left,most,hW,hL,hF,e2,e3,e4,e5,e7⟩:=hs;have ll:cB (eI (left.map Int.ofNat))=some (.int .i64 left.length):=by rw[dP,PU]
   cases left with
   |nil=>
    left;have g00:((0:Int)<((0:Nat):Int))=False:=by simp
    exact⟨e,by simp only[wc,↓reduceIte,e7,ll,g00],out,most,e4,e5,xy hW (λk _ h=>by simp at h)⟩
   | cons at' left=>
    right;obtain⟨hat,d,hd,hd1⟩:=hL at' (by simp);have g0:(0:Int)<((left.length+1:Nat):Int):=by omega
    have ia:au 1 (eI ((at'::left).map Int.ofNat)) (.int .i64 0)=some (.lptr [.int .i64 (at':Nat)]):=jt (k:=0) rfl;have sl:gb 1 (eI ((at'::left).map Int.ofNat)) (.int .i64 1) (.tup []) (.tup [])=some (eI (left.map Int.ofNat)):=KA;have hL':LeftI h.code out left:=λk hk=>hL k (by simp[hk]);refine⟨e,by simp only[wc,↓reduceIte,e7,ll,g0],?_⟩;by_cases hend:at'=h.code.length
    ·subst hend;left;refine⟨_,2*iU out+left.length,by simp only[wc,↓reduceIte,Nat.reduceEqDiff,e3,e7,ia,sl,lc];rfl,by simp at hF;omega,⟨out,left,most,?_,hL',rfl,by simp[e2],by simp[e3],by simp[e4],by simp[e5],by simp⟩,by simp at hF;omega⟩;refine pL hW (k:=h.code.length) (λj hj=>?_) (λi d' hi _ _=>?_)
     ·rcases List.mem_cons.1 hj with rfl|hj
      ·exact .inr rfl
      ·exact .inl hj
     ·have:=(List.getElem?_eq_some_iff.1 hi).1;omega
    have hend':¬(at':Int)=(h.code.length:Int):=by omega
    obtain⟨i,hi,him⟩:=aP (l:=h.code) (k:=at') (by omega);have tk:=tk i him;have pt:=pt i him;have hii:=hin i him;have nx':=nx' at' i (by omega) (λho=>by
     unfold eu ch at hii;rcases ho with ho|ho<;>simp[ho,ec]at hii<;>omega)
    have ic:=qM hi;have id':=jt hd;have hlow:=hW.low at' d hd;have ht:=Am hp i;have hpp:=pJ i.op;have sb:=Ck (x:=d) (y:=cz p i) (by omega) (by omega);have aa:=zW (x:=d-cz p i) (y:=lq i.op) (by omega) (by omega);have gt:d-cz p i+lq i.op=bm p i d:=rfl;by_cases hlt:d-cz p i<0
    ·right;refine⟨o8,?_,rfl,wu hW hi hd hd1 (λhb=>by omega)⟩;refine aM ?_;refine nx (by simp only[wc,↓reduceIte,Nat.reduceEqDiff,e7,ia,sl];rfl) ?_;refine nx (by simp only[wc,↓reduceIte,Nat.reduceEqDiff,e3,lc,hend'];rfl) ?_;refine nx (by simp only[wc,↓reduceIte,Nat.reduceEqDiff,Nat.reduceAdd,O7,e2,e3,e4,ic,id',tk,sb];rfl) ?_;refine ai ?_;simp only[wc,↓reduceIte,Nat.reduceEqDiff,reduceCtorEq,hlt,o8]
    by_cases hbig:8<d-cz p i+lq i.op
    ·right;refine⟨o8,?_,rfl,wu hW hi hd hd1 (λhb=>by rw[<-gt]at hb;omega)⟩;refine aM ?_;refine nx (by simp only[wc,↓reduceIte,Nat.reduceEqDiff,e7,ia,sl];rfl) ?_;refine nx (by simp only[wc,↓reduceIte,Nat.reduceEqDiff,e3,lc,hend'];rfl) ?_;refine nx (by simp only[wc,↓reduceIte,Nat.reduceEqDiff,Nat.reduceAdd,O7,e2,e3,e4,ic,id',tk,sb];rfl) ?_;refine ai ?_;simp only[wc,↓reduceIte,Nat.reduceEqDiff,O7,hlt,pt,aa,hbig,o8]
    obtain⟨mx,hmx⟩:=OM true most d (bm p i d);have ln:cB (eI ((cu at' i).map Int.ofNat))=some (.int .i64 ((cu at' i).length:Nat)):=by rw[dP,PU]
    have hnl:=qQ at' i;rw[gt]at aa hbig;have start:∀e1:Env,e1 2=.lptr [jL p.handlers,kz p.actors,kT p.boot,.int .i64 p.fuel]->e1 3=.lptr [.int .i64 h.args,cM h.code]->e1 4=eI out->e1 5=.int .i64 mx->e1 7=eI (left.map Int.ofNat)->e1 10=.int .i64 (bm p i d)->e1 72=eI ((cu at' i).map Int.ofNat)->e1 73=.int .i64 ((cu at' i).length:Nat)->e1 74=.int .i64 0->
      (∃e2 m',aF C V (.block 2 (.loop d9)) e1=some (.norm e2)/\m'<m/\F5 p h m' e2/\m'<1000)∨∃v,aF C V (.block 2 (.loop d9)) e1=some (.ret v [])/\v=o8/\¬dw p h.code:=λe1 a2 a3 a4 a5 a7 a10 a72 a73 a74=>by
     rcases DD (C:=C) (V:=V) (p:=p) (h:=h) (at':=at') (i:=i) (d:=d) (M:=2*iU out+left.length) (m:=(cu at' i).length) hi hd1 (by omega) (by omega) (λj hj=>CF hii (by omega) j hj) (by simp at hF;omega) (by omega)
      (env:=e1) ⟨0,out,left,mx,by omega,hW.mono (λk hk=>by rcases List.mem_cons.1 hk with rfl|hk;exact .inr rfl;exact .inl hk),hL',by omega,hd,λs j hs=>by omega,a2,a3,a4,a5,a7,a10,a72,a73,a74⟩with⟨e2',k1,t,out',left',most',k2,k3,k4,k5,k6,k7,b2,b3,b4,b5,b7,_⟩|h
     ·left;refine⟨e2',2*iU out'+left'.length,k1,by simp at hF;omega,⟨out',left',most',pL k3 (k:=at') (λj hj=>hj) (λi' d' hi' hd' hd1'=>?_),k4,rfl,b2,b3,b4,b5,b7⟩,by simp at hF;omega⟩;rw[hi]at hi';cases hi';rw[k6]at hd';cases hd';refine⟨by omega,by omega,λj hj=>?_⟩;obtain⟨s,hs⟩:=QO hj;exact k7 s j (by have:=(List.getElem?_eq_some_iff.1 hs).1;omega) hs
     ·exact .inr h
    refine J8 (zO (by simp only[wc,↓reduceIte,Nat.reduceEqDiff,e7,ia,sl];rfl) (zO (by simp only[wc,↓reduceIte,Nat.reduceEqDiff,e3,lc,hend'];rfl) (zO (by simp only[wc,↓reduceIte,Nat.reduceEqDiff,Nat.reduceAdd,O7,e2,e3,e4,ic,id',tk,sb];rfl) (zO (by simp only[wc,↓reduceIte,Nat.reduceEqDiff,O7,hlt,pt,aa,hbig];rfl) (zO (by simp only[wc,↓reduceIte,Nat.reduceEqDiff,e4,e5,id',pt,aa,hmx,nx',ln];rfl) ?_)))));exact start _ (by simp[e2]) (by simp[e3]) (by simp[e4]) (by simp) (by simp) (by simp) (by simp) (by simp) (by simp)
  ·intro k hk;simp at hk;subst hk;exact⟨Qf _,0,by rw[P5 (by simp)],by omega⟩
 rcases key with⟨e,k1,out,most,k2,k3,k4⟩|⟨v,k1,rfl,k2⟩
 ·refine⟨eI out,.int .i64 most,true,?_,by simp[k4]⟩;refine nx (by simp only[wc,↓reduceIte,Nat.reduceEqDiff,Nat.reduceAdd,Int.reduceNeg,O7,lc,ad,e1,rp,i0,u0];rfl) ?_;rw[oR];refine nx (by simp only[wc,↓reduceIte,Int.reduceNeg,NT];rfl) ?_;refine nx k1 ?_;simp only[wc,↓reduceIte,Nat.reduceEqDiff,k2,k3]
 ·refine⟨.lst [] false,.int .i64 0,false,?_,by simp[k2]⟩;refine nx (by simp only[wc,↓reduceIte,Nat.reduceEqDiff,Nat.reduceAdd,Int.reduceNeg,O7,lc,ad,e1,rp,i0,u0];rfl) ?_;rw[oR];refine nx (by simp only[wc,↓reduceIte,Int.reduceNeg,NT];rfl) ?_;rw[ai k1];rfl
end Gv
namespace Gv
open Go
open Classical in
noncomputable def qa (p:SProg) (h:SHandler):Int:=if dw p h.code then 0 else 5
noncomputable def m7 (p:SProg):Int:=if kU p≠0 then kU p else bD (qa p) p.handlers
theorem J4{m:Nat}(p:SProg)(hp:kZ p):ak aI (m+6) 128 [aJ p]=some (.int .i64 (m7 p),[]):=by
 refine an (F:=kn) rfl rfl rfl ?_ (.inr rfl);have hc:=GZ (m:=m) p hp;have hw:=λ(ok:He p) h hh=>JB (m:=m+2) p ok h hh;generalize ak aI (m+5)=C at*;generalize bc aI=V;simp only[aJ,aC,cN]at hc hw;simp only[aJ,aC,kn,m7];refine nx (by simp only[wc,↓reduceIte,Nat.reduceAdd,O7];rfl) ?_;by_cases h0:kU p=0
 ·refine nx (by simp only[wc,↓reduceIte,hc,h0];rfl) ?_;rw[Pd (by simp[h0])];have ok:=OD h0;rw[oR];refine nx (by simp only[wc,↓reduceIte,Nat.reduceEqDiff,bM];rfl) ?_;rw[n9];refine oJ (l:=p.handlers) (qa p) (by have:=hp.hs;omega) (λe=>e 1=.lptr [jL p.handlers,kz p.actors,kT p.boot,.int .i64 p.fuel]/\e 15=jL p.handlers/\e 16=.int .i64 p.handlers.length) (λe v h=>by simpa using h)
   (λk e hk hs hv=>by simp only[X.ev,hv,hs.2.2,ac,bin,cK]) (λk h e hx hm ⟨s1,s2,s3⟩ hv=>?_) (λhn=>rfl) (λhz e he=>?_) ⟨by simp,by simp,by simp⟩ (by simp)
  ·have ih:=mH hx;obtain⟨out,most,b,w1,w2⟩:=hw ok h hm;cases b with
   |true=>
    have hz:qa p h=0:=by rw[qa,O9 (w2.1 rfl)]
    refine⟨_,by simp only[wc,↓reduceIte,Nat.reduceEqDiff,Nat.reduceAdd,Int.reduceNeg,O7,un,s1,s2,hv,ih,w1];rfl,λh=>absurd hz h,λ_=>⟨_,rfl,?_⟩⟩;simp[s1,s2,s3,hv]
   |false=>
    have hz:qa p h=5:=by rw[qa,Pd (λh=>by have:=w2.2 h;cases this)]
    refine⟨_,by simp only[wc,↓reduceIte,Nat.reduceEqDiff,Nat.reduceAdd,Int.reduceNeg,O7,un,s1,s2,hv,ih,w1,hz],λ_=>rfl,λh=>by rw[hz]at h;cases h⟩
  ·rw[hz];simp only[wc,↓reduceIte]
 ·rw[O9 h0];refine ai ?_;simp only[wc,↓reduceIte,hc,h0]
end Gv
namespace Gv
open Go
def om:PV:=.tup [.lst [] false,.int .i64 (-1),.int .i64 5]
def ue(p:SProg)(code:List SInstr)(at':Nat)(i:SInstr)(d:Int)(F0 m:Nat)(e:Env):Prop:=
 ∃(t:Nat)(out:List Int)(again:Bool)(most:Int),t+m=(cu at' i).length/\WalkI p code out (λk=>again=true∨at'<=k)/\iU out<=F0/\(again=true->iU out<F0)/\
  out[at']?=some d/\(∀(s j:Nat),s<t->(cu at' i)[s]?=some j->out[j]?=some (bm p i d))/\
  e 2=.lptr [jL p.handlers,kz p.actors,kT p.boot,.int .i64 p.fuel]/\e 7=cM code/\e 8=.int .i64 (code.length:Nat)/\e 9=eI out/\e 11=.int .i64 most/\e 12=.bool again/\e 13=.int .i64 (at':Nat)/\e 16=.int .i64 (bm p i d)/\
  e 17=eI ((cu at' i).map Int.ofNat)/\e 18=.int .i64 (t:Nat)
theorem BK{C:bK}{V:Nat->List PV->List PV->Bool}{p:SProg}{code:List SInstr}{at':Nat}{i:SInstr}{d:Int}{F0 m:Nat}(hi:code[at']?=some i)(hd1:d≠ -1)(h1:cz p i<=d)(h2:bm p i d<=8)(hd0:0<=d)(hin:∀j∈cu at' i,j<=code.length)
  (hm:m<1000){env:Env}(h0:ue p code at' i d F0 m env):
  (∃e,aF C V (.block 7 (.loop dG)) env=some (.norm e)/\ue p code at' i d F0 0 e)∨∃v,aF C V (.block 7 (.loop dG)) env=some (.ret v [])/\v=om/\¬dw p code:=by
 rw[dG];refine kJ (C:=C) (V:=V) (by omega) (λm e=>ue p code at' i d F0 m e) (λe=>ue p code at' i d F0 0 e) (λv=>v=om/\¬dw p code) (λm e hs=>?_) h0;obtain⟨t,out,again,most,ht,hW,hF,hF2,hd,hdone,e2,e7,e8,e9,e11,e12,e13,e16,e17,e18⟩:=hs;have hp0:=pJ i.op;have hn0:0<=bm p i d:=by unfold bm;omega
 have ln:cB (eI ((cu at' i).map Int.ofNat))=some (.int .i64 ((cu at' i).length:Nat)):=by rw[dP,PU]
 by_cases htm:m=0
 ·subst htm;have hlt:((t<(cu at' i).length):Prop)=False:=by simp;omega
  refine .inl ⟨e,?_,t,out,again,most,ht,hW,hF,hF2,hd,hdone,e2,e7,e8,e9,e11,e12,e13,e16,e17,e18⟩;simp only[wc,↓reduceIte,e17,e18,ln,P8,hlt]
 have hlt:((t<(cu at' i).length):Prop)=True:=by simp;omega
 refine .inr ⟨e,by simp only[wc,↓reduceIte,e17,e18,ln,P8,hlt],?_⟩;obtain⟨j,hj,hjm⟩:=aP (l:=cu at' i) (k:=t) (by omega);have hjn:=hin j hjm;have ij:=jt (k:=t) (l:=(cu at' i).map Int.ofNat) (x:=(j:Int)) (by rw[Pk,hj];rfl);obtain⟨v,hv,_⟩:=aP (l:=out) (k:=j) (by rw[hW.len];omega);have iv:=jt hv;have hjl:=(List.getElem?_eq_some_iff.1 hv).1;have hnl:=qQ at' i;have ad:=bV (k:=t) (by omega);have hlow:=hW.low j v hv;by_cases hv1:v= -1
 ·subst hv1;have up:=EI (l:=out) (k:=j) (x:=bm p i d) hjl;have hg:(out.set j (bm p i d))[j]?=some (bm p i d):=P5 hjl;have hfr:=xn hv (show bm p i d≠ -1 by omega);left;refine⟨_,m-1,by simp only[wc,↓reduceIte,Nat.reduceEqDiff,Int.reduceLT,Int.reduceLE,Int.reduceNeg,e9,e16,e17,e18,ij,iv,up,ad];rfl,by omega,t+1,out.set j (bm p i d),true,most,by omega,(zV hW hi hd hd1 h1 h2 hjm hv).mono (λk hk=>.inl rfl),by omega,λ_=>by omega,?_,λs j' hs hj'=>?_,?_⟩
  ·rw[Qa (λe=>by subst e;rw[hv]at hd;cases hd;exact hd1 rfl)];exact hd
  ·by_cases hs2:s=t
   ·subst hs2;rw[hj]at hj';cases hj';exact hg
   ·have:=hdone s j' (by omega) hj';by_cases e:j=j'
    ·subst e;exact hg
    ·rw[Qa e];exact this
  ·refine⟨by simp[e2],by simp[e7],by simp[e8],by simp,by simp[e11],by simp,by simp[e13],by simp[e16],by simp[e17],by simp⟩
 ·have hv0:0<=v:=by omega
  have hv3:¬v<0:=by omega
  by_cases hv2:v=bm p i d
  ·left;subst hv2;refine⟨_,m-1,by simp only[wc,↓reduceIte,Int.reduceNeg,e9,e16,e17,e18,ij,iv,hv0,hv3,ad];rfl,by omega,t+1,out,again,most,by omega,hW,hF,hF2,hd,λs j' hs hj'=>?_,?_⟩
   ·by_cases hs2:s=t
    ·subst hs2;rw[hj]at hj';cases hj';exact hv
    ·exact hdone s j' (by omega) hj'
   ·refine⟨by simp[e2],by simp[e7],by simp[e8],by simp[e9],by simp[e11],by simp[e12],by simp[e13],by simp[e16],by simp[e17],by simp⟩
  ·right;exact⟨om,by simp only[wc,↓reduceIte,Nat.reduceEqDiff,Int.reduceNeg,e9,e16,e17,e18,ij,iv,hv0,hv2,om],rfl,AP hW hi hd hd1 hjm hv hv1 hv2⟩
def Au(p:SProg)(code:List SInstr)(F0 m:Nat)(e:Env):Prop:=
 ∃(k:Nat)(out:List Int)(again:Bool)(most:Int),k+m=code.length/\WalkI p code out (λj=>again=true∨k<=j)/\iU out<=F0/\(again=true->iU out<F0)/\
  e 2=.lptr [jL p.handlers,kz p.actors,kT p.boot,.int .i64 p.fuel]/\e 7=cM code/\e 8=.int .i64 (code.length:Nat)/\e 9=eI out/\e 11=.int .i64 most/\e 12=.bool again/\e 13=.int .i64 (k:Nat)
theorem Nt{C:bK}{V:Nat->List PV->List PV->Bool}{env:Env}{k:Nat}{i:SInstr}(ha:i.op=20∨i.op=21->0<=i.a)(hk:k<1000000)(e14:env 14=.lptr [.int .i64 i.op,.int .i64 i.a])(e13:env 13=.int .i64 (k:Nat)):
  aF C V (.seq (.st [.asg [] [(107,(.ld none (.v 14) 0))]]) (.block 6 (.seq (.st [.asg [(.bin .eql (.v 107) (N 20))] []]) (.cond (.bin .eql (.v 107) (N 20)) (.st [.asg [] [(17,(.lst (.cn (.ld none (.v 14) 1) .nl)))]])
   (.seq (.st [.asg [(.bin .eql (.v 107) (N 21))] []]) (.cond (.bin .eql (.v 107) (N 21)) (.st [.asg [] [(17,(.lst (.cn (.ld none (.v 14) 1) (.cn (.bin .add (.v 13) (N 1)) .nl))))]])
   (.seq (.st [.asg [(.bin .eql (.v 107) (N 25))] []]) (.cond (.bin .eql (.v 107) (N 25)) (.st [.asg [] [(17,(.lst .nl))]]) (.st [.asg [] [(17,(.lst (.cn (.bin .add (.v 13) (N 1)) .nl)))]]))))))))) env=
   some (.norm ((env.set 107 (.int .i64 i.op)).set 17 (eI ((cu k i).map Int.ofNat)))):=by
 have ad:=bV (k:=k) (by omega);unfold cu;by_cases h:i.op=20
 ·have:Int.ofNat i.a.toNat=i.a:=by have:=ha (.inl h);simp;omega
  simp only[wc,↓reduceIte,Nat.reduceEqDiff,e14,h,PM,QM,this];rfl
 ·by_cases h1:i.op=21
  ·have:Int.ofNat i.a.toNat=i.a:=by have:=ha (.inr h1);simp;omega
   simp only[wc,↓reduceIte,Nat.reduceEqDiff,Int.reduceEq,e13,e14,h1,ad,PM,QM,this];rfl
  ·by_cases h2:i.op=25
   ·simp only[wc,↓reduceIte,Int.reduceEq,e14,h2,QM];rfl
   ·simp only[wc,↓reduceIte,Nat.reduceEqDiff,e13,e14,h,h1,h2,ad,PM,QM];rfl
theorem FF{m0:Nat}{C:bK}{V:Nat->List PV->List PV->Bool}{p:SProg}(hp:He p){h:SHandler}(hh:h∈p.handlers){F0 m:Nat}
  (pp:∀i∈h.code,C 260 [.int .i64 i.op]=some (.int .i64 (oU i.op),[]))(pt:∀i∈h.code,C 261 [.int .i64 i.op]=some (.int .i64 (lq i.op),[]))
  (hm:m<1000){env:Env}(h0:Au p h.code F0 m env):
  (∃e,aF C V (.block 4 (.loop fH)) env=some (.norm e)/\Au p h.code F0 0 e)∨∃v,aF C V (.block 4 (.loop fH)) env=some (.ret v [])/\v=om/\¬dw p h.code:=by
 have hcl:=hp.code h hh;have hins:=hp.instr h hh;rw[fH];refine kJ (C:=C) (V:=V) (by omega) (λm e=>Au p h.code F0 m e) (λe=>Au p h.code F0 0 e) (λv=>v=om/\¬dw p h.code) (λm e hs=>?_) h0;obtain⟨k,out,again,most,ht,hW,hF,hF2,e2,e7,e8,e9,e11,e12,e13⟩:=hs;by_cases htm:m=0
 ·subst htm;have hlt:((k<h.code.length):Prop)=False:=by simp;omega
  refine .inl ⟨e,?_,k,out,again,most,ht,hW,hF,hF2,e2,e7,e8,e9,e11,e12,e13⟩;simp only[wc,↓reduceIte,e8,e13,P8,hlt]
 have hlt:((k<h.code.length):Prop)=True:=by simp;omega
 refine .inr ⟨e,by simp only[wc,↓reduceIte,e8,e13,P8,hlt],?_⟩;obtain⟨i,hi,him⟩:=aP (l:=h.code) (k:=k) (by omega);obtain⟨d,hd,_⟩:=aP (l:=out) (k:=k) (by rw[hW.len];omega);have id':=jt hd;have ic:=qM hi;have hlow:=hW.low k d hd;have ad:=bV (k:=k) (by omega);have hins:=hins i him;have pp:=pp i him;have pt:=pt i him;by_cases hd1:d= -1
 ·left;subst hd1;refine⟨_,m-1,nx (fD (i:=5) (nJ (by simp only[wc,↓reduceIte,Int.reduceLT,Int.reduceNeg,e9,e13,id'];rfl))) (by simp only[wc,↓reduceIte,e13,ad];rfl),by omega,k+1,out,again,most,by omega,pL hW (k:=k) (λj hj=>?_) (λi' d' hi' hd' hd1'=>?_),hF,hF2,by simp[e2],by simp[e7],by simp[e8],by simp[e9],by simp[e11],by simp[e12],by simp⟩
  ·rcases hj with hj|hj
   ·exact .inl (.inl hj)
   ·by_cases e:j=k
    ·exact .inr e
    ·exact .inl (.inr (by omega))
  ·rw[hd]at hd';cases hd';exact absurd rfl hd1'
 have hd0:0<=d:=by omega
 have hd2:¬d<0:=by omega
 have htk:=Am hp i;have hpn:=yu i.op;have hpp:=pJ i.op;have sb:=Ck (x:=d) (y:=cz p i) (by omega) (by omega);have aa:=zW (x:=d-cz p i) (y:=lq i.op) (by omega) (by omega);have gt:d-cz p i+lq i.op=bm p i d:=rfl;rw[gt]at aa;have tk:∃e1:Env,aF C V (.seq (.st [.asg [(.bin .eql (.ld none (.v 14) 0) (N 22))] []]) (.cond (.bin .eql (.ld none (.v 14) 0) (N 22)) (.st [.asg [] [(15,(.bin .add (.v 15) (.ld none (.fa (.ia 2 (.ld none (.v 2) 0) (.ld none (.v 14) 1)) 0) 0)))]]) .skip)) (((e.set 14 (.lptr [.int .i64 i.op,.int .i64 i.a])).set 66 (.int .i64 (oU i.op))).set 15 (.int .i64 (oU i.op)))=some (.norm e1)/\e1 15=.int .i64 (cz p i)/\e1 14=.lptr [.int .i64 i.op,.int .i64 i.a]/\∀n,n≠14->n≠66->n≠15->e1 n=e n:=by
  unfold cz;by_cases h22:i.op=22
  ·obtain⟨a0,a1⟩:=uO hins h22;obtain⟨j,x,hj,hx,ha⟩:=pN a0 a1;have ih:=mH hx;have hxa:=hp.args x (Pl hx);have ad2:=zW (x:=oU i.op) (y:=x.args) (by omega) (by omega);rw[O9 h22,ha];refine⟨_,by simp only[wc,↓reduceIte,Nat.reduceEqDiff,e2,h22,hj,ih,h22▸ad2];rfl,by simp[h22],by simp[h22,hj],λn a b c=>by simp[a,b,c]⟩
  ·rw[Pd h22];refine⟨_,by simp only[wc,↓reduceIte,Nat.reduceEqDiff,h22];rfl,by simp,by simp,λn a b c=>by simp[a,b,c]⟩
 obtain⟨e1,t1,t2,t3,t4⟩:=tk;have f2:=t4 2 (by omega) (by omega) (by omega);have f7:=t4 7 (by omega) (by omega) (by omega);have f8:=t4 8 (by omega) (by omega) (by omega);have f9:=t4 9 (by omega) (by omega) (by omega);have f11:=t4 11 (by omega) (by omega) (by omega);have f12:=t4 12 (by omega) (by omega) (by omega);have f13:=t4 13 (by omega) (by omega) (by omega);rw[e2]at f2;rw[e7]at f7;rw[e8]at f8;rw[e9]at f9;rw[e11]at f11;rw[e12]at f12;rw[e13]at f13;by_cases hbad:d<cz p i∨8<bm p i d
 ·right;refine⟨om,?_,rfl,wu hW hi hd hd1 (λhb=>by omega)⟩;refine ai (aM (nx (by simp only[wc,↓reduceIte,e9,e13,id',hd2];rfl) (nx (by simp only[wc,↓reduceIte,Nat.reduceAdd,O7,e7,e13,ic,pp]) (nx t1 (nx (by simp only[wc,↓reduceIte,Nat.reduceEqDiff,f9,f13,t2,t3,id',sb,pt,aa];rfl) (ai ?_))))));rcases Int.lt_or_le d (cz p i)with hb|hb
  ·simp only[wc,↓reduceIte,Nat.reduceEqDiff,reduceCtorEq,Int.reduceNeg,f9,f13,t2,id',hb,om]
  ·have hb':¬d<cz p i:=by omega
   have hb2:8<bm p i d:=by omega
   simp only[wc,↓reduceIte,Nat.reduceEqDiff,Int.reduceNeg,f9,f13,t2,id',hb',hb2,om]
 have hb1:¬d<cz p i:=by omega
 have hb2:¬8<bm p i d:=by omega
 obtain⟨mx,hmx⟩:=OM true most d (bm p i d);have start:∀e3:Env,e3 2=.lptr [jL p.handlers,kz p.actors,kT p.boot,.int .i64 p.fuel]->e3 7=cM h.code->e3 8=.int .i64 (h.code.length:Nat)->e3 9=eI out->e3 11=.int .i64 mx->e3 12=.bool again->e3 13=.int .i64 (k:Nat)->e3 16=.int .i64 (bm p i d)->e3 17=eI ((cu k i).map Int.ofNat)->e3 18=.int .i64 0->
   (∃e4,aF C V (.block 7 (.loop dG)) e3=some (.norm e4)/\Au p h.code F0 (m-1) (e4.set 13 (.int .i64 ((k+1:Nat):Int)))/\e4 13=.int .i64 (k:Nat))∨∃v,aF C V (.block 7 (.loop dG)) e3=some (.ret v [])/\v=om/\¬dw p h.code:=λe3 a2 a7 a8 a9 a11 a12 a13 a16 a17 a18=>by
  have hnl:=qQ k i;rcases BK (C:=C) (V:=V) (p:=p) (code:=h.code) (at':=k) (i:=i) (d:=d) (F0:=F0) (m:=(cu k i).length) hi hd1 (by omega) (by omega) hd0 (λj hj=>CF hins (by omega) j hj) (by omega)
   (env:=e3) ⟨0,out,again,mx,by omega,hW,hF,hF2,hd,λs j hs=>by omega,a2,a7,a8,a9,a11,a12,a13,a16,a17,a18⟩with⟨e4,k1,t,out',again',most',k2,k3,k4,k5,k6,k7,b2,b7,b8,b9,b11,b12,b13,_⟩|hf
  ·left;refine⟨e4,k1,⟨k+1,out',again',most',by omega,pL k3 (k:=k) (λj hj=>?_) (λi' d' hi' hd' hd1'=>?_),k4,k5,by simp[b2],by simp[b7],by simp[b8],by simp[b9],by simp[b11],by simp[b12],by simp⟩,b13⟩
   ·rcases hj with hj|hj
    ·exact .inl (.inl hj)
    ·by_cases e:j=k
     ·exact .inr e
     ·exact .inl (.inr (by omega))
   ·rw[hi]at hi';cases hi';rw[k6]at hd';cases hd';refine⟨by omega,by omega,λj hj=>?_⟩;obtain⟨s,hs⟩:=QO hj;exact k7 s j (by have:=(List.getElem?_eq_some_iff.1 hs).1;omega) hs
  ·exact .inr hf
 have hop:i.op=20∨i.op=21->0<=i.a:=λho=>by
  have hins:=hins;unfold eu ch at hins;rcases ho with ho|ho<;>simp[ho,ec]at hins<;>omega
 have nd:=λ(env:Env) a b=>Nt (C:=C) (V:=V) (env:=env) (k:=k) (i:=i) hop (by omega) a b;rcases start ((((((e1.set 87 (.int .i64 (lq i.op))).set 16 (.int .i64 (bm p i d))).set 11 (.int .i64 mx)).set 107 (.int .i64 i.op)).set 17 (eI ((cu k i).map Int.ofNat))).set 18 (.int .i64 0)) (by simp[f2]) (by simp[f7]) (by simp[f8]) (by simp[f9]) (by simp) (by simp[f12]) (by simp[f13]) (by simp) (by simp) (by simp)with⟨e4,k1,k2,k3⟩|⟨v,k1,k2⟩
 ·left;refine⟨_,m-1,nx (bd (i:=5) (nx (by simp only[wc,↓reduceIte,e9,e13,id',hd2];rfl) (nx (by simp only[wc,↓reduceIte,Nat.reduceAdd,O7,e7,e13,ic,pp]) (nx t1 (nx (by simp only[wc,↓reduceIte,Nat.reduceEqDiff,f9,f13,t2,t3,id',sb,pt,aa];rfl) (nx (by simp only[wc,↓reduceIte,Nat.reduceEqDiff,Int.reduceNeg,f9,f13,t2,id',hb1,hb2];rfl) (nx (by simp only[wc,↓reduceIte,Nat.reduceEqDiff,f9,f11,f13,id',hmx];rfl) (nx (nd _ (by simp[t3]) (by simp[f13])) (nx (by simp only[wc,↓reduceIte]) k1))))))))) (by simp only[wc,↓reduceIte,k3,ad]),by omega,k2⟩
 ·right;exact⟨v,ai (aM (nx (by simp only[wc,↓reduceIte,e9,e13,id',hd2];rfl) (nx (by simp only[wc,↓reduceIte,Nat.reduceAdd,O7,e7,e13,ic,pp]) (nx t1 (nx (by simp only[wc,↓reduceIte,Nat.reduceEqDiff,f9,f13,t2,t3,id',sb,pt,aa];rfl) (nx (by simp only[wc,↓reduceIte,Nat.reduceEqDiff,Int.reduceNeg,f9,f13,t2,id',hb1,hb2];rfl) (nx (by simp only[wc,↓reduceIte,Nat.reduceEqDiff,f9,f11,f13,id',hmx];rfl) (nx (nd _ (by simp[t3]) (by simp[f13])) (nx (by simp only[wc,↓reduceIte]) k1))))))))),k2⟩
theorem GX{n j:Nat}(hj:j<n):(List.replicate j (-1:Int)++List.replicate (n-j) 0).set j (-1)=List.replicate (j+1) (-1)++List.replicate (n-(j+1)) 0:=by
 rw[List.set_append_right (h:=by simp),Qz,Nat.sub_self,show n-j=(n-(j+1))+1 by omega,Qj,List.set_cons_zero,List.replicate_succ',P6];rfl
def I8(p:SProg)(code:List SInstr)(m:Nat)(e:Env):Prop:=
 ∃(out:List Int)(again:Bool)(most:Int),WalkI p code out (λj=>again=true∨code.length<=j)/\(again=true->m=iU out+1)/\(again=false->m=0)/\
  e 2=.lptr [jL p.handlers,kz p.actors,kT p.boot,.int .i64 p.fuel]/\e 7=cM code/\e 8=.int .i64 (code.length:Nat)/\e 9=eI out/\e 11=.int .i64 most/\e 12=.bool again
open Classical in
noncomputable def E1 (p:SProg) (code:List SInstr):Int:=if dw p code then 0 else 5
theorem Gi{m:Nat}(p:SProg)(hp:He p)(k:Nat)(h:SHandler)(hk:p.handlers[k]?=some h):∃(l most:PV),ak aI (m+3) 251 [aJ p,.int .i64 (k:Nat)]=some (.tup [l,most,.int .i64 (E1 p h.code)],[]):=by
 suffices hs:∃(l most:PV),aF (ak aI (m+2)) (bc aI) gj.body (Env.ofArgs [aJ p,.int .i64 (k:Nat)])=some (.ret (.tup [l,most,.int .i64 (E1 p h.code)]) [])by
  obtain⟨l,most,h1⟩:=hs;exact⟨l,most,an (F:=gj) rfl rfl rfl h1 (.inl rfl)⟩
 have hh:=Pl hk;have hkl:=(List.getElem?_eq_some_iff.1 hk).1;have hcl:=hp.code h hh;have hin:=hp.instr h hh;have pp:=λi(hi:i∈h.code)=>Ip (m:=m) i.op (mf (hin i hi));have pt:=λi(hi:i∈h.code)=>G6 (m:=m) i.op (mf (hin i hi));generalize ak aI (m+2)=C at*;generalize bc aI=V;have lc:cB (cM h.code)=some (.int .i64 h.code.length):=jc;have ih:=mH hk;have k0:¬(k:Int)<0:=by omega
 have k1:¬(p.handlers.length:Int)<=(k:Int):=by omega
 have ad:=bV (k:=h.code.length) (by omega);have hmk:G8 1 (.int .i64 0) (.int .i64 ((h.code.length+1:Nat):Int))=some (eI (List.replicate (h.code.length+1) 0)):=by
  simp only[G8];rw[O9 ⟨by omega,by simp[bG];omega,rfl,rfl⟩];simp[eI]
 simp only[aJ,aC,gj];have fin:(∃(out:List Int)(most:Int)(e:Env),aF C V (.block 2 (.loop d7))= λ_=>none)∨True:=.inr trivial;clear fin;have loop1:∀e0:Env,e0 2=.lptr [jL p.handlers,kz p.actors,kT p.boot,.int .i64 p.fuel]->e0 7=cM h.code->e0 8=.int .i64 (h.code.length:Nat)->e0 9=eI (List.replicate (h.code.length+1) 0)->e0 10=.int .i64 0->
   ∃e1,aF C V (.block 0 (.loop i5)) e0=some (.norm e1)/\e1 2=.lptr [jL p.handlers,kz p.actors,kT p.boot,.int .i64 p.fuel]/\e1 7=cM h.code/\e1 8=.int .i64 (h.code.length:Nat)/\e1 9=eI (List.replicate (h.code.length+1) (-1)):=λe0 a2 a7 a8 a9 a10=>by
  rw[i5];refine gM (C:=C) (V:=V) (n:=h.code.length+1) (by omega) (λj e=>e 2=.lptr [jL p.handlers,kz p.actors,kT p.boot,.int .i64 p.fuel]/\e 7=cM h.code/\e 8=.int .i64 (h.code.length:Nat)/\e 9=eI (List.replicate j (-1)++List.replicate (h.code.length+1-j) 0)/\e 10=.int .i64 (j:Nat)) _ (λj e hj ⟨b2,b7,b8,b9,b10⟩=>?_) (λe ⟨b2,b7,b8,b9,b10⟩=>?_) ⟨a2,a7,a8,by simpa using a9,a10⟩
  ·have hle:(j:Int)<=(h.code.length:Int):=by omega
   have ij:=jt (k:=j) (l:=List.replicate j (-1)++List.replicate (h.code.length+1-j) 0) (x:=0) (by rw[Pp (by simp),Qz,Nat.sub_self,Qd,O9 (by omega)]);have up:=EI (l:=List.replicate j (-1)++List.replicate (h.code.length+1-j) 0) (k:=j) (x:= -1) (by simp;omega);have ad:=bV (k:=j) (by omega);refine⟨e,_,by simp only[wc,↓reduceIte,b8,b10,hle],by simp only[wc,↓reduceIte,Nat.reduceEqDiff,Int.reduceNeg,b9,b10,ij,up,ad];rfl,by simp[b2],by simp[b7],by simp[b8],?_,by simp⟩;have:=GX (n:=h.code.length+1) (j:=j) hj;simp[this]
  ·have hle:¬((h.code.length+1:Nat):Int)<=(h.code.length:Int):=by omega
   refine⟨e,by simp only[wc,↓reduceIte,b8,b10,hle],b2,b7,b8,?_⟩;rw[b9];simp
 have outer:∀e0:Env,e0 2=.lptr [jL p.handlers,kz p.actors,kT p.boot,.int .i64 p.fuel]->e0 7=cM h.code->e0 8=.int .i64 (h.code.length:Nat)->e0 9=eI ((List.replicate (h.code.length+1) (-1)).set 0 0)->e0 11=.int .i64 0->e0 12=.bool true->
   (∃e,aF C V (.block 2 (.loop d7)) e0=some (.norm e)/\∃(out:List Int)(most:Int),e 9=eI out/\e 11=.int .i64 most/\dw p h.code)∨∃v,aF C V (.block 2 (.loop d7)) e0=some (.ret v [])/\v=om/\¬dw p h.code:=λe0 a2 a7 a8 a9 a11 a12=>by
  rw[d7];have hfr:=AS ((List.replicate (h.code.length+1) (-1)).set 0 (0:Int));rw[Rk,Qz]at hfr;refine kJ (C:=C) (V:=V) (m:=iU ((List.replicate (h.code.length+1) (-1)).set 0 0)+1) (by omega) (λm e=>I8 p h.code m e) (λe=>∃(out:List Int)(most:Int),e 9=eI out/\e 11=.int .i64 most/\dw p h.code) (λv=>v=om/\¬dw p h.code) (λm e hs=>?_)
   ⟨_,true,0,(uE p h.code).mono (λk _=>.inl rfl),λ_=>rfl,(λh=>by cases h),a2,a7,a8,a9,a11,a12⟩
  obtain⟨out,again,most,hW,hm1,hm2,e2,e7,e8,e9,e11,e12⟩:=hs;cases again with
  |false=>
   left;exact⟨e,by simp only[wc,e12],out,most,e9,e11,xy hW λk hk hx=>by rcases hx with hx|hx;cases hx;omega⟩
  | true=>
   right;refine⟨e,by simp only[wc,e12],?_⟩;have hm1:=hm1 rfl;rcases FF (m0:=0) (C:=C) (V:=V) hp hh (F0:=iU out) (m:=h.code.length) pp pt (by omega)
    (env:=((e.set 12 (.bool false)).set 13 (.int .i64 0))) ⟨0,out,false,most,by omega,hW.mono (λk _=>.inr (Qf _)),Pf _,(λh=>by cases h),by simp[e2],by simp[e7],by simp[e8],by simp[e9],by simp[e11],by simp,by simp⟩with⟨e4,k1,k,out',again',most',k2,k3,k4,k5,b2,b7,b8,b9,b11,b12,b13⟩|⟨v,k1,k2⟩
   ·left;refine⟨e4,(if again'=true then iU out'+1 else 0),bd (nx (by simp only[wc,↓reduceIte]) k1),?_,out',again',most',k3.mono (λj hj=>by rcases hj with hj|hj;exact .inl hj;exact .inr (by omega)),λh=>by rw[O9 h],λh=>by rw[h];simp,b2,b7,b8,b9,b11,b12⟩;split
    ·rename_i hb;have:=k5 hb;omega
    ·omega
   ·right;exact⟨v,aM (nx (by simp only[wc,↓reduceIte]) k1),k2⟩
 obtain⟨e1,q1,q2,q7,q8,q9⟩:=loop1 ((((((Env.ofArgs [.agg [jL p.handlers,kz p.actors,kT p.boot,.int .i64 p.fuel],.int .i64 (k:Nat)]).set 2 (.lptr [jL p.handlers,kz p.actors,kT p.boot,.int .i64 p.fuel])).set 7 (cM h.code)).set 8 (.int .i64 (h.code.length:Nat))).set 9 (eI (List.replicate (h.code.length+1) 0))).set 10 (.int .i64 0)) (by simp) (by simp) (by simp) (by simp) (by simp);have i0:au 1 (eI (List.replicate (h.code.length+1) (-1))) (.int .i64 0)=some (.lptr [.int .i64 (-1)]):=jt (k:=0) (by rw[Qd];simp);have u0:DR none (eI (List.replicate (h.code.length+1) (-1))) (.int .i64 0) 0 (.int .i64 0)=some (eI ((List.replicate (h.code.length+1) (-1)).set 0 0)):=EI (k:=0) (by simp);rcases outer (((e1.set 9 (eI ((List.replicate (h.code.length+1) (-1)).set 0 0))).set 11 (.int .i64 0)).set 12 (.bool true)) (by simp[q2]) (by simp[q7]) (by simp[q8]) (by simp) (by simp) (by simp)with⟨e,r1,out,most,r2,r3,r4⟩|⟨v,r1,rfl,r2⟩
 ·refine⟨eI out,.int .i64 most,?_⟩;rw[E1,O9 r4];refine nx (by simp only[wc,↓reduceIte,Nat.reduceAdd,O7];rfl) (nx (by simp only[wc,↓reduceIte,Nat.reduceEqDiff,Int.reduceNeg,bM,k0,k1];rfl) (nx (by simp only[wc,↓reduceIte,Nat.reduceEqDiff,ih,lc,ad,hmk];rfl) ?_));rw[oR];refine nx (by simp only[wc,↓reduceIte]) (nx q1 (nx (by simp only[wc,↓reduceIte,Int.reduceNeg,q9,i0,u0];rfl) ?_));rw[oR];refine nx (by simp only[wc,↓reduceIte,Int.reduceNeg]) (nx r1 ?_);simp only[wc,↓reduceIte,Nat.reduceEqDiff,r2,r3]
 ·refine⟨.lst [] false,.int .i64 (-1),?_⟩;rw[E1,Pd r2];refine nx (by simp only[wc,↓reduceIte,Nat.reduceAdd,O7];rfl) (nx (by simp only[wc,↓reduceIte,Nat.reduceEqDiff,Int.reduceNeg,bM,k0,k1];rfl) (nx (by simp only[wc,↓reduceIte,Nat.reduceEqDiff,ih,lc,ad,hmk];rfl) ?_));rw[oR];refine nx (by simp only[wc,↓reduceIte]) (nx q1 (nx (by simp only[wc,↓reduceIte,Int.reduceNeg,q9,i0,u0];rfl) ?_));rw[oR];refine nx (by simp only[wc,↓reduceIte,Int.reduceNeg]) (ai r1)
theorem Hq{m:Nat}(p:SProg)(hp:kZ p):ak aI (m+4) 240 [aJ p]=some (.int .i64 (m7 p),[]):=by
 refine an (F:=fG) rfl rfl rfl ?_ (.inr rfl);have hc:=Fk (m:=m) p hp;have hw:=λ(ok:He p) k h hk=>Gi (m:=m) p ok k h hk;have hl:=hp.hs;generalize ak aI (m+3)=C at*;generalize bc aI=V;simp only[aJ,aC]at hc hw;simp only[aJ,aC,fG];refine nx (by simp only[wc,↓reduceIte,Nat.reduceAdd,O7,hc];rfl) ?_;rw[oR];refine nx (by simp only[wc,↓reduceIte];rfl) ?_;rw[jY];refine GB (C:=C) (V:=V) (m:=p.handlers.length) (by omega)
  (λm e=>∃(k:Nat)(v:Int),k+m=p.handlers.length/\e 1=.lptr [jL p.handlers,kz p.actors,kT p.boot,.int .i64 p.fuel]/\e 3=.int .i64 v/\e 4=.int .i64 (k:Nat)/\(v=0->kU p=0/\∀j<k,∀x,p.handlers[j]?=some x->qa p x=0)/\(v≠0->v=m7 p))
  (λe=>e 3=.int .i64 (m7 p)) (λ_=>False) (λm e ⟨k,v,hk,e1,e3,e4,hv0,hv1⟩=>?_) ⟨0,kU p,by omega,by simp,by simp,by simp,λh=>⟨h,λj hj=>by omega⟩,λh=>by rw[m7,O9 h]⟩ (λe he=>?_) (λv hv=>hv.elim)
 ·by_cases hv:v=0
  ·obtain⟨h0,hj⟩:=hv0 hv;by_cases hm:m=0
   ·left;have hlt:((k<p.handlers.length):Prop)=False:=by simp;omega
    refine⟨e,by simp only[wc,↓reduceIte,e1,e3,e4,bM,P8,hlt],?_⟩;have:bD (qa p) p.handlers=0:=sD λj hj' x hx=>hj j (by omega) x hx;rw[e3,hv,m7,Pd (by simp[h0]),this]
   ·right;have hlt:((k<p.handlers.length):Prop)=True:=by simp;omega
    refine⟨e,by simp only[wc,↓reduceIte,e1,e3,e4,bM,P8,hlt,hv],.inl ?_⟩;obtain⟨x,hx,hm'⟩:=aP (l:=p.handlers) (k:=k) (by omega);obtain⟨l,most,hw⟩:=hw (OD h0) k x hx;have ad:=bV (k:=k) (by omega);refine⟨_,m-1,by simp only[wc,↓reduceIte,Nat.reduceEqDiff,e1,e4,hw,ad];rfl,by omega,k+1,E1 p x.code,by omega,by simp[e1],by simp,by simp,λhz=>⟨h0,λj hj' y hy=>?_⟩,λhz=>?_⟩
    ·by_cases e:j=k
     ·subst e;rw[hx]at hy;cases hy;exact hz
     ·exact hj j (by omega) y hy
    ·have:=sf (f:=qa p) hx hz λj hj' y hy=>hj j hj' y hy;rw[m7,Pd (by simp[h0]),this];rfl
  ·left;refine⟨e,?_,by rw[e3,hv1 hv]⟩;by_cases hlt:k<p.handlers.length
   ·simp only[wc,↓reduceIte,e1,e3,e4,bM,P8,hlt,hv]
   ·simp only[wc,↓reduceIte,e1,e3,e4,bM,P8,hlt,hv]
 ·simp only[wc,↓reduceIte,he]
end Gv
