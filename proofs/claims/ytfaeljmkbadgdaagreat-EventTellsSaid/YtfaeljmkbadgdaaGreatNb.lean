/- A part of the proof that the law is true of all its inputs, by an interpreter that is proved sound. -/
import Derived.Test.YtfaeljmkbadgdaaGreatNa
namespace Gv
open Go
theorem IW(l:List gI):(dB l).isCell=true:=rfl
theorem IN(l:List b6):(cg l).isCell=true:=rfl
theorem I6(l:List gI):(dB l).fits none=true:=rfl
theorem IJ(l:List b6):(cg l).fits none=true:=rfl
theorem Kj(x y:Int):BP false [.int .i64 x,.int .i64 y]=some (.int .i64 (min x y)):=by
 simp only[BP,mP,x7];by_cases h:y<x<;>simp[h]<;>omega
theorem BQ(x y:Int):BP true [.int .i64 x,.int .i64 y]=some (.int .i64 (max x y)):=by
 simp only[BP,mP,x7];by_cases h:x<y<;>simp[h]<;>omega
theorem wd:type_of%(And.intro wc (And.intro @IW (And.intro @IN (And.intro @I6 @IJ)))):=And.intro wc (And.intro @IW (And.intro @IN (And.intro @I6 @IJ)))
theorem HI{m:Nat}(a:SActor)(l:gI):ak aI (m+1) 161 [iq a,qE l]=some (.bool (je a l),[]):=by
 refine an (F:=jr) rfl rfl rfl ?_ (.inr rfl);generalize ak aI m=C at*;generalize bc aI=V;have la:cB (eI a.regs)=some (.int .i64 a.regs.length):=dP;have ll:cB (eI l.regs)=some (.int .i64 l.regs.length):=dP;simp only[iq,qE,fp,jr];have mn:=Kj l.sent l.over;have mx:=BQ l.sent l.over;by_cases h1:(l.regs.length:Int)=(a.regs.length:Int)
 rotate_left
 ·rw[show je a l=false from Po (λh=>by omega)];simp only[wd,↓reduceIte,Nat.reduceEqDiff,Nat.reduceAdd,Int.reduceNeg,O7,un,la,ll,h1]
 by_cases h2:0<=l.down
 rotate_left
 ·rw[show je a l=false from Po (λh=>by omega)];simp only[wd,↓reduceIte,Nat.reduceEqDiff,Nat.reduceAdd,Int.reduceNeg,O7,un,la,ll,h1,h2]
 by_cases h3:l.down<=4
 rotate_left
 ·rw[show je a l=false from Po (λh=>by omega)];simp only[wd,↓reduceIte,Nat.reduceEqDiff,Nat.reduceAdd,Int.reduceNeg,O7,un,la,ll,h1,h2,h3]
 by_cases h4:0<=min l.sent l.over
 rotate_left
 ·rw[show je a l=false from Po (λh=>by omega)];simp only[wd,↓reduceIte,Nat.reduceEqDiff,Nat.reduceAdd,Int.reduceNeg,O7,un,la,ll,h1,h2,h3,mn,h4]
 by_cases h5:max l.sent l.over<=2199023255551
 rotate_left
 ·rw[show je a l=false from Po (λh=>by omega)];simp only[wd,↓reduceIte,Nat.reduceEqDiff,Nat.reduceAdd,Int.reduceNeg,O7,un,la,ll,h1,h2,h3,mn,h4,mx,h5]
 cases h6:l.armed with
 |false=>
  rw[show je a l=true from PH ⟨by omega,by omega,by omega,by omega,by omega,by omega,by omega,λh=>by rw[h6]at h;cases h.1⟩];simp only[wd,↓reduceIte,Nat.reduceEqDiff,Nat.reduceAdd,Int.reduceNeg,O7,un,la,ll,h1,h2,h3,mn,h4,mx,h5]
 | true=>
  by_cases h7:a.timer= -1
  ·rw[show je a l=false from Po (λh=>h.2.2.2.2.2.2.2 ⟨h6,h7⟩)];simp only[wd,↓reduceIte,Nat.reduceEqDiff,Nat.reduceAdd,Int.reduceNeg,O7,un,la,ll,h1,h2,h3,mn,h4,mx,h5,h7]
  ·rw[show je a l=true from PH ⟨by omega,by omega,by omega,by omega,by omega,by omega,by omega,λh=>h7 h.2⟩];simp only[wd,↓reduceIte,Nat.reduceEqDiff,Nat.reduceAdd,Int.reduceNeg,O7,un,la,ll,h1,h2,h3,mn,h4,mx,h5,h7]
theorem yy{w:ay}{k:Int}(h0:0<=k)(h1:k<w.actors.length):∃(j:Nat)(l:gI),k=(j:Int)/\w.actors[j]?=some l/\yX w k=l.sent:=by
 obtain⟨j,rfl⟩:=QQ h0;obtain⟨l,hh,_⟩:=aP (l:=w.actors) (k:=j) (by omega);exact⟨j,l,rfl,hh,by simp[yX,hh]⟩
theorem Cd{m:Nat}(p:SProg)(w:ay)(x:b6):ak aI (m+2) 164 [aJ p,aX w,pU x]=some (.bool (iH p w x),[]):=by
 refine an (F:=gE) rfl rfl rfl ?_ (.inr rfl);have hn:=Gp (m:=m) p x.note;generalize ak aI (m+1)=C at*;generalize bc aI=V;simp only[aJ,aC,jX]at hn;simp only[aJ,aC,aX,aD,pU,mG,gE];refine nx (by simp only[wd,↓reduceIte,Nat.reduceAdd,O7];rfl) ?_;by_cases h1:jU p x.note=0
 rotate_left
 ·rw[show iH p w x=false from Po (λh=>h1 h.1)];refine ai ?_;simp only[wd,↓reduceIte,Nat.reduceEqDiff,reduceCtorEq,Int.reduceNeg,hn,h1]
 by_cases h2:x.id.n<0
 ·rw[show iH p w x=false from Po (λh=>by omega)];refine ai ?_;simp only[wd,↓reduceIte,Nat.reduceEqDiff,reduceCtorEq,Int.reduceNeg,hn,h1,h2]
 by_cases h3:x.id.copy<0
 ·rw[show iH p w x=false from Po (λh=>by omega)];refine ai ?_;simp only[wd,↓reduceIte,Nat.reduceEqDiff,reduceCtorEq,Int.reduceNeg,hn,h1,h2,h3]
 by_cases h4:w.used.dup<x.id.copy
 ·rw[show iH p w x=false from Po (λh=>by omega)];refine ai ?_;simp only[wd,↓reduceIte,Nat.reduceEqDiff,reduceCtorEq,Int.reduceNeg,hn,h1,h2,h3,h4]
 by_cases h5:x.id.frm< -1
 ·rw[show iH p w x=false from Po (λh=>by omega)];refine ai ?_;simp only[wd,↓reduceIte,Nat.reduceEqDiff,reduceCtorEq,Int.reduceNeg,hn,h1,h2,h3,h4,h5]
 by_cases h6:(w.actors.length:Int)<=x.id.frm
 ·rw[show iH p w x=false from Po (λh=>by omega)];refine ai ?_;simp only[wd,↓reduceIte,Nat.reduceEqDiff,Int.reduceNeg,hn,h1,h2,h3,h4,h5,bw,h6]
 refine nx (by simp only[wd,↓reduceIte,Nat.reduceEqDiff,Int.reduceNeg,hn,h1,h2,h3,h4,h5,bw,h6];rfl) ?_;by_cases h7:x.id.frm= -1
 ·have:iH p w x=decide (x.id.n<16):=by
   unfold iH;apply decide_eq_decide.2;rw[O9 h7];exact⟨λh=>h.2.2.2.2.2.2,λh=>⟨h1,by omega,by omega,by omega,by omega,by omega,h⟩⟩
  rw[this];refine ai ?_;simp only[wd,↓reduceIte,Nat.reduceEqDiff,Int.reduceNeg,h7]
 ·obtain⟨j,l,hj,hl,hs⟩:=yy (w:=w) (k:=x.id.frm) (by omega) (by omega);have il:=oi hl;simp only[fp]at il;have:iH p w x=decide (x.id.n<l.sent):=by
   unfold iH;apply decide_eq_decide.2;rw[Pd h7,hs];exact⟨λh=>h.2.2.2.2.2.2,λh=>⟨h1,by omega,by omega,by omega,by omega,by omega,h⟩⟩
  rw[this];refine nx (by simp only[wd,↓reduceIte,Nat.reduceEqDiff,Int.reduceNeg,h7];rfl) ?_;simp only[wd,↓reduceIte,Nat.reduceEqDiff,hj,il]
theorem Hv{m:Nat}(p:SProg)(w:ay)(x:b6):ak aI (m+3) 163 [pU x,.lptr (AB p),.lptr (aD w)]=some (.bool (!iH p w x),[]):=by
 refine an (F:=iK) rfl rfl rfl ?_ (.inr rfl);have hn:=Cd (m:=m) p w x;generalize ak aI (m+2)=C at*;generalize bc aI=V;simp only[aJ,aC,aX,aD,pU,mG]at hn;simp only[aC,aD,pU,mG,iK];simp only[wd,↓reduceIte,Nat.reduceEqDiff,Nat.reduceAdd,Int.reduceNeg,O7,un,hn]
theorem B6{m fn:Nat}{caps:List PV}{p:b6->Bool}(l:List b6)(hl:l.length<1000000000)(hC:∀x∈l,ak aI m fn (pU x::caps)=some (.bool (p x),[]))(hV:∀x∈l,bc aI fn [pU x] caps=true):
  ak aI (m+2) 162 [cg l,.fn fn caps]=some (.bool (!decide (lk p l<0)),[]):=by
 refine an (F:=aS) rfl rfl rfl ?_ (.inr rfl);have h:=Ge (m:=m) l hl hC hV;generalize ak aI (m+1)=C at*;generalize bc aI=V;have:=MV (lk p l);simp only[aS];simp only[wa,↓reduceIte,Env.ofArgs_at,PK,h,this]
def vX(u:SBudget):Bool:=decide (0<=u.drop/\0<=u.dup/\0<=u.time/\0<=u.crash)
def mq(p:SProg)(w:ay)(k:Nat):Bool:=match p.actors[k]?,w.actors[k]? with|some a,some l=>je a l|_,_=>true
def ut(p:SProg)(w:ay):Bool:=decide (∀k,k<w.actors.length->mq p w k=true)
def fi(p:SProg)(w:ay):Bool:=decide (w.actors.length=p.actors.length)&&(iB w.mail&&(vX w.used&&(ut p w&&w.mail.all (iH p w))))
noncomputable def iu (p:SProg) (w:ay):Bool:=decide (m7 p=0)&&fi p w
structure eW (w:ay):Prop where
 as:w.actors.length<1000000000
 mail:Oq w.mail
 regs:∀a∈w.actors,a.regs.length<1000000000
theorem Dm(a b c d:Int):BP false [.int .i64 a,.int .i64 b,.int .i64 c,.int .i64 d]=some (.int .i64 (min (min (min a b) c) d)):=by
 have key:∀x y:Int,x7 false (.int .i64 x) (.int .i64 y)=some (.int .i64 (min x y)):=λx y=>by
  simp only[x7];by_cases h:y<x<;>simp[h]<;>omega
 simp only[BP,mP,key]
theorem Bg{q:b6->Bool}{l:List b6}:decide (lk (λx=> !q x) l<0)=l.all q:=by
 cases h:l.all q with
 |true=>
  rw[P4]at h;apply PH;rw[sq λk hk x hx=>by rw[h x (Pl hx)];rfl];omega
 | false=>
  apply Po;rw[List.all_eq_false]at h;obtain⟨x,hx,hq⟩:=h;unfold lk;split
  ·omega
  ·rename_i hn;rw[List.findIdx?_eq_none_iff]at hn;have:=hn x hx;simp at this hq;rw[this]at hq;cases hq
theorem vZ{p:SProg}{w:ay}{k:Nat}(hk:k<w.actors.length)(h:mq p w k=false):ut p w=false:=Po λh'=>by rw[h' k hk]at h;cases h
theorem Kf{m:Nat}(p:SProg)(w:ay)(hw:eW w):ak aI (m+6) 145 [aJ p,aX w]=some (.bool (fi p w),[]):=by
 refine an (F:=kw) rfl rfl rfl ?_ (.inr rfl);have so:=EV (m:=m) w.mail hw.mail.1;have lo:=λa l=>HI (m:=m+4) a l;have ct:=B6 (m:=m+3) (fn:=163) (caps:=[.lptr (AB p),.lptr (aD w)]) (p:=λx=> !iH p w x) w.mail hw.mail.1 (λx _=>Hv (m:=m) p w x) (λx _=>rfl);generalize ak aI (m+5)=C at*;generalize bc aI=V;rw[Bg]at ct;have la:=hw.as;have mn:=Dm w.used.drop w.used.dup w.used.time w.used.crash;have hm:JX 163 (.tup [.lptr [jL p.handlers,kz p.actors,kT p.boot,.int .i64 p.fuel],.lptr [dB w.actors,cg w.mail,.int .i64 w.used.drop,.int .i64 w.used.dup,.int .i64 w.used.time,.int .i64 w.used.crash]])=some (.fn 163 [.lptr [jL p.handlers,kz p.actors,kT p.boot,.int .i64 p.fuel],.lptr [dB w.actors,cg w.mail,.int .i64 w.used.drop,.int .i64 w.used.dup,.int .i64 w.used.time,.int .i64 w.used.crash]]):=rfl;simp only[aC,aD]at ct;simp only[iq,qE,fp]at lo;simp only[aJ,aC,aX,aD,kw];refine nx (by simp only[wd,↓reduceIte,Nat.reduceAdd,O7];rfl) ?_;have g1:((w.actors.length:Int)=(p.actors.length:Int))=(w.actors.length=p.actors.length):=by simp;omega
 by_cases h1:w.actors.length=p.actors.length
 rotate_left
 ·rw[show fi p w=false by simp[fi,h1]];refine ai ?_;simp only[wd,↓reduceIte,Nat.reduceEqDiff,reduceCtorEq,Int.reduceNeg,un,bw,dA,g1,h1]
 cases h2:iB w.mail with
 |false=>
  rw[show fi p w=false by simp[fi,h2]];rw[h2]at so;refine ai ?_;simp only[wd,↓reduceIte,Nat.reduceEqDiff,reduceCtorEq,Int.reduceNeg,O7,un,bw,dA,h1,so]
 |true=>
 rw[h2]at so;by_cases h3:min (min (min w.used.drop w.used.dup) w.used.time) w.used.crash<0
 ·have:vX w.used=false:=Po λh=>by omega
  rw[show fi p w=false by simp[fi,this]];refine ai ?_;simp only[wd,↓reduceIte,Nat.reduceEqDiff,Int.reduceNeg,O7,un,bw,dA,h1,so,mn,h3]
 have hu:vX w.used=true:=PH (by omega);refine nx (by simp only[wd,↓reduceIte,Nat.reduceEqDiff,Int.reduceNeg,O7,un,bw,dA,h1,so,mn,h3];rfl) ?_;rw[oR];refine nx (by simp only[wd,↓reduceIte,Nat.reduceEqDiff,bw];rfl) ?_;rw[od];refine zB (n:=w.actors.length) (k0:=0) (by omega) (by omega) (λk=>mq p w k) (.bool false)
  (λk e=>e 2=.lptr [jL p.handlers,kz p.actors,kT p.boot,.int .i64 p.fuel]/\e 3=.lptr [dB w.actors,cg w.mail,.int .i64 w.used.drop,.int .i64 w.used.dup,.int .i64 w.used.time,.int .i64 w.used.crash]/\e 37=dB w.actors/\e 38=.int .i64 w.actors.length/\e 39=.int .i64 (k:Nat))
  (λe=>e 2=.lptr [jL p.handlers,kz p.actors,kT p.boot,.int .i64 p.fuel]/\e 3=.lptr [dB w.actors,cg w.mail,.int .i64 w.used.drop,.int .i64 w.used.dup,.int .i64 w.used.time,.int .i64 w.used.crash])
  (λk e hk hkn hp ⟨e2,e3,e37,e38,e39⟩=>?_) (λk e hk hkn hp ⟨e2,e3,e37,e38,e39⟩=>?_) (λe ⟨e2,e3,e37,e38,e39⟩=>?_) (λa e ⟨e2,e3⟩=>?_) (λk a1 a2 a3=>?_) ⟨by simp,by simp,by simp,by simp,by simp⟩
 ·obtain⟨l,hl,_⟩:=aP hkn;obtain⟨a,ha,_⟩:=aP (l:=p.actors) (k:=k) (by omega);have il:=oi hl;have ia:=r6 ha;have lo:=lo a l;simp only[mq,ha,hl]at hp;rw[hp]at lo;have ad:=bV (k:=k) (by omega);simp only[fp]at il;refine⟨_,_,p7 (n:=w.actors.length) (k:=k) (by simp only[wd,e38,e39,P8])|>.trans (by rw[O9 hkn]),by simp only[wd,↓reduceIte,Nat.reduceEqDiff,Nat.reduceAdd,Int.reduceNeg,O7,un,e2,e37,e39,il,ia,lo,ad];rfl,?_⟩;simp[e2,e3,e37,e38]
 ·obtain⟨l,hl,_⟩:=aP hkn;obtain⟨a,ha,_⟩:=aP (l:=p.actors) (k:=k) (by omega);have il:=oi hl;have ia:=r6 ha;have lo:=lo a l;simp only[mq,ha,hl]at hp;rw[hp]at lo;simp only[fp]at il;exact⟨_,p7 (n:=w.actors.length) (k:=k) (by simp only[wd,e38,e39,P8])|>.trans (by rw[O9 hkn]),by simp only[wd,↓reduceIte,Nat.reduceEqDiff,Nat.reduceAdd,Int.reduceNeg,O7,un,e2,e37,e39,il,ia,lo]⟩
 ·exact⟨_,p7 (n:=w.actors.length) (k:=w.actors.length) (by simp only[wd,e38,e39,P8])|>.trans (by rw[Pd (Nat.lt_irrefl _)]),e2,e3⟩
 ·have hlb:ut p w=true:=PH λk hk=>a k (Qf _) hk;rw[show fi p w=w.mail.all (iH p w)by simp[fi,h1,h2,hu,hlb]];simp only[wd,↓reduceIte,Int.reduceNeg,un,e2,e3,hm,ct,Bool.not_not]
 ·rw[show fi p w=false by simp[fi,vZ a2 a3]]
theorem zP{m:Nat}(p:SProg)(hp:kZ p)(w:ay)(hw:eW w):ak aI (m+7) 132 [aJ p,aX w]=some (.bool (iu p w),[]):=by
 refine an (F:=jg) rfl rfl rfl ?_ (.inr rfl);have fl:=J4 (m:=m) p hp;have ft:=Kf (m:=m) p w hw;generalize ak aI (m+6)=C at*;generalize bc aI=V;simp only[aJ,aC,aX,aD]at fl ft;simp only[aJ,aC,aX,aD,jg,iu];by_cases h:m7 p=0
 ·simp only[wd,↓reduceIte,Nat.reduceEqDiff,Nat.reduceAdd,O7,fl,h,ft]
 ·simp only[wd,↓reduceIte,Nat.reduceEqDiff,Nat.reduceAdd,O7,fl,h]
theorem A6{q:b6->Bool}{l:List b6}{k:Nat}{x:b6}(hx:l[k]?=some x)(h:q x=false):l.all q=false:=by
 rw[List.all_eq_false];exact⟨x,Pl hx,by simp[h]⟩
theorem xb{m:Nat}(p:SProg)(hp:kZ p)(w:ay)(hw:eW w):ak aI (m+5) 226 [aJ p,aX w]=some (.bool (iu p w),[]):=by
 refine an (F:=eM) rfl rfl rfl ?_ (.inr rfl);have fl:=Hq (m:=m) p hp;have so:=DP (m:=m+2) w.mail hw.mail.1;have nt:=λn=>Cp (m:=m+3) p n;generalize ak aI (m+4)=C at*;generalize bc aI=V;have la:=hw.as;have lm:=hw.mail.1;have lmm:cB (cg w.mail)=some (.int .i64 w.mail.length):=pa;simp only[aJ,aC,jX]at fl nt;simp only[aJ,aC,aX,aD,eM,iu];refine nx (by simp only[wd,↓reduceIte,Nat.reduceAdd,O7];rfl) ?_;have g1:((w.actors.length:Int)=(p.actors.length:Int))=(w.actors.length=p.actors.length):=by simp;omega
 by_cases h0:m7 p=0
 rotate_left
 ·refine ai ?_;simp only[wd,↓reduceIte,Nat.reduceEqDiff,reduceCtorEq,Int.reduceNeg,un,fl,h0]
 by_cases h1:w.actors.length=p.actors.length
 rotate_left
 ·rw[show fi p w=false by simp[fi,h1]];refine ai ?_;simp only[wd,↓reduceIte,Nat.reduceEqDiff,reduceCtorEq,Int.reduceNeg,un,fl,h0,bw,dA,g1,h1,Q4]
 cases h2:iB w.mail with
 |false=>
  rw[show fi p w=false by simp[fi,h2]];rw[h2]at so;refine ai ?_;simp only[wd,↓reduceIte,Nat.reduceEqDiff,Int.reduceNeg,O7,un,fl,h0,bw,dA,h1,so,Q4]
 |true=>
 rw[h2]at so;refine nx (by simp only[wd,↓reduceIte,Nat.reduceEqDiff,Int.reduceNeg,O7,un,fl,h0,bw,dA,h1,so];rfl) ?_;rw[oR];refine nx (by simp only[wd,↓reduceIte];rfl) ?_;rw[ju];simp only[h0,QZ,PY];refine pk (n:=w.actors.length) (k0:=0) (by omega) (by omega) (λk=>mq p w k) (.bool false)
  (λk e=>e 2=.lptr [jL p.handlers,kz p.actors,kT p.boot,.int .i64 p.fuel]/\e 3=.lptr [dB w.actors,cg w.mail,.int .i64 w.used.drop,.int .i64 w.used.dup,.int .i64 w.used.time,.int .i64 w.used.crash]/\e 5=.int .i64 (k:Nat))
  (λe=>e 2=.lptr [jL p.handlers,kz p.actors,kT p.boot,.int .i64 p.fuel]/\e 3=.lptr [dB w.actors,cg w.mail,.int .i64 w.used.drop,.int .i64 w.used.dup,.int .i64 w.used.time,.int .i64 w.used.crash])
  (λk e hk hkn hp ⟨e2,e3,e5⟩=>?_) (λk e hk hkn hp ⟨e2,e3,e5⟩=>?_) (λe ⟨e2,e3,e5⟩=>?_) (λa e ⟨e2,e3⟩=>?_) (λk a1 a2 a3=>?_) ⟨by simp,by simp,by simp⟩
 ·obtain⟨l,hl,_⟩:=aP hkn;obtain⟨a,ha,_⟩:=aP (l:=p.actors) (k:=k) (by omega);have il:=oi hl;have ia:=r6 ha;simp only[mq,ha,hl]at hp;have hp:=Qb hp;have lr:cB (eI l.regs)=some (.int .i64 l.regs.length):=dP;have ar:cB (eI a.regs)=some (.int .i64 a.regs.length):=dP;have ad:=bV (k:=k) (by omega);have hlt:((k<w.actors.length):Prop)=True:=by simp;omega
  have q1:(l.regs.length:Int)=(a.regs.length:Int):=by omega
  have q2:¬l.down<0:=by omega
  have q3:¬4<l.down:=by omega
  have q4:¬l.sent<0:=by omega
  have q5:¬2199023255552<=l.sent:=by omega
  have q6:¬l.over<0:=by omega
  have q7:¬2199023255552<=l.over:=by omega
  simp only[fp]at il;cases h6:l.armed with
  |false=>
   refine⟨_,_,by simp only[wd,↓reduceIte,e3,e5,bw,P8,hlt];rfl,by simp only[wd,↓reduceIte,Nat.reduceEqDiff,Nat.reduceAdd,Int.reduceNeg,O7,e2,e3,e5,il,ia,lr,ar,q1,q2,q3,q4,q5,q6,q7,h6,ad];rfl,?_⟩;simp[e2,e3]
  |true=>
   have q8:¬a.timer= -1:=λh=>hp.2.2.2.2.2.2.2 ⟨h6,h⟩;refine⟨_,_,by simp only[wd,↓reduceIte,e3,e5,bw,P8,hlt];rfl,by simp only[wd,↓reduceIte,Nat.reduceEqDiff,Nat.reduceAdd,Int.reduceNeg,O7,e2,e3,e5,il,ia,lr,ar,q1,q2,q3,q4,q5,q6,q7,h6,q8,ad];rfl,?_⟩;simp[e2,e3]
 ·obtain⟨l,hl,_⟩:=aP hkn;obtain⟨a,ha,_⟩:=aP (l:=p.actors) (k:=k) (by omega);have il:=oi hl;have ia:=r6 ha;simp only[mq,ha,hl]at hp;have hp:=of_decide_eq_false hp;have lr:cB (eI l.regs)=some (.int .i64 l.regs.length):=dP;have ar:cB (eI a.regs)=some (.int .i64 a.regs.length):=dP;have hlt:((k<w.actors.length):Prop)=True:=by simp;omega
  simp only[fp]at il;refine⟨_,by simp only[wd,↓reduceIte,e3,e5,bw,P8,hlt];rfl,?_⟩;by_cases q1:(l.regs.length:Int)=(a.regs.length:Int)
  rotate_left
  ·simp only[wd,↓reduceIte,Nat.reduceEqDiff,reduceCtorEq,Nat.reduceAdd,Int.reduceNeg,O7,e2,e3,e5,il,ia,lr,ar,q1]
  by_cases q2:l.down<0
  ·simp only[wd,↓reduceIte,Nat.reduceEqDiff,reduceCtorEq,Nat.reduceAdd,Int.reduceNeg,O7,e2,e3,e5,il,ia,lr,ar,q1,q2]
  by_cases q3:4<l.down
  ·simp only[wd,↓reduceIte,Nat.reduceEqDiff,reduceCtorEq,Nat.reduceAdd,Int.reduceNeg,O7,e2,e3,e5,il,ia,lr,ar,q1,q2,q3]
  by_cases q4:l.sent<0
  ·simp only[wd,↓reduceIte,Nat.reduceEqDiff,reduceCtorEq,Nat.reduceAdd,Int.reduceNeg,O7,e2,e3,e5,il,ia,lr,ar,q1,q2,q3,q4]
  by_cases q5:2199023255552<=l.sent
  ·simp only[wd,↓reduceIte,Nat.reduceEqDiff,reduceCtorEq,Nat.reduceAdd,Int.reduceNeg,O7,e2,e3,e5,il,ia,lr,ar,q1,q2,q3,q4,q5]
  by_cases q6:l.over<0
  ·simp only[wd,↓reduceIte,Nat.reduceEqDiff,reduceCtorEq,Nat.reduceAdd,Int.reduceNeg,O7,e2,e3,e5,il,ia,lr,ar,q1,q2,q3,q4,q5,q6]
  by_cases q7:2199023255552<=l.over
  ·simp only[wd,↓reduceIte,Nat.reduceEqDiff,reduceCtorEq,Nat.reduceAdd,Int.reduceNeg,O7,e2,e3,e5,il,ia,lr,ar,q1,q2,q3,q4,q5,q6,q7]
  have q8:l.armed=true/\a.timer= -1:=by
   by_cases h:l.armed=true/\a.timer= -1
   ·exact h
   ·exact absurd ⟨by omega,by omega,by omega,by omega,by omega,by omega,by omega,h⟩ hp
  simp only[wd,↓reduceIte,Nat.reduceEqDiff,Nat.reduceAdd,Int.reduceNeg,O7,e2,e3,e5,il,ia,lr,ar,q1,q2,q3,q4,q5,q6,q7,q8.1,q8.2]
 ·have hlt:((w.actors.length<w.actors.length):Prop)=False:=by simp
  exact⟨e,by simp only[wd,↓reduceIte,e3,e5,bw,P8,hlt],e2,e3⟩
 ·have hlb:ut p w=true:=PH λk hk=>a k (Qf _) hk;have hf:fi p w=(vX w.used&&w.mail.all (iH p w)):=by simp[fi,h1,h2,hlb]
  rw[hf,oR];refine nx (by simp only[wd,↓reduceIte];rfl) ?_;rw[jv];refine pk (n:=w.mail.length) (k0:=0) (by omega) (by omega) (λk=>(w.mail[k]?).elim true (iH p w)) (.bool false)
   (λk e=>e 2=.lptr [jL p.handlers,kz p.actors,kT p.boot,.int .i64 p.fuel]/\e 3=.lptr [dB w.actors,cg w.mail,.int .i64 w.used.drop,.int .i64 w.used.dup,.int .i64 w.used.time,.int .i64 w.used.crash]/\e 7=.int .i64 (k:Nat))
   (λe=>e 3=.lptr [dB w.actors,cg w.mail,.int .i64 w.used.drop,.int .i64 w.used.dup,.int .i64 w.used.time,.int .i64 w.used.crash])
   (λk e hk hkn hp ⟨e2,e3,e7⟩=>?_) (λk e hk hkn hp ⟨e2,e3,e7⟩=>?_) (λe ⟨e2,e3,e7⟩=>?_) (λa e e3=>?_) (λk a1 a2 a3=>?_) ⟨by simp[e2],by simp[e3],by simp⟩
  ·obtain⟨x,hx,_⟩:=aP hkn;have ix:=iS hx;simp only[hx,Option.elim]at hp;have hp:=Qb hp;have nt:=nt x.note;have ad:=bV (k:=k) (by omega);have hlt:((k<w.mail.length):Prop)=True:=by simp;omega
   have q1:jU p x.note=0:=hp.1;have q2:¬x.id.frm< -1:=by omega
   have q3:¬(w.actors.length:Int)<=x.id.frm:=by omega
   have q4:¬x.id.n<0:=by omega
   have q5:¬x.id.copy<0:=by omega
   have q6:¬w.used.dup<x.id.copy:=by omega
   have hp7:=hp.2.2.2.2.2.2;simp only[mG]at ix;rw[q1]at nt;by_cases q7:x.id.frm= -1
   ·rw[O9 q7]at hp7;have q8:¬16<=x.id.n:=by omega
    rw[q7]at q2 q3;have q9:(-1:Int)<0:=by omega
    refine⟨_,_,by simp only[wd,↓reduceIte,e3,e7,lmm,P8,hlt];rfl,by simp only[wd,↓reduceIte,Nat.reduceEqDiff,Nat.reduceAdd,Nat.reduceLeDiff,Int.reduceLE,Int.reduceNeg,O7,e2,e3,e7,ix,nt,q7,q2,q3,bw,q4,q5,q6,q8,q9,ad];rfl,?_⟩;simp[e2,e3]
   ·rw[Pd q7]at hp7;obtain⟨j,l,hj,hl,hs⟩:=yy (w:=w) (k:=x.id.frm) (by omega) (by omega);have il:=oi hl;simp only[fp]at il;rw[hs]at hp7;have q8:¬l.sent<=x.id.n:=by omega
    rw[hj]at q2 q3;have q9:¬(j:Int)<0:=by omega
    have q10:(0:Int)<=(j:Int):=by omega
    refine⟨_,_,by simp only[wd,↓reduceIte,e3,e7,lmm,P8,hlt];rfl,by simp only[wd,↓reduceIte,Nat.reduceEqDiff,Nat.reduceAdd,Nat.reduceLeDiff,Int.reduceNeg,O7,e2,e3,e7,ix,nt,hj,il,q2,q3,bw,q4,q5,q6,q8,q9,q10,ad];rfl,?_⟩;simp[e2,e3]
  ·obtain⟨x,hx,_⟩:=aP hkn;have ix:=iS hx;simp only[hx,Option.elim]at hp;have hp:=of_decide_eq_false hp;have nt:=nt x.note;have hlt:((k<w.mail.length):Prop)=True:=by simp;omega
   simp only[mG]at ix;refine⟨_,by simp only[wd,↓reduceIte,e3,e7,lmm,P8,hlt];rfl,?_⟩;by_cases q1:jU p x.note=0
   rotate_left
   ·simp only[wd,↓reduceIte,Nat.reduceEqDiff,reduceCtorEq,Nat.reduceAdd,Nat.reduceLeDiff,Int.reduceNeg,O7,e2,e3,e7,ix,nt,q1]
   rw[q1]at nt;by_cases q2:x.id.frm< -1
   ·simp only[wd,↓reduceIte,Nat.reduceEqDiff,reduceCtorEq,Nat.reduceAdd,Nat.reduceLeDiff,Int.reduceNeg,O7,e2,e3,e7,ix,nt,q2]
   by_cases q3:(w.actors.length:Int)<=x.id.frm
   ·simp only[wd,↓reduceIte,Nat.reduceEqDiff,reduceCtorEq,Nat.reduceAdd,Nat.reduceLeDiff,Int.reduceNeg,O7,e2,e3,e7,ix,nt,q2,q3,bw]
   by_cases q4:x.id.n<0
   ·simp only[wd,↓reduceIte,Nat.reduceEqDiff,reduceCtorEq,Nat.reduceAdd,Nat.reduceLeDiff,Int.reduceNeg,O7,e2,e3,e7,ix,nt,q2,q3,bw,q4]
   by_cases q5:x.id.copy<0
   ·simp only[wd,↓reduceIte,Nat.reduceEqDiff,reduceCtorEq,Nat.reduceAdd,Nat.reduceLeDiff,Int.reduceNeg,O7,e2,e3,e7,ix,nt,q2,q3,bw,q4,q5]
   by_cases q6:w.used.dup<x.id.copy
   ·simp only[wd,↓reduceIte,Nat.reduceEqDiff,Nat.reduceAdd,Nat.reduceLeDiff,Int.reduceNeg,O7,e2,e3,e7,ix,nt,q2,q3,bw,q4,q5,q6]
   have hp7:¬(if x.id.frm= -1 then x.id.n<16 else x.id.n<yX w x.id.frm):=λh=>hp ⟨q1,by omega,by omega,by omega,by omega,by omega,h⟩;by_cases q7:x.id.frm= -1
   ·rw[O9 q7]at hp7;have q8:16<=x.id.n:=by omega
    rw[q7]at q2 q3;have q9:(-1:Int)<0:=by omega
    simp only[wd,↓reduceIte,Nat.reduceEqDiff,reduceCtorEq,Nat.reduceAdd,Nat.reduceLeDiff,Int.reduceLE,Int.reduceNeg,O7,e2,e3,e7,ix,nt,q7,q2,q3,bw,q4,q5,q6,q8,q9]
   ·rw[Pd q7]at hp7;obtain⟨j,l,hj,hl,hs⟩:=yy (w:=w) (k:=x.id.frm) (by omega) (by omega);have il:=oi hl;simp only[fp]at il;rw[hs]at hp7;have q8:l.sent<=x.id.n:=by omega
    rw[hj]at q2 q3;have q9:¬(j:Int)<0:=by omega
    have q10:(0:Int)<=(j:Int):=by omega
    simp only[wd,↓reduceIte,Nat.reduceEqDiff,Nat.reduceAdd,Nat.reduceLeDiff,Int.reduceNeg,O7,e2,e3,e7,ix,nt,hj,il,q2,q3,bw,q4,q5,q6,q8,q9,q10]
  ·have hlt:((w.mail.length<w.mail.length):Prop)=False:=by simp
   exact⟨e,by simp only[wd,↓reduceIte,e3,e7,lmm,P8,hlt],e3⟩
  ·have hal:w.mail.all (iH p w)=true:=by
    rw[P4];intro x hx;obtain⟨k,hk⟩:=QO hx;have:=a k (Qf _) (List.getElem?_eq_some_iff.1 hk).1;simpa[hk]using this
   rw[hal,P2,vX];by_cases q1:0<=w.used.drop
   rotate_left
   ·rw[Po (λh=>by omega)];simp only[wd,↓reduceIte,e3,q1]
   by_cases q2:0<=w.used.dup
   rotate_left
   ·rw[Po (λh=>by omega)];simp only[wd,↓reduceIte,e3,q1,q2]
   by_cases q3:0<=w.used.time
   rotate_left
   ·rw[Po (λh=>by omega)];simp only[wd,↓reduceIte,e3,q1,q2,q3]
   by_cases q4:0<=w.used.crash
   ·rw[PH ⟨q1,q2,q3,q4⟩];simp only[wd,↓reduceIte,e3,q1,q2,q3,q4]
   ·rw[Po (λh=>by omega)];simp only[wd,↓reduceIte,e3,q1,q2,q3,q4]
  ·obtain⟨x,hx,_⟩:=aP a2;simp only[hx,Option.elim]at a3;rw[A6 hx a3,Q4]
 ·rw[show fi p w=false by simp[fi,vZ a2 a3]]
def fe(b:SBudget)(kind:Int):Bool:=if kind=2 then decide (0<b.drop)else if kind=3 then decide (0<b.dup)else if kind=4 then decide (0<b.time)else if kind=5 then decide (0<b.crash)else true
def sL(w:ay)(k:Int):Int:=match w.actors[k.toNat]? with|some l=>l.down|none=>0
def yW(w:ay)(k:Int):Bool:=match w.actors[k.toNat]? with|some l=>l.armed|none=>false
def Jj(w:ay)(k:Int):Int:=match w.mail[k.toNat]? with|some m=>m.note.to|none=>0
def tU:SID:=⟨0,0,0⟩
def Kd(w:ay)(e:SEvent):Bool:=decide (e.who=0)&&(!decide (iV w.mail e.id<0)&&(!decide (e.kind=1)||decide (sL w (Jj w (iV w.mail e.id))=0)))
def Ku(w:ay)(e:SEvent):Bool:=decide (e.id=tU)&&(decide (0<=e.who)&&(decide (e.who<w.actors.length)&&(decide (sL w e.who=0)&&(!decide (e.kind=4)||yW w e.who))))
def nA(w:ay)(e:SEvent):Bool:=if e.kind=1∨e.kind=2∨e.kind=3 then Kd w e else if e.kind=4∨e.kind=5 then Ku w e else false
noncomputable def LW (p:SProg) (b:SBudget) (w:ay) (e:SEvent):Bool:=iu p w&&(tS b&&(nA w e&&fe (dQ b w) e.kind))
def rR(w:ay):Prop:=∀m∈w.mail,0<=m.note.to/\m.note.to<w.actors.length
theorem Lo{p:SProg}{w:ay}(h:fi p w=true):rR w:=λm hm=>by
 simp only[fi,O6,PG,P4]at h;obtain⟨h1,_,_,_,h5⟩:=h;have h6:=(Qb (h5 m hm)).1;unfold jU at h6;split at h6
 ·omega
 ·omega
def aT(b:SBudget):PV:=.agg (aE b)
theorem zL{m:Nat}(a b:Int):ak aI (m+1) 144 [.int .i64 a,.int .i64 b]=some (.int .i64 (tl a b),[]):=by
 refine an (F:=ka) rfl rfl rfl ?_ (.inr rfl);have hs:aY .sub .i64 a .i64 b=some (.int .i64 (IntKind.i64.wrap (a-b))):=by simp only[aY];rw[Pd (by decide)]
 have mx:=BQ (IntKind.i64.wrap (a-b)) 0;simp only[wd,↓reduceIte,ka,hs,mx,tl]
theorem E9{m:Nat}(a b:Int):ak aI (m+1) 234 [.int .i64 a,.int .i64 b]=some (.int .i64 (tl a b),[]):=by
 refine an (F:=mp) rfl rfl rfl ?_ (.inr rfl);have hs:aY .sub .i64 a .i64 b=some (.int .i64 (IntKind.i64.wrap (a-b))):=by simp only[aY];rw[Pd (by decide)]
 have mx:=BQ (IntKind.i64.wrap (a-b)) 0;simp only[wd,↓reduceIte,mp,hs,mx,tl]
theorem A3{m:Nat}(b:SBudget)(w:ay):ak aI (m+2) 131 [aT b,aX w]=some (aT (dQ b w),[]):=by
 refine an (F:=kh) rfl rfl rfl ?_ (.inl rfl);have hl:=λa b=>zL (m:=m) a b;generalize ak aI (m+1)=C at*;generalize bc aI=V;simp only[aT,aE,aX,aD,kh,dQ];simp only[wd,↓reduceIte,Nat.reduceEqDiff,Nat.reduceAdd,O7,hl]
theorem Cq{m:Nat}(b:SBudget)(w:ay):ak aI (m+2) 215 [aT b,aX w]=some (aT (dQ b w),[]):=by
 refine an (F:=lQ) rfl rfl rfl ?_ (.inl rfl);have hl:=λa b=>E9 (m:=m) a b;generalize ak aI (m+1)=C at*;generalize bc aI=V;simp only[aT,aE,aX,aD,lQ,dQ];simp only[wd,↓reduceIte,Nat.reduceEqDiff,Nat.reduceAdd,O7,hl]
theorem Hk(a b c d:Int):BP true [.int .i64 a,.int .i64 b,.int .i64 c,.int .i64 d]=some (.int .i64 (max (max (max a b) c) d)):=by
 have key:∀x y:Int,x7 true (.int .i64 x) (.int .i64 y)=some (.int .i64 (max x y)):=λx y=>by
  simp only[x7];by_cases h:x<y<;>simp[h]<;>omega
 simp only[BP,mP,key]
theorem EL{m:Nat}(b:SBudget):ak aI (m+1) 124 [aT b]=some (.bool (tS b),[]):=by
 refine an (F:=lX) rfl rfl rfl ?_ (.inr rfl);have mn:=Dm b.drop b.dup b.time b.crash;have mx:=Hk b.drop b.dup b.time b.crash;simp only[aT,aE,lX,tS];by_cases h1:0<=min (min (min b.drop b.dup) b.time) b.crash
 ·by_cases h2:max (max (max b.drop b.dup) b.time) b.crash<=1000
  ·rw[PH (by omega)];simp only[wd,↓reduceIte,Nat.reduceAdd,O7,mn,mx,h1,h2]
  ·rw[Po (by omega)];simp only[wd,↓reduceIte,Nat.reduceAdd,O7,mn,mx,h1,h2]
 ·rw[Po (by omega)];simp only[wd,↓reduceIte,Nat.reduceAdd,O7,mn,mx,h1]
theorem BR{m:Nat}(b:SBudget):ak aI (m+1) 216 [aT b]=some (.bool (tS b),[]):=by
 refine an (F:=fJ) rfl rfl rfl ?_ (.inr rfl);generalize ak aI m=C;generalize bc aI=V;have el:PV.lst [.int .i64 b.drop,.int .i64 b.dup,.int .i64 b.time,.int .i64 b.crash] false=eI [b.drop,b.dup,b.time,b.crash]:=rfl;simp only[aT,aE,fJ];refine nx (by simp only[wd,↓reduceIte,Nat.reduceAdd,O7,el];rfl) ?_;rw[oR];refine nx (by simp only[wd,↓reduceIte];rfl) ?_;rw[jQ];refine pk (n:=4) (k0:=0) (by omega) (by omega) (λk=>([b.drop,b.dup,b.time,b.crash][k]?).elim true λx=>decide (0<=x/\x<=1000)) (.bool false)
  (λk e=>e 3=eI [b.drop,b.dup,b.time,b.crash]/\e 4=.int .i64 (k:Nat)) (λe=>True) (λk e hk hkn hp ⟨e3,e4⟩=>?_) (λk e hk hkn hp ⟨e3,e4⟩=>?_) (λe ⟨e3,e4⟩=>?_) (λa e _=>?_) (λk a1 a2 a3=>?_) ⟨by simp,by simp⟩
 ·obtain⟨x,hx,_⟩:=aP (l:=[b.drop,b.dup,b.time,b.crash]) (k:=k) hkn;have ix:=jt hx;simp only[hx,Option.elim,PG]at hp;have hlt:(k:Int)<4:=by omega
  have q1:¬x<0:=by omega
  have q2:¬1000<x:=by omega
  have ad:=bV (k:=k) (by omega);refine⟨e,_,by simp only[wd,↓reduceIte,e4,hlt],by simp only[wd,↓reduceIte,e3,e4,ix,q1,q2,ad];rfl,by simp[e3],by simp⟩
 ·obtain⟨x,hx,_⟩:=aP (l:=[b.drop,b.dup,b.time,b.crash]) (k:=k) hkn;have ix:=jt hx;simp only[hx,Option.elim,PD]at hp;have hlt:(k:Int)<4:=by omega
  refine⟨e,by simp only[wd,↓reduceIte,e4,hlt],?_⟩;by_cases q1:x<0
  ·simp only[wd,↓reduceIte,reduceCtorEq,e3,e4,ix,q1]
  ·have q2:1000<x:=by omega
   simp only[wd,↓reduceIte,e3,e4,ix,q1,q2]
 ·have hlt:¬((4:Nat):Int)<4:=by omega
  exact⟨e,by simp only[wd,↓reduceIte,e4,hlt],trivial⟩
 ·have h0:=a 0 (by omega) (by omega);have h1:=a 1 (by omega) (by omega);have h2:=a 2 (by omega) (by omega);have h3:=a 3 (by omega) (by omega);simp at h0 h1 h2 h3;rw[show tS b=true from PH (by omega)];simp only[wd,↓reduceIte]
 ·obtain⟨x,hx,hm⟩:=aP (l:=[b.drop,b.dup,b.time,b.crash]) (k:=k) a2;simp only[hx,Option.elim,PD]at a3;simp only[Qx,List.not_mem_nil,Q5]at hm;rw[show tS b=false from Po λh=>a3 (by rcases hm with rfl|rfl|rfl|rfl<;>omega)]
theorem Gx{m:Nat}(b:SBudget)(k:Int):ak aI (m+1) 137 [aT b,.int .i64 k]=some (.bool (fe b k),[]):=by
 refine an (F:=jZ) rfl rfl rfl ?_ (.inr rfl);simp only[aT,aE,jZ,fe];by_cases h2:k=2
 ·simp only[wd,↓reduceIte,Nat.reduceEqDiff,Nat.reduceAdd,O7,h2]
 by_cases h3:k=3
 ·simp only[wd,↓reduceIte,Nat.reduceEqDiff,Nat.reduceAdd,Int.reduceEq,O7,h3]
 by_cases h4:k=4
 ·simp only[wd,↓reduceIte,Nat.reduceEqDiff,Nat.reduceAdd,Int.reduceEq,O7,h4]
 by_cases h5:k=5
 ·simp only[wd,↓reduceIte,Nat.reduceEqDiff,Nat.reduceAdd,Int.reduceEq,O7,h5]
 simp only[wd,↓reduceIte,Nat.reduceEqDiff,Nat.reduceAdd,O7,h2,h3,h4,h5]
theorem Cr{w:ay}(ht:rR w){i:SID}(h:¬iV w.mail i<0):∃(k:Nat)(x:b6)(j:Nat)(l:gI),iV w.mail i=k/\w.mail[k]?=some x/\x.id=i/\x.note.to=(j:Int)/\w.actors[j]?=some l/\Jj w (iV w.mail i)=(j:Int)/\sL w (j:Int)=l.down:=by
 obtain⟨k,x,h1,_,h3,h4⟩:=E4 h;obtain⟨t0,t1⟩:=ht x (Pl h3);obtain⟨j,hj⟩:=QQ t0;obtain⟨l,hl,_⟩:=aP (l:=w.actors) (k:=j) (by omega);exact⟨k,x,j,l,h1,h3,h4,hj,hl,by rw[h1];simp[Jj,h3,hj],by simp[sL,hl]⟩
theorem z0{w:ay}{k:Int}(h0:0<=k)(h1:k<w.actors.length):∃(j:Nat)(l:gI),k=(j:Int)/\w.actors[j]?=some l/\sL w k=l.down/\yW w k=l.armed:=by
 obtain⟨j,rfl⟩:=QQ h0;obtain⟨l,hh,_⟩:=aP (l:=w.actors) (k:=j) (by omega);exact⟨j,l,rfl,hh,by simp[sL,hh],by simp[yW,hh]⟩
theorem Ox(x:SID):ou false [false,false,false] (.agg [.int .i64 x.frm,.int .i64 x.n,.int .i64 x.copy]) (.agg [.int .i64 0,.int .i64 0,.int .i64 0])=some (.bool (decide (x=tU))):=J5 x tU
theorem Nl(x:SID):ou true [false,false,false] (.agg [.int .i64 x.frm,.int .i64 x.n,.int .i64 x.copy]) (.agg [.int .i64 0,.int .i64 0,.int .i64 0])=some (.bool (!decide (x=tU))):=MD x tU
theorem IK{m:Nat}(w:ay)(hw:eW w)(ht:rR w)(e:SEvent):ak aI (m+4) 136 [aX w,ba e]=some (.bool (nA w e),[]):=by
 refine an (F:=mh) rfl rfl rfl ?_ (.inr rfl);have fd:=Jx (m:=m) w.mail hw.mail.1 e.id;generalize ak aI (m+3)=C at*;generalize bc aI=V;have gq:=MV (iV w.mail e.id);have ez:=Ox e.id;simp only[y9,A2]at fd;simp only[aX,aD,ba,dC,mh];refine nx (by simp only[wd,↓reduceIte,Nat.reduceAdd,O7];rfl) ?_;by_cases hk:e.kind=1∨e.kind=2∨e.kind=3
 ·rw[nA,O9 hk,Kd];refine ai ?_;refine nx (by simp only[wd,↓reduceIte,Nat.reduceEqDiff];rfl) (aM ?_);have head:∀env:Env,env 7=.int .i64 e.kind->∃e1,aF C V (.seq (.st [.asg [] [(8,(.bin .eql (.v 7) (N 1)))]]) (.cond (.v 8) .skip (.seq (.st [.asg [] [(8,(.bin .eql (.v 7) (N 2)))]]) (.cond (.v 8) .skip (.st [.asg [] [(8,(.bin .eql (.v 7) (N 3)))]]))))) env=some (.norm e1)/\e1 8=.bool true/\∀n,n≠8->e1 n=env n:=λenv h7=>by
   by_cases k1:e.kind=1
   ·exact⟨_,by simp only[wd,↓reduceIte,h7,k1];rfl,by simp,λn hn=>by simp[hn]⟩
   by_cases k2:e.kind=2
   ·exact⟨_,by simp only[wd,↓reduceIte,Nat.reduceEqDiff,Int.reduceEq,h7,k2];rfl,by simp,λn hn=>by simp[hn]⟩
   have k3:e.kind=3:=by omega
   exact⟨_,by simp only[wd,↓reduceIte,Nat.reduceEqDiff,Int.reduceEq,h7,k3];rfl,by simp,λn hn=>by simp[hn]⟩
  obtain⟨e1,g1,g8,gn⟩:=head ((((Env.ofArgs [.agg [dB w.actors,cg w.mail,.int .i64 w.used.drop,.int .i64 w.used.dup,.int .i64 w.used.time,.int .i64 w.used.crash],.agg [.int .i64 e.kind,.int .i64 e.id.frm,.int .i64 e.id.n,.int .i64 e.id.copy,.int .i64 e.who]]).set 3 (.lptr [.int .i64 e.kind,.int .i64 e.id.frm,.int .i64 e.id.n,.int .i64 e.id.copy,.int .i64 e.who])).set 2 (.lptr [dB w.actors,cg w.mail,.int .i64 w.used.drop,.int .i64 w.used.dup,.int .i64 w.used.time,.int .i64 w.used.crash])).set 7 (.int .i64 e.kind)) (by simp);refine nx g1 ?_;have g2:=gn 2 (by omega);have g3:=gn 3 (by omega);simp only[Env.set_at,Nat.reduceEqDiff,PS,PQ]at g2 g3;by_cases q1:e.who=0
  rotate_left
  ·rw[Po q1,PX];simp only[wd,↓reduceIte,Nat.reduceEqDiff,g8,g2,g3,fd,q1]
  by_cases q2:iV w.mail e.id<0
  ·rw[PH q2]at gq;rw[PH q2,QF,PX,Q4];have q2':¬0<=iV w.mail e.id:=by omega
   simp only[wd,↓reduceIte,Nat.reduceEqDiff,g8,g2,g3,fd,q1,q2']
  obtain⟨k,x,j,l,f1,f2,f3,f4,f5,f6,f7⟩:=Cr ht q2;have ix:=iS f2;have il:=oi f5;simp only[mG]at ix;simp only[fp]at il;have q3:(0:Int)<=(k:Int):=by omega
  rw[f6,f7,PH q1,Po q2,Qy,PY,PY];rw[f1]at fd;by_cases k1:e.kind=1
  ·by_cases q4:l.down=0
   ·simp only[wd,↓reduceIte,Nat.reduceEqDiff,g8,g2,g3,fd,q1,q3,k1,ix,f4,il,q4,Bool.or_true]
   ·simp only[wd,↓reduceIte,Nat.reduceEqDiff,g8,g2,g3,fd,q1,q3,k1,ix,f4,il,q4,Bool.or_false]
  ·simp only[wd,↓reduceIte,Nat.reduceEqDiff,reduceCtorEq,g8,g2,g3,fd,q1,q3,k1,Bool.true_or]
 ·rw[nA,Pd hk];have k1:¬e.kind=1:=λh=>hk (.inl h);have k2:¬e.kind=2:=λh=>hk (.inr (.inl h));have k3:¬e.kind=3:=λh=>hk (.inr (.inr h));by_cases hk2:e.kind=4∨e.kind=5
  rotate_left
  ·have k4:¬e.kind=4:=λh=>hk2 (.inl h);have k5:¬e.kind=5:=λh=>hk2 (.inr h);rw[Pd hk2];simp only[wd,↓reduceIte,Nat.reduceEqDiff,k1,k2,k3,k4,k5]
  rw[O9 hk2,Ku];refine ai ?_;refine nx (by simp only[wd,↓reduceIte,Nat.reduceEqDiff];rfl) (aM ?_);refine nx (by simp only[wd,↓reduceIte,Nat.reduceEqDiff,k1,k2,k3];rfl) ?_;have k45:¬e.kind=4->e.kind=5:=λh=>by omega
  by_cases q1:e.id=tU
  rotate_left
  ·rw[Po q1]at ez;rw[Po q1,PX];by_cases k4:e.kind=4
   ·simp only[wd,↓reduceIte,Nat.reduceEqDiff,k4,ez]
   ·simp only[wd,↓reduceIte,Nat.reduceEqDiff,Int.reduceEq,k45 k4,ez]
  rw[PH q1]at ez;rw[PH q1,PY];by_cases q2:0<=e.who
  rotate_left
  ·rw[Po q2,PX];by_cases k4:e.kind=4
   ·simp only[wd,↓reduceIte,Nat.reduceEqDiff,k4,ez,q2]
   ·simp only[wd,↓reduceIte,Nat.reduceEqDiff,Int.reduceEq,k45 k4,ez,q2]
  rw[PH q2,PY];by_cases q3:e.who<w.actors.length
  rotate_left
  ·rw[Po q3,PX];by_cases k4:e.kind=4
   ·simp only[wd,↓reduceIte,Nat.reduceEqDiff,k4,ez,q2,bw,q3]
   ·simp only[wd,↓reduceIte,Nat.reduceEqDiff,Int.reduceEq,k45 k4,ez,q2,bw,q3]
  rw[PH q3,PY];obtain⟨j,l,f1,f2,f3,f4⟩:=z0 q2 q3;have il:=oi f2;simp only[fp]at il;rw[f3,f4];rw[f1]at q2 q3;by_cases q4:l.down=0
  rotate_left
  ·rw[Po q4,PX];by_cases k4:e.kind=4
   ·simp only[wd,↓reduceIte,Nat.reduceEqDiff,k4,ez,f1,q2,bw,q3,il,q4]
   ·simp only[wd,↓reduceIte,Nat.reduceEqDiff,Int.reduceEq,k45 k4,ez,f1,q2,bw,q3,il,q4]
  rw[PH q4,PY];by_cases k4:e.kind=4
  ·simp only[wd,↓reduceIte,Nat.reduceEqDiff,k4,ez,f1,q2,bw,q3,il,q4,QN]
  ·simp only[wd,↓reduceIte,Nat.reduceEqDiff,reduceCtorEq,Int.reduceEq,k45 k4,ez,f1,q2,bw,q3,il,q4,Bool.true_or]
theorem OA{m:Nat}(p:SProg)(hp:kZ p)(b:SBudget)(w:ay)(hw:eW w)(e:SEvent):ak aI (m+8) 122 [aJ p,aT b,aX w,ba e]=some (.bool (LW p b w e),[]):=by
 refine an (F:=nj) rfl rfl rfl ?_ (.inr rfl);have ck:=zP (m:=m) p hp w hw;have my:=EL (m:=m+6) b;have cn:=λht=>IK (m:=m+3) w hw ht e;have lf:=A3 (m:=m+5) b w;have pd:=λb k=>Gx (m:=m+6) b k;generalize ak aI (m+7)=C at*;generalize bc aI=V;simp only[aJ,aC,aX,aD,aT,aE,ba,dC]at ck my cn lf pd;simp only[aJ,aC,aX,aD,aT,aE,ba,dC,nj,LW];cases h1:iu p w with
 |false=>
  rw[h1]at ck;simp only[wd,↓reduceIte,Nat.reduceEqDiff,Nat.reduceAdd,O7,ck]
 | true=>
  rw[h1]at ck;have ht:rR w:=Lo (p:=p) (by simp only[iu,O6]at h1;exact h1.2);have cn:=cn ht;cases h2:tS b with
  |false=>
   rw[h2]at my;simp only[wd,↓reduceIte,Nat.reduceEqDiff,Nat.reduceAdd,O7,ck,my]
  | true=>
   rw[h2]at my;cases h3:nA w e with
   |false=>
    rw[h3]at cn;simp only[wd,↓reduceIte,Nat.reduceEqDiff,Nat.reduceAdd,O7,ck,my,cn]
   |true=>
    rw[h3]at cn;simp only[wd,↓reduceIte,Nat.reduceEqDiff,Nat.reduceAdd,O7,ck,my,cn,lf,pd]
theorem E0{m:Nat}(b:SBudget)(w:ay)(hw:eW w)(ht:rR w)(e:SEvent):ak aI (m+3) 228 [aT b,aX w,ba e]=some (.bool (nA w e&&fe (dQ b w) e.kind),[]):=by
 refine an (F:=pg) rfl rfl rfl ?_ (.inr rfl);have lf:=Cq (m:=m) b w;have fd:=Io (m:=m+1) w.mail hw.mail.1 e.id;generalize ak aI (m+2)=C at*;generalize bc aI=V;have ez:=Nl e.id;generalize dQ b w=u at*;simp only[aT,aE,aX,aD]at lf;simp only[y9,A2]at fd;simp only[aT,aE,aX,aD,ba,dC,pg];refine nx (by simp only[wd,↓reduceIte,Nat.reduceEqDiff,Nat.reduceAdd,O7,lf];rfl) ?_;by_cases hk:e.kind=1∨e.kind=2∨e.kind=3
 ·rw[nA,O9 hk,Kd];have c1:1<=e.kind:=by omega
  have c2:e.kind<=3:=by omega
  refine ai ?_;refine nx (by simp only[wd,↓reduceIte,Nat.reduceEqDiff,c1,c2];rfl) ?_;by_cases q1:e.who=0
  rotate_left
  ·rw[Po q1,PX,PX];by_cases q2:iV w.mail e.id<0
   ·simp only[wd,↓reduceIte,Nat.reduceEqDiff,reduceCtorEq,c1,c2,fd,q1,q2]
   ·simp only[wd,↓reduceIte,Nat.reduceEqDiff,c1,c2,fd,q1,q2]
  by_cases q2:iV w.mail e.id<0
  ·rw[PH q2,QF,PX,Q4,PX];simp only[wd,↓reduceIte,Nat.reduceEqDiff,reduceCtorEq,c1,c2,fd,q1,q2]
  obtain⟨k,x,j,l,f1,f2,f3,f4,f5,f6,f7⟩:=Cr ht q2;have ix:=iS f2;have il:=oi f5;simp only[mG]at ix;simp only[fp]at il;have q3:¬(k:Int)<0:=by omega
  rw[f6,f7,PH q1,Po q2,Qy,PY,PY];rw[f1]at fd;by_cases k1:e.kind=1
  ·have:fe u e.kind=true:=by rw[fe,k1];rfl
   rw[this,P2];by_cases q4:l.down=0
   ·simp only[wd,↓reduceIte,Nat.reduceEqDiff,Int.reduceLE,fd,q1,q3,k1,ix,f4,il,q4,Bool.or_true]
   ·simp only[wd,↓reduceIte,Nat.reduceEqDiff,Int.reduceLE,fd,q1,q3,k1,ix,f4,il,q4,Bool.or_false]
  by_cases k2:e.kind=2
  ·rw[fe,O9 k2,Po k1,Qy,Bool.true_or,PY];simp only[wd,↓reduceIte,Nat.reduceEqDiff,Int.reduceEq,Int.reduceLE,fd,q1,q3,k2]
  ·have k3:e.kind=3:=by omega
   rw[fe,Pd k2,O9 k3,Po k1,Qy,Bool.true_or,PY];simp only[wd,↓reduceIte,Nat.reduceEqDiff,Int.reduceEq,Int.reduceLE,fd,q1,q3,k3]
 ·rw[nA,Pd hk];have cc:e.kind<1∨3<e.kind:=by omega
  have skip:∀env:Env,env 5=.lptr [.int .i64 e.kind,.int .i64 e.id.frm,.int .i64 e.id.n,.int .i64 e.id.copy,.int .i64 e.who]->∀A:VC,aF C V (.seq (.st [.asg [(.gd (.bin .geq (.ld none (.v 5) 0) (N 1)) true (.bin .leq (.ld none (.v 5) 0) (N 3))),(.ite (.bin .geq (.ld none (.v 5) 0) (N 1)) (.bin .leq (.ld none (.v 5) 0) (N 3)) (.boo false))] []]) (.cond (.ite (.bin .geq (.ld none (.v 5) 0) (N 1)) (.bin .leq (.ld none (.v 5) 0) (N 3)) (.boo false)) A .skip)) env=some (.norm env):=λenv h5 A=>by
   by_cases c1:1<=e.kind
   ·have c2:¬e.kind<=3:=by omega
    simp only[wd,↓reduceIte,h5,c1,c2]
   ·simp only[wd,↓reduceIte,h5,c1]
  refine nx (skip _ (by simp) _) ?_;by_cases hk2:e.kind=4∨e.kind=5
  rotate_left
  ·have k4:¬e.kind=4:=λh=>hk2 (.inl h);have k5:¬e.kind=5:=λh=>hk2 (.inr h);rw[Pd hk2,PX];refine ai ?_;simp only[wd,↓reduceIte,Nat.reduceEqDiff,reduceCtorEq,k4,k5]
  rw[O9 hk2,Ku];have k45:¬e.kind=4->e.kind=5:=λh=>by omega
  by_cases q1:e.id=tU
  rotate_left
  ·rw[Po q1]at ez;rw[Po q1,PX,PX];refine ai ?_;by_cases k4:e.kind=4
   ·simp only[wd,↓reduceIte,Nat.reduceEqDiff,reduceCtorEq,Int.reduceEq,k4,ez]
   ·simp only[wd,↓reduceIte,Nat.reduceEqDiff,reduceCtorEq,Int.reduceEq,k45 k4,ez]
  rw[PH q1]at ez;rw[PH q1,PY];by_cases q2:0<=e.who
  rotate_left
  ·have q2':e.who<0:=by omega
   rw[Po q2,PX,PX];refine ai ?_;by_cases k4:e.kind=4
   ·simp only[wd,↓reduceIte,Nat.reduceEqDiff,reduceCtorEq,Int.reduceEq,k4,ez,q2']
   ·simp only[wd,↓reduceIte,Nat.reduceEqDiff,reduceCtorEq,Int.reduceEq,k45 k4,ez,q2']
  have q2':¬e.who<0:=by omega
  rw[PH q2,PY];by_cases q3:e.who<w.actors.length
  rotate_left
  ·have q3':(w.actors.length:Int)<=e.who:=by omega
   rw[Po q3,PX,PX];refine ai ?_;by_cases k4:e.kind=4
   ·simp only[wd,↓reduceIte,Nat.reduceEqDiff,reduceCtorEq,Int.reduceEq,k4,ez,q2',bw,q3']
   ·simp only[wd,↓reduceIte,Nat.reduceEqDiff,reduceCtorEq,Int.reduceEq,k45 k4,ez,q2',bw,q3']
  have q3':¬(w.actors.length:Int)<=e.who:=by omega
  rw[PH q3,PY];obtain⟨j,l,f1,f2,f3,f4⟩:=z0 q2 q3;have il:=oi f2;simp only[fp]at il;rw[f3,f4];rw[f1]at q2' q3';by_cases q4:l.down=0
  rotate_left
  ·rw[Po q4,PX,PX];refine ai ?_;by_cases k4:e.kind=4
   ·simp only[wd,↓reduceIte,Nat.reduceEqDiff,Int.reduceEq,k4,ez,f1,q2',bw,q3',il,q4]
   ·simp only[wd,↓reduceIte,Nat.reduceEqDiff,Int.reduceEq,k45 k4,ez,f1,q2',bw,q3',il,q4]
  rw[PH q4,PY];by_cases k4:e.kind=4
  ·have:fe u e.kind=decide (0<u.time):=by rw[fe,k4];rfl
   rw[this,PH k4,QF,QN];refine nx (by simp only[wd,↓reduceIte,Nat.reduceEqDiff,Int.reduceEq,k4,ez,f1,q2',bw,q3',il,q4];rfl) ?_;refine ai ?_;cases q5:l.armed<;>simp only[wd,↓reduceIte,Nat.reduceEqDiff,il,q5]
  ·have k5:=k45 k4;have:fe u e.kind=decide (0<u.crash):=by rw[fe,k5];rfl
   rw[this,Po k4,Qy,Bool.true_or,PY];refine nx (by simp only[wd,↓reduceIte,Nat.reduceEqDiff,Int.reduceEq,k5,ez,f1,q2',bw,q3',il,q4];rfl) ?_;refine nx (by simp only[wd,↓reduceIte,Nat.reduceEqDiff,Int.reduceEq];rfl) ?_;simp only[wd,↓reduceIte]
theorem LH{m:Nat}(p:SProg)(hp:kZ p)(b:SBudget)(w:ay)(hw:eW w)(e:SEvent):ak aI (m+6) 209 [aJ p,aT b,aX w,ba e]=some (.bool (LW p b w e),[]):=by
 refine an (F:=pP) rfl rfl rfl ?_ (.inr rfl);have ck:=xb (m:=m) p hp w hw;have my:=BR (m:=m+4) b;have cn:=λht=>E0 (m:=m+2) b w hw ht e;generalize ak aI (m+5)=C at*;generalize bc aI=V;simp only[aJ,aC,aX,aD,aT,aE,ba,dC]at ck my cn;simp only[aJ,aC,aX,aD,aT,aE,ba,dC,pP,LW];refine nx (by simp only[wd,↓reduceIte,Nat.reduceAdd,O7];rfl) ?_;cases h1:iu p w with
 |false=>
  rw[h1]at ck;refine ai ?_;simp only[wd,↓reduceIte,Nat.reduceEqDiff,reduceCtorEq,Int.reduceNeg,un,ck]
 | true=>
  rw[h1]at ck;have ht:rR w:=Lo (p:=p) (by simp only[iu,O6]at h1;exact h1.2);have cn:=cn ht;cases h2:tS b with
  |false=>
   rw[h2]at my;refine ai ?_;simp only[wd,↓reduceIte,Nat.reduceEqDiff,Int.reduceNeg,O7,un,ck,my]
  |true=>
   rw[h2]at my;refine nx (by simp only[wd,↓reduceIte,Nat.reduceEqDiff,Int.reduceNeg,O7,un,ck,my];rfl) ?_;simp only[wd,↓reduceIte,Nat.reduceEqDiff,cn]
def IP(w:ay)(k:Nat):ay:=match w.actors[k]? with|some l=>{w with actors:=w.actors.set k {l with over:=l.over+1}}|none=>w
def LS(p:SProg)(k:Nat):Int:=match p.actors[k]? with|some a=>a.cap|none=>0
def CS(p:SProg)(w:ay)(x:b6):ay:=
 if(O3 w.mail x.note.to:Int)<LS p x.note.to.toNat/\iV w.mail x.id<0 then{w with mail:=GI w.mail x}else IP w x.note.to.toNat
def Az(p:SProg)(frm first:Int):List SNote->Nat->ay->ay
 |[],_,w=>w
 |n::l,i,w=>Az p frm first l (i+1) (if 0<=n.to/\n.to<min (p.actors.length:Int) w.actors.length then CS p w ⟨⟨frm,first+i,0⟩,n⟩else w)
structure PostOk (w:ay) (n:Nat):Prop where
 as:w.actors.length<1000000000
 ml:w.mail.length+n<1000000000
 args:∀x∈w.mail,x.note.args.length<1000000000
 over:∀l∈w.actors,-1000000000000000000<=l.over/\l.over+n<=1000000000000000000
theorem PostOk.post{p:SProg}{w:ay}{n:Nat}{x:b6}(h:PostOk w (n+1))(hx:x.note.args.length<1000000000):PostOk (CS p w x) n:=by
 have h1:=h.ml;unfold CS;split
 ·refine⟨h.as,by simp only[Ih];omega,λy hy=>?_,λl hl=>by have:=h.over l hl;omega⟩;rcases Iw.1 hy with rfl|hy
  ·exact hx
  ·exact h.args y hy
 ·unfold IP;split
  ·rename_i l hl;refine⟨by simpa using h.as,by simp only;omega,h.args,λy hy=>?_⟩;have hm:=Pl hl;rcases List.mem_or_eq_of_mem_set hy with hy|rfl
   ·have:=h.over y hy;omega
   ·have:=h.over l hm;simp only;omega
  ·exact⟨h.as,by omega,h.args,λl hl=>by have:=h.over l hl;omega⟩
def uS(p:SProg)(frm first:Int)(n:SNote)(i:Nat)(w:ay):ay:=if 0<=n.to/\n.to<min (p.actors.length:Int) w.actors.length then CS p w ⟨⟨frm,first+i,0⟩,n⟩else w
theorem uX(p:SProg)(frm first:Int)(n:SNote):∀(l:List SNote)(i:Nat)(w:ay),Az p frm first (l++[n]) i w=uS p frm first n (i+l.length) (Az p frm first l i w)
 |[],i,w=>rfl
 |x::l,i,w=>by
  simp only[Qu,Az,PJ];rw[uX p frm first n l (i+1)];rw[show i+1+l.length=i+(l.length+1)by omega]
theorem PostOk.less{w:ay}{n m:Nat}(h:PostOk w n)(hm:m<=n):PostOk w m:=⟨h.as,by have:=h.ml;omega,h.args,λl hl=>by have:=h.over l hl;omega⟩
theorem PostOk.step{p:SProg}{w:ay}{frm first:Int}{i m:Nat}{n:SNote}(h:PostOk w (m+1))(hn:n.args.length<1000000000):PostOk (uS p frm first n i w) m:=by
 unfold uS;split
 ·exact h.post hn
 ·exact h.less (by omega)
theorem PostOk.take{p:SProg}{w:ay}{frm first:Int}{l:List SNote}(h:PostOk w l.length)(hn:∀n∈l,n.args.length<1000000000):∀k,k<=l.length->PostOk (Az p frm first (l.take k) 0 w) (l.length-k)
 |0,_=>h
 |k+1,hk=>by
  obtain⟨n,hn',hm⟩:=aP (l:=l) (k:=k) (by omega);rw[pS hn',uX];have ih:=PostOk.take (p:=p) (frm:=frm) (first:=first) h hn k (by omega);rw[show l.length-k=(l.length-(k+1))+1 by omega]at ih;exact ih.step (hn n hm)
theorem HL{p:SProg}(h:m7 p=0):He p/\∀x∈p.handlers,dw p x.code:=by
 unfold m7 at h;split at h
 ·rename_i h1;exact absurd h h1
 ·rename_i h1;refine⟨OD (Decidable.of_not_not h1),λx hx=>?_⟩;have:=jb.1 h x hx;unfold qa at this;split at this
  ·assumption
  ·omega
end Gv
namespace Gv
open Go
end Gv
namespace Gv
open Go
theorem ub{α:Type}{l:List α}{q:α->Bool}:(∀k,k<l.length->(l[k]?).all q=true)↔∀x∈l,q x=true:=by
 constructor
 ·intro h x hx;obtain⟨k,hk,rfl⟩:=List.mem_iff_getElem.1 hx;have:=h k hk;rw[Pa hk]at this;simpa using this
 ·intro h k hk;rw[Pa hk];simpa using h _ (List.getElem_mem hk)
def IH(p:SProg):Bool:=decide (p.handlers.length<=18/\p.actors.length<=10/\p.boot.length<=18)&&(decide (∀x∈p.handlers,decide (x.code.length<=70)=true)&&(decide (∀x∈p.actors,decide (x.regs.length<=10)=true)&&decide (∀x∈p.boot,decide (x.args.length<=6)=true)))
theorem FG{m:Nat}{p:SProg}:ak aI (m+1) 46 [aJ p]=some (.bool (IH p),[]):=by
 refine an (F:=jp) rfl rfl rfl ?_ (.inr rfl);generalize ak aI m=C;generalize bc aI=V;obtain⟨hs,as,ns,fuel⟩:=p;have hlen:cB (jL hs)=some (.int .i64 hs.length):=bM;have alen:cB (kz as)=some (.int .i64 as.length):=dA;have nlen:cB (kT ns)=some (.int .i64 ns.length):=i9;simp only[aJ,aC,jp,mL,mX,nh];refine nx (by simp only[wc,↓reduceIte,Nat.reduceAdd,O7];rfl) ?_;by_cases hc:hs.length<=18/\as.length<=10/\ns.length<=18
 ·obtain⟨c1,c2,c3⟩:=hc;refine nx (by simp only[wc,↓reduceIte,hlen,alen,nlen,show¬(18:Int)<hs.length by omega,show¬(10:Int)<as.length by omega,show¬(18:Int)<ns.length by omega];rfl) ?_;have hr:IH ⟨hs,as,ns,fuel⟩=(decide (∀x∈hs,decide (x.code.length<=70)=true)&&(decide (∀x∈as,decide (x.regs.length<=10)=true)&&decide (∀x∈ns,decide (x.args.length<=6)=true))):=by
   simp only[IH,c1,c2,c3,and_self,QZ,PY]
  rw[hr];rw[oR];refine nx (by simp only[wc,↓reduceIte];rfl) ?_
  let St:Nat->Env->Prop:=λ_ e=>e 1=.lptr [jL hs,kz as,kT ns,.int .i64 fuel]
  refine ua (n:=hs.length) (by omega) (λk=>(hs[k]?).all λx=>decide (x.code.length<=70)) (.bool false) St _ (λk e v h=>by simpa[St]using h)
   (λk e hk h hv=>by
              have h:e 1=_:=h;have hz:decide ((k:Int)<(hs.length:Int))=decide (k<hs.length):=by simp
              by_cases hkn:k<hs.length<;>simp only[wc,↓reduceIte,hz,h,hv,hlen,hkn])
   (λk e hk h hv=>by
    obtain⟨x,hx,_⟩:=aP hk;have h:e 1=_:=h;have hi:au 2 (jL hs) (.int .i64 (k:Nat))=some (.lptr [.int .i64 x.args,cM x.code]):=IU hx;by_cases hxy:x.code.length<=70
    ·refine⟨_,by simp only[wc,↓reduceIte,h,hv,hi,jc,show¬(70:Int)<x.code.length by omega];rfl,?_⟩;simp[hx,hxy,h,hv,St]
    ·refine⟨_,by simp only[wc,↓reduceIte,h,hv,hi,jc,show(70:Int)<x.code.length by omega];rfl,?_⟩;simp[hx,hxy]) ub (λhP e h=>?_) (λhP=>by rw[Po hP,PX]) (by simp[St]) (by simp)
  have h:e 1=_:=h;rw[PH hP,PY];rw[oR];refine nx (by simp only[wc,↓reduceIte];rfl) ?_;refine ua (n:=as.length) (by omega) (λk=>(as[k]?).all λx=>decide (x.regs.length<=10)) (.bool false) St _ (λk e v h=>by simpa[St]using h)
   (λk e hk h hv=>by
              have h:e 1=_:=h;have hz:decide ((k:Int)<(as.length:Int))=decide (k<as.length):=by simp
              by_cases hkn:k<as.length<;>simp only[wc,↓reduceIte,hz,h,hv,alen,hkn])
   (λk e hk h hv=>by
    obtain⟨x,hx,_⟩:=aP hk;have h:e 1=_:=h;have hi:au 4 (kz as) (.int .i64 (k:Nat))=some (.lptr [eI x.regs,.int .i64 x.cap,.int .i64 x.timer,.bool x.armed]):=IZ hx;by_cases hxy:x.regs.length<=10
    ·refine⟨_,by simp only[wc,↓reduceIte,h,hv,hi,dP,show¬(10:Int)<x.regs.length by omega];rfl,?_⟩;simp[hx,hxy,h,hv,St]
    ·refine⟨_,by simp only[wc,↓reduceIte,h,hv,hi,dP,show(10:Int)<x.regs.length by omega];rfl,?_⟩;simp[hx,hxy]) ub (λhP e h=>?_) (λhP=>by rw[Po hP,PX]) (by simp[St,h]) (by simp)
  have h:e 1=_:=h;rw[PH hP,PY];rw[oR];refine nx (by simp only[wc,↓reduceIte];rfl) ?_;refine ua (n:=ns.length) (by omega) (λk=>(ns[k]?).all λx=>decide (x.args.length<=6)) (.bool false) St _ (λk e v h=>by simpa[St]using h)
   (λk e hk h hv=>by
              have h:e 1=_:=h;have hz:decide ((k:Int)<(ns.length:Int))=decide (k<ns.length):=by simp
              by_cases hkn:k<ns.length<;>simp only[wc,↓reduceIte,hz,h,hv,nlen,hkn])
   (λk e hk h hv=>by
    obtain⟨x,hx,_⟩:=aP hk;have h:e 1=_:=h;have hi:au 3 (kT ns) (.int .i64 (k:Nat))=some (.lptr [.int .i64 x.to,.int .i64 x.handler,eI x.args]):=IR hx;by_cases hxy:x.args.length<=6
    ·refine⟨_,by simp only[wc,↓reduceIte,h,hv,hi,dP,show¬(6:Int)<x.args.length by omega];rfl,?_⟩;simp[hx,hxy,h,hv,St]
    ·refine⟨_,by simp only[wc,↓reduceIte,h,hv,hi,dP,show(6:Int)<x.args.length by omega];rfl,?_⟩;simp[hx,hxy]) ub (λhP e h=>?_) (λhP=>by rw[Po hP]) (by simp[St,h]) (by simp)
  rw[PH hP];simp only[wc,↓reduceIte]
 ·have hr:IH ⟨hs,as,ns,fuel⟩=false:=by
   simp only[IH,Po hc,PX]
  rw[hr];refine ai ?_;by_cases c1:(18:Int)<hs.length
  ·simp only[wc,↓reduceIte,reduceCtorEq,hlen,alen,nlen,c1]
  ·by_cases c2:(10:Int)<as.length
   ·simp only[wc,↓reduceIte,reduceCtorEq,hlen,alen,nlen,c1,c2]
   ·have c3:(18:Int)<ns.length:=by omega
    simp only[wc,↓reduceIte,hlen,alen,nlen,c1,c2,c3]
def vp(w:ay):Bool:=decide (w.actors.length<=10)&&(p5 w.mail&&decide (∀x∈w.actors,decide (x.regs.length<=10)=true))
theorem GG{m:Nat}(w:ay):ak aI (m+2) 207 [aX w]=some (.bool (vp w),[]):=by
 refine an (F:=ji) rfl rfl rfl ?_ (.inr rfl);have ma:=Hj (m:=m) w.mail;generalize ak aI (m+1)=C at*;generalize bc aI=V;simp only[aX,aD,ji,vp];refine nx (by simp only[wd,↓reduceIte,Nat.reduceAdd,O7];rfl) ?_;by_cases h1:w.actors.length<=10
 rotate_left
 ·rw[Po h1,PX];refine ai ?_;simp only[wd,↓reduceIte,Nat.reduceEqDiff,reduceCtorEq,Int.reduceNeg,un,bw,show(10:Int)<w.actors.length by omega]
 have h1':¬(10:Int)<w.actors.length:=by omega
 rw[PH h1,PY];cases h2:p5 w.mail with
 |false=>
  rw[h2]at ma;refine ai ?_;simp only[wd,↓reduceIte,Nat.reduceEqDiff,Int.reduceNeg,O7,un,bw,h1',ma]
 | true=>
  rw[h2]at ma;rw[PY];refine nx (by simp only[wd,↓reduceIte,Nat.reduceEqDiff,Int.reduceNeg,O7,un,bw,h1',ma];rfl) ?_;rw[oR];refine nx (by simp only[wd,↓reduceIte];rfl) ?_;rw[m9];refine ua (n:=w.actors.length) (by omega) (λk=>(w.actors[k]?).all λx=>decide (x.regs.length<=10)) (.bool false) (λ_ e=>e 1=.lptr (aD w)) _ (λk e v h=>by simpa using h)
   (λk e hk h hv=>by
    have hz:decide ((k:Int)<(w.actors.length:Int))=decide (k<w.actors.length):=by simp
    simp only[aD]at h;by_cases hkn:k<w.actors.length<;>simp only[wd,↓reduceIte,hz,h,hv,bw,hkn])
   (λk e hk h hv=>by
    obtain⟨x,hx,_⟩:=aP hk;have hi:=oi hx;simp only[fp]at hi;have h':=h;simp only[aD]at h;by_cases hxy:x.regs.length<=10
    ·refine⟨_,by simp only[wd,↓reduceIte,h,hv,hi,dP,show¬(10:Int)<x.regs.length by omega];rfl,?_⟩;simp[hx,hxy,h',hv]
    ·refine⟨_,by simp only[wd,↓reduceIte,h,hv,hi,dP,show(10:Int)<x.regs.length by omega];rfl,?_⟩;simp[hx,hxy]) ub (λhP e h=>?_) (λhP=>by rw[Po hP]) (by simp[aD]) (by simp)
  rw[PH hP];simp only[wd,↓reduceIte]
theorem yo{w:ay}(h:vp w=true):w.actors.length<=10/\w.mail.length<=50/\(∀x∈w.mail,x.note.args.length<=6)/\∀x∈w.actors,x.regs.length<=10:=by
 unfold vp p5 at h;simp only[O6,PG]at h;obtain⟨h1,⟨h2,h3⟩,h4⟩:=h;refine⟨h1,h2,λx hx=>?_,h4⟩;obtain⟨k,hk⟩:=QO hx;have:=h3 k (List.getElem?_eq_some_iff.1 hk).1;unfold qS at this;rw[hk]at this;simpa using this
theorem DG{p:SProg}(h:IH p=true):kZ p:=by
 unfold IH at h;simp only[O6,PG]at h;obtain⟨⟨a1,a2,a3⟩,a4,a5,a6⟩:=h;exact⟨by omega,by omega,by omega,λx hx=>by have:=a4 x hx;omega,λx hx=>by have:=a5 x hx;omega,λx hx=>by have:=a6 x hx;omega⟩
end Gv
