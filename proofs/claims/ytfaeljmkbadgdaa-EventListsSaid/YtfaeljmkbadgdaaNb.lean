/- A part of the proof that the law is true of all its inputs, by an interpreter that is proved sound. -/
import Derived.Test.YtfaeljmkbadgdaaNa
namespace Gv
open Go
theorem Ht(l:List dH):(bS l).isCell=true:=rfl
theorem Hn(l:List bv):(aY l).isCell=true:=rfl
theorem HG(l:List dH):(bS l).fits none=true:=rfl
theorem HK(l:List bv):(aY l).fits none=true:=rfl
theorem EG(x y:Int):zL false [.int .i64 x,.int .i64 y]=some (.int .i64 (min x y)):=by
 simp only[zL,lU,xo];by_cases h:y<x<;>simp[h]<;>omega
theorem D6(x y:Int):zL true [.int .i64 x,.int .i64 y]=some (.int .i64 (max x y)):=by
 simp only[zL,lU,xo];by_cases h:x<y<;>simp[h]<;>omega
theorem wd:type_of%(And.intro wc (And.intro @Ht (And.intro @Hn (And.intro @HG @HK)))):=And.intro wc (And.intro @Ht (And.intro @Hn (And.intro @HG @HK)))
theorem GG{m:Nat}(a:SActor)(l:dH):aj aK (m+1) 161 [gy a,kg l]=some (.bool (iS a l),[]):=by
 refine aq (F:=iQ) rfl rfl rfl ?_ (.inr rfl);generalize aj aK m=C at*;generalize bi aK=V;have la:dp (eI a.regs)=some (.int .i64 a.regs.length):=jm;have ll:dp (eI l.regs)=some (.int .i64 l.regs.length):=jm;simp only[gy,kg,gB,iQ];have mn:=EG l.sent l.over;have mx:=D6 l.sent l.over;by_cases h1:(l.regs.length:Int)=(a.regs.length:Int)
 rotate_left
 ·rw[show iS a l=false from N3 (λh=>by omega)];simp only[wd,↓reduceIte,Nat.reduceEqDiff,Nat.reduceAdd,Int.reduceNeg,Nq,un,la,ll,h1]
 by_cases h2:0<=l.down
 rotate_left
 ·rw[show iS a l=false from N3 (λh=>by omega)];simp only[wd,↓reduceIte,Nat.reduceEqDiff,Nat.reduceAdd,Int.reduceNeg,Nq,un,la,ll,h1,h2]
 by_cases h3:l.down<=4
 rotate_left
 ·rw[show iS a l=false from N3 (λh=>by omega)];simp only[wd,↓reduceIte,Nat.reduceEqDiff,Nat.reduceAdd,Int.reduceNeg,Nq,un,la,ll,h1,h2,h3]
 by_cases h4:0<=min l.sent l.over
 rotate_left
 ·rw[show iS a l=false from N3 (λh=>by omega)];simp only[wd,↓reduceIte,Nat.reduceEqDiff,Nat.reduceAdd,Int.reduceNeg,Nq,un,la,ll,h1,h2,h3,mn,h4]
 by_cases h5:max l.sent l.over<=2199023255551
 rotate_left
 ·rw[show iS a l=false from N3 (λh=>by omega)];simp only[wd,↓reduceIte,Nat.reduceEqDiff,Nat.reduceAdd,Int.reduceNeg,Nq,un,la,ll,h1,h2,h3,mn,h4,mx,h5]
 cases h6:l.armed with
 |false=>
  rw[show iS a l=true from Oh ⟨by omega,by omega,by omega,by omega,by omega,by omega,by omega,λh=>by rw[h6]at h;cases h.1⟩];simp only[wd,↓reduceIte,Nat.reduceEqDiff,Nat.reduceAdd,Int.reduceNeg,Nq,un,la,ll,h1,h2,h3,mn,h4,mx,h5]
 | true=>
  by_cases h7:a.timer= -1
  ·rw[show iS a l=false from N3 (λh=>h.2.2.2.2.2.2.2 ⟨h6,h7⟩)];simp only[wd,↓reduceIte,Nat.reduceEqDiff,Nat.reduceAdd,Int.reduceNeg,Nq,un,la,ll,h1,h2,h3,mn,h4,mx,h5,h7]
  ·rw[show iS a l=true from Oh ⟨by omega,by omega,by omega,by omega,by omega,by omega,by omega,λh=>h7 h.2⟩];simp only[wd,↓reduceIte,Nat.reduceEqDiff,Nat.reduceAdd,Int.reduceNeg,Nq,un,la,ll,h1,h2,h3,mn,h4,mx,h5,h7]
theorem GK{w:ax}{k:Int}(h0:0<=k)(h1:k<w.actors.length):∃(j:Nat)(l:dH),k=(j:Int)/\w.actors[j]?=some l/\As w k=l.sent:=by
 obtain⟨j,rfl⟩:=OK h0;obtain⟨l,hh,_⟩:=bo (l:=w.actors) (k:=j) (by omega);exact⟨j,l,rfl,hh,by simp[As,hh]⟩
theorem Ai{m:Nat}(p:SProg)(w:ax)(x:bv):aj aK (m+2) 164 [aJ p,cq w,eG x]=some (.bool (jq p w x),[]):=by
 refine aq (F:=fO) rfl rfl rfl ?_ (.inr rfl);have hn:=EU (m:=m) p x.note;generalize aj aK (m+1)=C at*;generalize bi aK=V;simp only[aJ,aB,jr]at hn;simp only[aJ,aB,cq,aC,eG,ig,fO];refine nx (by simp only[wd,↓reduceIte,Nat.reduceAdd,Nq];rfl) ?_;by_cases h1:oX p x.note=0
 rotate_left
 ·rw[show jq p w x=false from N3 (λh=>h1 h.1)];refine an ?_;simp only[wd,↓reduceIte,Nat.reduceEqDiff,reduceCtorEq,Int.reduceNeg,hn,h1]
 by_cases h2:x.id.n<0
 ·rw[show jq p w x=false from N3 (λh=>by omega)];refine an ?_;simp only[wd,↓reduceIte,Nat.reduceEqDiff,reduceCtorEq,Int.reduceNeg,hn,h1,h2]
 by_cases h3:x.id.copy<0
 ·rw[show jq p w x=false from N3 (λh=>by omega)];refine an ?_;simp only[wd,↓reduceIte,Nat.reduceEqDiff,reduceCtorEq,Int.reduceNeg,hn,h1,h2,h3]
 by_cases h4:w.used.dup<x.id.copy
 ·rw[show jq p w x=false from N3 (λh=>by omega)];refine an ?_;simp only[wd,↓reduceIte,Nat.reduceEqDiff,reduceCtorEq,Int.reduceNeg,hn,h1,h2,h3,h4]
 by_cases h5:x.id.frm< -1
 ·rw[show jq p w x=false from N3 (λh=>by omega)];refine an ?_;simp only[wd,↓reduceIte,Nat.reduceEqDiff,reduceCtorEq,Int.reduceNeg,hn,h1,h2,h3,h4,h5]
 by_cases h6:(w.actors.length:Int)<=x.id.frm
 ·rw[show jq p w x=false from N3 (λh=>by omega)];refine an ?_;simp only[wd,↓reduceIte,Nat.reduceEqDiff,Int.reduceNeg,hn,h1,h2,h3,h4,h5,fF,h6]
 refine nx (by simp only[wd,↓reduceIte,Nat.reduceEqDiff,Int.reduceNeg,hn,h1,h2,h3,h4,h5,fF,h6];rfl) ?_;by_cases h7:x.id.frm= -1
 ·have:jq p w x=decide (x.id.n<16):=by
   unfold jq;apply decide_eq_decide.2;rw[Nt h7];exact⟨λh=>h.2.2.2.2.2.2,λh=>⟨h1,by omega,by omega,by omega,by omega,by omega,h⟩⟩
  rw[this];refine an ?_;simp only[wd,↓reduceIte,Nat.reduceEqDiff,Int.reduceNeg,h7]
 ·obtain⟨j,l,hj,hl,hs⟩:=GK (w:=w) (k:=x.id.frm) (by omega) (by omega);have il:=tY hl;simp only[gB]at il;have:jq p w x=decide (x.id.n<l.sent):=by
   unfold jq;apply decide_eq_decide.2;rw[Nw h7,hs];exact⟨λh=>h.2.2.2.2.2.2,λh=>⟨h1,by omega,by omega,by omega,by omega,by omega,h⟩⟩
  rw[this];refine nx (by simp only[wd,↓reduceIte,Nat.reduceEqDiff,Int.reduceNeg,h7];rfl) ?_;simp only[wd,↓reduceIte,Nat.reduceEqDiff,hj,il]
theorem FW{m:Nat}(p:SProg)(w:ax)(x:bv):aj aK (m+3) 163 [eG x,.lptr (xF p),.lptr (aC w)]=some (.bool (!jq p w x),[]):=by
 refine aq (F:=gH) rfl rfl rfl ?_ (.inr rfl);have hn:=Ai (m:=m) p w x;generalize aj aK (m+2)=C at*;generalize bi aK=V;simp only[aJ,aB,cq,aC,eG,ig]at hn;simp only[aB,aC,eG,ig,gH];simp only[wd,↓reduceIte,Nat.reduceEqDiff,Nat.reduceAdd,Int.reduceNeg,Nq,un,hn]
theorem AQ{m fn:Nat}{caps:List PV}{p:bv->Bool}(l:List bv)(hl:l.length<1000000000)(hC:∀x∈l,aj aK m fn (eG x::caps)=some (.bool (p x),[]))(hV:∀x∈l,bi aK fn [eG x] caps=true):
  aj aK (m+2) 162 [aY l,.fn fn caps]=some (.bool (!decide (f9 p l<0)),[]):=by
 refine aq (F:=aO) rfl rfl rfl ?_ (.inr rfl);have h:=AD (m:=m) l hl hC hV;generalize aj aK (m+1)=C at*;generalize bi aK=V;have:=FK (f9 p l);simp only[aO];simp only[wa,↓reduceIte,Env.ofArgs_at,NQ,h,this]
def zR(u:SBudget):Bool:=decide (0<=u.drop/\0<=u.dup/\0<=u.time/\0<=u.crash)
def qm(p:SProg)(w:ax)(k:Nat):Bool:=match p.actors[k]?,w.actors[k]? with|some a,some l=>iS a l|_,_=>true
def xA(p:SProg)(w:ax):Bool:=decide (∀k,k<w.actors.length->qm p w k=true)
def kD(p:SProg)(w:ax):Bool:=decide (w.actors.length=p.actors.length)&&(gZ w.mail&&(zR w.used&&(xA p w&&w.mail.all (jq p w))))
noncomputable def lF (p:SProg) (w:ax):Bool:=decide (nD p=0)&&kD p w
structure lE (w:ax):Prop where
 as:w.actors.length<1000000000
 mail:Gu w.mail
 regs:∀a∈w.actors,a.regs.length<1000000000
theorem Bn(a b c d:Int):zL false [.int .i64 a,.int .i64 b,.int .i64 c,.int .i64 d]=some (.int .i64 (min (min (min a b) c) d)):=by
 have key:∀x y:Int,xo false (.int .i64 x) (.int .i64 y)=some (.int .i64 (min x y)):=λx y=>by
  simp only[xo];by_cases h:y<x<;>simp[h]<;>omega
 simp only[zL,lU,key]
theorem zV{q:bv->Bool}{l:List bv}:decide (f9 (λx=> !q x) l<0)=l.all q:=by
 cases h:l.all q with
 |true=>
  rw[Og]at h;apply Oh;rw[v4 λk hk x hx=>by rw[h x (ND hx)];rfl];omega
 | false=>
  apply N3;rw[List.all_eq_false]at h;obtain⟨x,hx,hq⟩:=h;unfold f9;split
  ·omega
  ·rename_i hn;rw[List.findIdx?_eq_none_iff]at hn;have:=hn x hx;simp at this hq;rw[this]at hq;cases hq
theorem zQ{p:SProg}{w:ax}{k:Nat}(hk:k<w.actors.length)(h:qm p w k=false):xA p w=false:=N3 λh'=>by rw[h' k hk]at h;cases h
theorem If{m:Nat}(p:SProg)(w:ax)(hw:lE w):aj aK (m+6) 145 [aJ p,cq w]=some (.bool (kD p w),[]):=by
 refine aq (F:=jD) rfl rfl rfl ?_ (.inr rfl);have so:=Dv (m:=m) w.mail hw.mail.1;have lo:=λa l=>GG (m:=m+4) a l;have ct:=AQ (m:=m+3) (fn:=163) (caps:=[.lptr (xF p),.lptr (aC w)]) (p:=λx=> !jq p w x) w.mail hw.mail.1 (λx _=>FW (m:=m) p w x) (λx _=>rfl);generalize aj aK (m+5)=C at*;generalize bi aK=V;rw[zV]at ct;have la:=hw.as;have mn:=Bn w.used.drop w.used.dup w.used.time w.used.crash;have hm:Hm 163 (.tup [.lptr [mD p.handlers,nn p.actors,mi p.boot,.int .i64 p.fuel],.lptr [bS w.actors,aY w.mail,.int .i64 w.used.drop,.int .i64 w.used.dup,.int .i64 w.used.time,.int .i64 w.used.crash]])=some (.fn 163 [.lptr [mD p.handlers,nn p.actors,mi p.boot,.int .i64 p.fuel],.lptr [bS w.actors,aY w.mail,.int .i64 w.used.drop,.int .i64 w.used.dup,.int .i64 w.used.time,.int .i64 w.used.crash]]):=rfl;simp only[aB,aC]at ct;simp only[gy,kg,gB]at lo;simp only[aJ,aB,cq,aC,jD];refine nx (by simp only[wd,↓reduceIte,Nat.reduceAdd,Nq];rfl) ?_;have g1:((w.actors.length:Int)=(p.actors.length:Int))=(w.actors.length=p.actors.length):=by simp;omega
 by_cases h1:w.actors.length=p.actors.length
 rotate_left
 ·rw[show kD p w=false by simp[kD,h1]];refine an ?_;simp only[wd,↓reduceIte,Nat.reduceEqDiff,reduceCtorEq,Int.reduceNeg,un,fF,fC,g1,h1]
 cases h2:gZ w.mail with
 |false=>
  rw[show kD p w=false by simp[kD,h2]];rw[h2]at so;refine an ?_;simp only[wd,↓reduceIte,Nat.reduceEqDiff,reduceCtorEq,Int.reduceNeg,Nq,un,fF,fC,h1,so]
 |true=>
 rw[h2]at so;by_cases h3:min (min (min w.used.drop w.used.dup) w.used.time) w.used.crash<0
 ·have:zR w.used=false:=N3 λh=>by omega
  rw[show kD p w=false by simp[kD,this]];refine an ?_;simp only[wd,↓reduceIte,Nat.reduceEqDiff,Int.reduceNeg,Nq,un,fF,fC,h1,so,mn,h3]
 have hu:zR w.used=true:=Oh (by omega);refine nx (by simp only[wd,↓reduceIte,Nat.reduceEqDiff,Int.reduceNeg,Nq,un,fF,fC,h1,so,mn,h3];rfl) ?_;rw[rU];refine nx (by simp only[wd,↓reduceIte,Nat.reduceEqDiff,fF];rfl) ?_;rw[nh];refine za (n:=w.actors.length) (k0:=0) (by omega) (by omega) (λk=>qm p w k) (.bool false)
  (λk e=>e 2=.lptr [mD p.handlers,nn p.actors,mi p.boot,.int .i64 p.fuel]/\e 3=.lptr [bS w.actors,aY w.mail,.int .i64 w.used.drop,.int .i64 w.used.dup,.int .i64 w.used.time,.int .i64 w.used.crash]/\e 37=bS w.actors/\e 38=.int .i64 w.actors.length/\e 39=.int .i64 (k:Nat))
  (λe=>e 2=.lptr [mD p.handlers,nn p.actors,mi p.boot,.int .i64 p.fuel]/\e 3=.lptr [bS w.actors,aY w.mail,.int .i64 w.used.drop,.int .i64 w.used.dup,.int .i64 w.used.time,.int .i64 w.used.crash])
  (λk e hk hkn hp ⟨e2,e3,e37,e38,e39⟩=>?_) (λk e hk hkn hp ⟨e2,e3,e37,e38,e39⟩=>?_) (λe ⟨e2,e3,e37,e38,e39⟩=>?_) (λa e ⟨e2,e3⟩=>?_) (λk a1 a2 a3=>?_) ⟨by simp,by simp,by simp,by simp,by simp⟩
 ·obtain⟨l,hl,_⟩:=bo hkn;obtain⟨a,ha,_⟩:=bo (l:=p.actors) (k:=k) (by omega);have il:=tY hl;have ia:=tI ha;have lo:=lo a l;simp only[qm,ha,hl]at hp;rw[hp]at lo;have ad:=ey (k:=k) (by omega);simp only[gB]at il;refine⟨_,_,oU (n:=w.actors.length) (k:=k) (by simp only[wd,e38,e39,Int.ofNat_lt])|>.trans (by rw[Nt hkn]),by simp only[wd,↓reduceIte,Nat.reduceEqDiff,Nat.reduceAdd,Int.reduceNeg,Nq,un,e2,e37,e39,il,ia,lo,ad];rfl,?_⟩;simp[e2,e3,e37,e38]
 ·obtain⟨l,hl,_⟩:=bo hkn;obtain⟨a,ha,_⟩:=bo (l:=p.actors) (k:=k) (by omega);have il:=tY hl;have ia:=tI ha;have lo:=lo a l;simp only[qm,ha,hl]at hp;rw[hp]at lo;simp only[gB]at il;exact⟨_,oU (n:=w.actors.length) (k:=k) (by simp only[wd,e38,e39,Int.ofNat_lt])|>.trans (by rw[Nt hkn]),by simp only[wd,↓reduceIte,Nat.reduceEqDiff,Nat.reduceAdd,Int.reduceNeg,Nq,un,e2,e37,e39,il,ia,lo]⟩
 ·exact⟨_,oU (n:=w.actors.length) (k:=w.actors.length) (by simp only[wd,e38,e39,Int.ofNat_lt])|>.trans (by rw[Nw (Nat.lt_irrefl _)]),e2,e3⟩
 ·have hlb:xA p w=true:=Oh λk hk=>a k (OF _) hk;rw[show kD p w=w.mail.all (jq p w)by simp[kD,h1,h2,hu,hlb]];simp only[wd,↓reduceIte,Int.reduceNeg,un,e2,e3,hm,ct,Bool.not_not]
 ·rw[show kD p w=false by simp[kD,zQ a2 a3]]
theorem xS{m:Nat}(p:SProg)(hp:pC p)(w:ax)(hw:lE w):aj aK (m+7) 132 [aJ p,cq w]=some (.bool (lF p w),[]):=by
 refine aq (F:=iX) rfl rfl rfl ?_ (.inr rfl);have fl:=EM (m:=m) p hp;have ft:=If (m:=m) p w hw;generalize aj aK (m+6)=C at*;generalize bi aK=V;simp only[aJ,aB,cq,aC]at fl ft;simp only[aJ,aB,cq,aC,iX,lF];by_cases h:nD p=0
 ·simp only[wd,↓reduceIte,Nat.reduceEqDiff,Nat.reduceAdd,Nq,fl,h,ft]
 ·simp only[wd,↓reduceIte,Nat.reduceEqDiff,Nat.reduceAdd,Nq,fl,h]
end Gv
namespace Gv
open Go
def nc(b:SBudget)(kind:Int):Bool:=if kind=2 then decide (0<b.drop)else if kind=3 then decide (0<b.dup)else if kind=4 then decide (0<b.time)else if kind=5 then decide (0<b.crash)else true
def qU(w:ax)(k:Int):Int:=match w.actors[k.toNat]? with|some l=>l.down|none=>0
def w7(w:ax)(k:Int):Bool:=match w.actors[k.toNat]? with|some l=>l.armed|none=>false
def H7(w:ax)(k:Int):Int:=match w.mail[k.toNat]? with|some m=>m.note.to|none=>0
def CQ:SID:=⟨0,0,0⟩
def Ip(w:ax)(e:SEvent):Bool:=decide (e.who=0)&&(!decide (ii w.mail e.id<0)&&(!decide (e.kind=1)||decide (qU w (H7 w (ii w.mail e.id))=0)))
def Iw(w:ax)(e:SEvent):Bool:=decide (e.id=CQ)&&(decide (0<=e.who)&&(decide (e.who<w.actors.length)&&(decide (qU w e.who=0)&&(!decide (e.kind=4)||w7 w e.who))))
def oS(w:ax)(e:SEvent):Bool:=if e.kind=1∨e.kind=2∨e.kind=3 then Ip w e else if e.kind=4∨e.kind=5 then Iw w e else false
noncomputable def L7 (p:SProg) (b:SBudget) (w:ax) (e:SEvent):Bool:=lF p w&&(w9 b&&(oS w e&&nc (fK b w) e.kind))
def xi(w:ax):Prop:=∀m∈w.mail,0<=m.note.to/\m.note.to<w.actors.length
theorem Mt{p:SProg}{w:ax}(h:kD p w=true):xi w:=λm hm=>by
 simp only[kD,Np,NU,Og]at h;obtain⟨h1,_,_,_,h5⟩:=h;have h6:=(OJ (h5 m hm)).1;unfold oX at h6;split at h6
 ·omega
 ·omega
def bL(b:SBudget):PV:=.agg (bd b)
theorem yc{m:Nat}(a b:Int):aj aK (m+1) 144 [.int .i64 a,.int .i64 b]=some (.int .i64 (vG a b),[]):=by
 refine aq (F:=jB) rfl rfl rfl ?_ (.inr rfl);have hs:a9 .sub .i64 a .i64 b=some (.int .i64 (IntKind.i64.wrap (a-b))):=by simp only[a9];rw[Nw (by decide)]
 have mx:=D6 (IntKind.i64.wrap (a-b)) 0;simp only[wd,↓reduceIte,jB,hs,mx,vG]
theorem Fa{m:Nat}(b:SBudget)(w:ax):aj aK (m+2) 131 [bL b,cq w]=some (bL (fK b w),[]):=by
 refine aq (F:=jJ) rfl rfl rfl ?_ (.inl rfl);have hl:=λa b=>yc (m:=m) a b;generalize aj aK (m+1)=C at*;generalize bi aK=V;simp only[bL,bd,cq,aC,jJ,fK];simp only[wd,↓reduceIte,Nat.reduceEqDiff,Nat.reduceAdd,Nq,hl]
theorem GW(a b c d:Int):zL true [.int .i64 a,.int .i64 b,.int .i64 c,.int .i64 d]=some (.int .i64 (max (max (max a b) c) d)):=by
 have key:∀x y:Int,xo true (.int .i64 x) (.int .i64 y)=some (.int .i64 (max x y)):=λx y=>by
  simp only[xo];by_cases h:x<y<;>simp[h]<;>omega
 simp only[zL,lU,key]
theorem Dz{m:Nat}(b:SBudget):aj aK (m+1) 124 [bL b]=some (.bool (w9 b),[]):=by
 refine aq (F:=lq) rfl rfl rfl ?_ (.inr rfl);have mn:=Bn b.drop b.dup b.time b.crash;have mx:=GW b.drop b.dup b.time b.crash;simp only[bL,bd,lq,w9];by_cases h1:0<=min (min (min b.drop b.dup) b.time) b.crash
 ·by_cases h2:max (max (max b.drop b.dup) b.time) b.crash<=1000
  ·rw[Oh (by omega)];simp only[wd,↓reduceIte,Nat.reduceAdd,Nq,mn,mx,h1,h2]
  ·rw[N3 (by omega)];simp only[wd,↓reduceIte,Nat.reduceAdd,Nq,mn,mx,h1,h2]
 ·rw[N3 (by omega)];simp only[wd,↓reduceIte,Nat.reduceAdd,Nq,mn,mx,h1]
theorem Ev{m:Nat}(b:SBudget)(k:Int):aj aK (m+1) 137 [bL b,.int .i64 k]=some (.bool (nc b k),[]):=by
 refine aq (F:=jC) rfl rfl rfl ?_ (.inr rfl);simp only[bL,bd,jC,nc];by_cases h2:k=2
 ·simp only[wd,↓reduceIte,Nat.reduceEqDiff,Nat.reduceAdd,Nq,h2]
 by_cases h3:k=3
 ·simp only[wd,↓reduceIte,Nat.reduceEqDiff,Nat.reduceAdd,Int.reduceEq,Nq,h3]
 by_cases h4:k=4
 ·simp only[wd,↓reduceIte,Nat.reduceEqDiff,Nat.reduceAdd,Int.reduceEq,Nq,h4]
 by_cases h5:k=5
 ·simp only[wd,↓reduceIte,Nat.reduceEqDiff,Nat.reduceAdd,Int.reduceEq,Nq,h5]
 simp only[wd,↓reduceIte,Nat.reduceEqDiff,Nat.reduceAdd,Nq,h2,h3,h4,h5]
theorem Gd{w:ax}(ht:xi w){i:SID}(h:¬ii w.mail i<0):∃(k:Nat)(x:bv)(j:Nat)(l:dH),ii w.mail i=k/\w.mail[k]?=some x/\x.id=i/\x.note.to=(j:Int)/\w.actors[j]?=some l/\H7 w (ii w.mail i)=(j:Int)/\qU w (j:Int)=l.down:=by
 obtain⟨k,x,h1,_,h3,h4⟩:=yq h;obtain⟨t0,t1⟩:=ht x (ND h3);obtain⟨j,hj⟩:=OK t0;obtain⟨l,hl,_⟩:=bo (l:=w.actors) (k:=j) (by omega);exact⟨k,x,j,l,h1,h3,h4,hj,hl,by rw[h1];simp[H7,h3,hj],by simp[qU,hl]⟩
theorem Em{w:ax}{k:Int}(h0:0<=k)(h1:k<w.actors.length):∃(j:Nat)(l:dH),k=(j:Int)/\w.actors[j]?=some l/\qU w k=l.down/\w7 w k=l.armed:=by
 obtain⟨j,rfl⟩:=OK h0;obtain⟨l,hh,_⟩:=bo (l:=w.actors) (k:=j) (by omega);exact⟨j,l,rfl,hh,by simp[qU,hh],by simp[w7,hh]⟩
theorem Mu(x:SID):pR false [false,false,false] (.agg [.int .i64 x.frm,.int .i64 x.n,.int .i64 x.copy]) (.agg [.int .i64 0,.int .i64 0,.int .i64 0])=some (.bool (decide (x=CQ))):=LY x CQ
theorem HP{m:Nat}(w:ax)(hw:lE w)(ht:xi w)(e:SEvent):aj aK (m+4) 136 [cq w,bp e]=some (.bool (oS w e),[]):=by
 refine aq (F:=kX) rfl rfl rfl ?_ (.inr rfl);have fd:=Es (m:=m) w.mail hw.mail.1 e.id;generalize aj aK (m+3)=C at*;generalize bi aK=V;have gq:=FK (ii w.mail e.id);have ez:=Mu e.id;simp only[xD,zy]at fd;simp only[cq,aC,bp,dL,kX];refine nx (by simp only[wd,↓reduceIte,Nat.reduceAdd,Nq];rfl) ?_;by_cases hk:e.kind=1∨e.kind=2∨e.kind=3
 ·rw[oS,Nt hk,Ip];refine an ?_;refine nx (by simp only[wd,↓reduceIte,Nat.reduceEqDiff];rfl) (aU ?_);have head:∀env:Env,env 7=.int .i64 e.kind->∃e1,aI C V (.seq (.st [.asg [] [(8,(.bin .eql (.v 7) (N 1)))]]) (.cond (.v 8) .skip (.seq (.st [.asg [] [(8,(.bin .eql (.v 7) (N 2)))]]) (.cond (.v 8) .skip (.st [.asg [] [(8,(.bin .eql (.v 7) (N 3)))]]))))) env=some (.norm e1)/\e1 8=.bool true/\∀n,n≠8->e1 n=env n:=λenv h7=>by
   by_cases k1:e.kind=1
   ·exact⟨_,by simp only[wd,↓reduceIte,h7,k1];rfl,by simp,λn hn=>by simp[hn]⟩
   by_cases k2:e.kind=2
   ·exact⟨_,by simp only[wd,↓reduceIte,Nat.reduceEqDiff,Int.reduceEq,h7,k2];rfl,by simp,λn hn=>by simp[hn]⟩
   have k3:e.kind=3:=by omega
   exact⟨_,by simp only[wd,↓reduceIte,Nat.reduceEqDiff,Int.reduceEq,h7,k3];rfl,by simp,λn hn=>by simp[hn]⟩
  obtain⟨e1,g1,g8,gn⟩:=head ((((Env.ofArgs [.agg [bS w.actors,aY w.mail,.int .i64 w.used.drop,.int .i64 w.used.dup,.int .i64 w.used.time,.int .i64 w.used.crash],.agg [.int .i64 e.kind,.int .i64 e.id.frm,.int .i64 e.id.n,.int .i64 e.id.copy,.int .i64 e.who]]).set 3 (.lptr [.int .i64 e.kind,.int .i64 e.id.frm,.int .i64 e.id.n,.int .i64 e.id.copy,.int .i64 e.who])).set 2 (.lptr [bS w.actors,aY w.mail,.int .i64 w.used.drop,.int .i64 w.used.dup,.int .i64 w.used.time,.int .i64 w.used.crash])).set 7 (.int .i64 e.kind)) (by simp);refine nx g1 ?_;have g2:=gn 2 (by omega);have g3:=gn 3 (by omega);simp only[Env.set_at,Nat.reduceEqDiff,Oc,Oa]at g2 g3;by_cases q1:e.who=0
  rotate_left
  ·rw[N3 q1,Ow];simp only[wd,↓reduceIte,Nat.reduceEqDiff,g8,g2,g3,fd,q1]
  by_cases q2:ii w.mail e.id<0
  ·rw[Oh q2]at gq;rw[Oh q2,Pk,Ow,Bool.and_false];have q2':¬0<=ii w.mail e.id:=by omega
   simp only[wd,↓reduceIte,Nat.reduceEqDiff,g8,g2,g3,fd,q1,q2']
  obtain⟨k,x,j,l,f1,f2,f3,f4,f5,f6,f7⟩:=Gd ht q2;have ix:=qx f2;have il:=tY f5;simp only[ig]at ix;simp only[gB]at il;have q3:(0:Int)<=(k:Int):=by omega
  rw[f6,f7,Oh q1,N3 q2,Bool.not_false,Om,Om];rw[f1]at fd;by_cases k1:e.kind=1
  ·by_cases q4:l.down=0
   ·simp only[wd,↓reduceIte,Nat.reduceEqDiff,g8,g2,g3,fd,q1,q3,k1,ix,f4,il,q4,Bool.or_true]
   ·simp only[wd,↓reduceIte,Nat.reduceEqDiff,g8,g2,g3,fd,q1,q3,k1,ix,f4,il,q4,Bool.or_false]
  ·simp only[wd,↓reduceIte,Nat.reduceEqDiff,reduceCtorEq,g8,g2,g3,fd,q1,q3,k1,Bool.true_or]
 ·rw[oS,Nw hk];have k1:¬e.kind=1:=λh=>hk (.inl h);have k2:¬e.kind=2:=λh=>hk (.inr (.inl h));have k3:¬e.kind=3:=λh=>hk (.inr (.inr h));by_cases hk2:e.kind=4∨e.kind=5
  rotate_left
  ·have k4:¬e.kind=4:=λh=>hk2 (.inl h);have k5:¬e.kind=5:=λh=>hk2 (.inr h);rw[Nw hk2];simp only[wd,↓reduceIte,Nat.reduceEqDiff,k1,k2,k3,k4,k5]
  rw[Nt hk2,Iw];refine an ?_;refine nx (by simp only[wd,↓reduceIte,Nat.reduceEqDiff];rfl) (aU ?_);refine nx (by simp only[wd,↓reduceIte,Nat.reduceEqDiff,k1,k2,k3];rfl) ?_;have k45:¬e.kind=4->e.kind=5:=λh=>by omega
  by_cases q1:e.id=CQ
  rotate_left
  ·rw[N3 q1]at ez;rw[N3 q1,Ow];by_cases k4:e.kind=4
   ·simp only[wd,↓reduceIte,Nat.reduceEqDiff,k4,ez]
   ·simp only[wd,↓reduceIte,Nat.reduceEqDiff,Int.reduceEq,k45 k4,ez]
  rw[Oh q1]at ez;rw[Oh q1,Om];by_cases q2:0<=e.who
  rotate_left
  ·rw[N3 q2,Ow];by_cases k4:e.kind=4
   ·simp only[wd,↓reduceIte,Nat.reduceEqDiff,k4,ez,q2]
   ·simp only[wd,↓reduceIte,Nat.reduceEqDiff,Int.reduceEq,k45 k4,ez,q2]
  rw[Oh q2,Om];by_cases q3:e.who<w.actors.length
  rotate_left
  ·rw[N3 q3,Ow];by_cases k4:e.kind=4
   ·simp only[wd,↓reduceIte,Nat.reduceEqDiff,k4,ez,q2,fF,q3]
   ·simp only[wd,↓reduceIte,Nat.reduceEqDiff,Int.reduceEq,k45 k4,ez,q2,fF,q3]
  rw[Oh q3,Om];obtain⟨j,l,f1,f2,f3,f4⟩:=Em q2 q3;have il:=tY f2;simp only[gB]at il;rw[f3,f4];rw[f1]at q2 q3;by_cases q4:l.down=0
  rotate_left
  ·rw[N3 q4,Ow];by_cases k4:e.kind=4
   ·simp only[wd,↓reduceIte,Nat.reduceEqDiff,k4,ez,f1,q2,fF,q3,il,q4]
   ·simp only[wd,↓reduceIte,Nat.reduceEqDiff,Int.reduceEq,k45 k4,ez,f1,q2,fF,q3,il,q4]
  rw[Oh q4,Om];by_cases k4:e.kind=4
  ·simp only[wd,↓reduceIte,Nat.reduceEqDiff,k4,ez,f1,q2,fF,q3,il,q4,O0]
  ·simp only[wd,↓reduceIte,Nat.reduceEqDiff,reduceCtorEq,Int.reduceEq,k45 k4,ez,f1,q2,fF,q3,il,q4,Bool.true_or]
theorem MO{m:Nat}(p:SProg)(hp:pC p)(b:SBudget)(w:ax)(hw:lE w)(e:SEvent):aj aK (m+8) 122 [aJ p,bL b,cq w,bp e]=some (.bool (L7 p b w e),[]):=by
 refine aq (F:=mV) rfl rfl rfl ?_ (.inr rfl);have ck:=xS (m:=m) p hp w hw;have my:=Dz (m:=m+6) b;have cn:=λht=>HP (m:=m+3) w hw ht e;have lf:=Fa (m:=m+5) b w;have pd:=λb k=>Ev (m:=m+6) b k;generalize aj aK (m+7)=C at*;generalize bi aK=V;simp only[aJ,aB,cq,aC,bL,bd,bp,dL]at ck my cn lf pd;simp only[aJ,aB,cq,aC,bL,bd,bp,dL,mV,L7];cases h1:lF p w with
 |false=>
  rw[h1]at ck;simp only[wd,↓reduceIte,Nat.reduceEqDiff,Nat.reduceAdd,Nq,ck]
 | true=>
  rw[h1]at ck;have ht:xi w:=Mt (p:=p) (by simp only[lF,Np]at h1;exact h1.2);have cn:=cn ht;cases h2:w9 b with
  |false=>
   rw[h2]at my;simp only[wd,↓reduceIte,Nat.reduceEqDiff,Nat.reduceAdd,Nq,ck,my]
  | true=>
   rw[h2]at my;cases h3:oS w e with
   |false=>
    rw[h3]at cn;simp only[wd,↓reduceIte,Nat.reduceEqDiff,Nat.reduceAdd,Nq,ck,my,cn]
   |true=>
    rw[h3]at cn;simp only[wd,↓reduceIte,Nat.reduceEqDiff,Nat.reduceAdd,Nq,ck,my,cn,lf,pd]
end Gv
namespace Gv
open Go
def nr(w:ax)(k:Nat):ax:=match w.actors[k]? with|some l=>{w with actors:=w.actors.set k {l with over:=l.over+1}}|none=>w
def ES(p:SProg)(k:Nat):Int:=match p.actors[k]? with|some a=>a.cap|none=>0
def kQ(p:SProg)(w:ax)(x:bv):ax:=
 if(Fv w.mail x.note.to:Int)<ES p x.note.to.toNat/\ii w.mail x.id<0 then{w with mail:=zO w.mail x}else nr w x.note.to.toNat
def iu(p:SProg)(frm first:Int):List SNote->Nat->ax->ax
 |[],_,w=>w
 |n::l,i,w=>iu p frm first l (i+1) (if 0<=n.to/\n.to<min (p.actors.length:Int) w.actors.length then kQ p w ⟨⟨frm,first+i,0⟩,n⟩else w)
structure PostOk (w:ax) (n:Nat):Prop where
 as:w.actors.length<1000000000
 ml:w.mail.length+n<1000000000
 args:∀x∈w.mail,x.note.args.length<1000000000
 over:∀l∈w.actors,-1000000000000000000<=l.over/\l.over+n<=1000000000000000000
theorem PostOk.sml{w:ax}{n:Nat}(h:PostOk w n):Gu w.mail:=⟨by have:=h.ml;omega,h.args⟩
theorem CU(w:ax)(k:Nat):(nr w k).actors.length=w.actors.length:=by
 unfold nr;split<;>simp
theorem CE(p:SProg)(w:ax)(x:bv):(kQ p w x).actors.length=w.actors.length:=by
 unfold kQ;split
 ·rfl
 ·exact CU _ _
theorem PostOk.post{p:SProg}{w:ax}{n:Nat}{x:bv}(h:PostOk w (n+1))(hx:x.note.args.length<1000000000):PostOk (kQ p w x) n:=by
 have h1:=h.ml;unfold kQ;split
 ·refine⟨h.as,by simp only[BP];omega,λy hy=>?_,λl hl=>by have:=h.over l hl;omega⟩;rcases GF.1 hy with rfl|hy
  ·exact hx
  ·exact h.args y hy
 ·unfold nr;split
  ·rename_i l hl;refine⟨by simpa using h.as,by simp only;omega,h.args,λy hy=>?_⟩;have hm:=ND hl;rcases O6 hy with hy|rfl
   ·have:=h.over y hy;omega
   ·have:=h.over l hm;simp only;omega
  ·exact⟨h.as,by omega,h.args,λl hl=>by have:=h.over l hl;omega⟩
theorem Mr{ls:List dH}{k:Nat}{l:dH}{x:Int}(h:ls[k]?=some l):z9 none (bS ls) (.int .i64 (k:Nat)) 4 (.int .i64 x)=some (bS (ls.set k {l with over:=x})):=by
 have hl:=(List.getElem?_eq_some_iff.1 h).1;have hg:(ls.map kg)[k]?=some (kg l):=by simp[h]
 simp only[z9,bS];rw[Nt (by simp;omega)];simp only[Pl,hg];rw[Nt ⟨rfl,rfl,by simp[kg,gB,PV.cells]⟩];simp[List.map_set,PV.withCells,PV.cells,kg,gB]
theorem Jn{m:Nat}(p:SProg)(w:ax)(n:Nat)(hw:PostOk w (n+1))(x:bv)(hx:x.note.args.length<1000000000)(ht:0<=x.note.to/\x.note.to<min (p.actors.length:Int) w.actors.length):
  aj aK (m+8) 141 [aJ p,.lptr (aC w),eG x]=some (.tup [],[.lptr (aC (kQ p w x))]):=by
 refine aq (F:=jK) rfl rfl rfl ?_ (.inr rfl);have to:=MV (m:=m+6) w.mail hw.sml.1 x.note.to;have pt:=KM (m:=m) w.mail hw.sml x hx;generalize aj aK (m+7)=C at*;generalize bi aK=V;obtain⟨j,hj⟩:=OK ht.1;obtain⟨a,ha,_⟩:=bo (l:=p.actors) (k:=j) (by omega);obtain⟨l,hl,hm⟩:=bo (l:=w.actors) (k:=j) (by omega);have ia:=tI ha;have il:=tY hl;have ho:=hw.over l hm;have ad:=zu (x:=l.over) (y:=1) (by omega) (by omega);have up:=Mr (x:=l.over+1) hl;have hc:ES p x.note.to.toNat=a.cap:=by rw[hj];simp[ES,ha]
 simp only[gB]at il;simp only[eG,ig]at pt;simp only[aJ,aB,aC,eG,ig,jK];rw[kQ,hc];have hov:nr w x.note.to.toNat={w with actors:=w.actors.set j {l with over:=l.over+1}}:=by rw[hj];simp[nr,hl]
 rw[hov];rw[hj]at to pt⊢;by_cases h1:(Fv w.mail (j:Int):Int)<a.cap
 ·by_cases h2:ii w.mail x.id<0
  ·rw[Nt ⟨h1,h2⟩];rw[xl,Nt h2]at pt;refine an ?_;simp only[wd,↓reduceIte,Nat.reduceEqDiff,Nat.reduceAdd,Nq,to,ia,h1,pt]
  ·rw[Nw (λh=>h2 h.2)];rw[xl,Nw h2]at pt;refine nx (by simp only[wd,↓reduceIte,Nat.reduceEqDiff,Nat.reduceAdd,Int.reduceEq,Nq,to,ia,h1,pt,il,ad,up];rfl) ?_;simp only[wd,↓reduceIte]
 ·rw[Nw (λh=>h1 h.1)];refine nx (by simp only[wd,↓reduceIte,Nat.reduceEqDiff,Nat.reduceAdd,Nq,to,ia,h1,il,ad,up];rfl) ?_;simp only[wd,↓reduceIte]
def hI(p:SProg)(frm first:Int)(n:SNote)(i:Nat)(w:ax):ax:=if 0<=n.to/\n.to<min (p.actors.length:Int) w.actors.length then kQ p w ⟨⟨frm,first+i,0⟩,n⟩else w
theorem pn(p:SProg)(frm first:Int)(n:SNote):∀(l:List SNote)(i:Nat)(w:ax),iu p frm first (l++[n]) i w=hI p frm first n (i+l.length) (iu p frm first l i w)
 |[],i,w=>rfl
 |x::l,i,w=>by
  simp only[OM,iu,NW];rw[pn p frm first n l (i+1)];rw[show i+1+l.length=i+(l.length+1)by omega]
theorem wN(p:SProg)(frm first:Int)(n:SNote)(i:Nat)(w:ax):(hI p frm first n i w).actors.length=w.actors.length:=by
 unfold hI;split
 ·exact CE _ _ _
 ·rfl
theorem qV(p:SProg)(frm first:Int):∀(l:List SNote)(i:Nat)(w:ax),(iu p frm first l i w).actors.length=w.actors.length
 |[],_,_=>rfl
 |n::l,i,w=>by
  have h:=wN p frm first n i w
  unfold hI at h;rw[iu,qV p frm first l (i+1),h]
theorem PostOk.less{w:ax}{n m:Nat}(h:PostOk w n)(hm:m<=n):PostOk w m:=⟨h.as,by have:=h.ml;omega,h.args,λl hl=>by have:=h.over l hl;omega⟩
theorem PostOk.step{p:SProg}{w:ax}{frm first:Int}{i m:Nat}{n:SNote}(h:PostOk w (m+1))(hn:n.args.length<1000000000):PostOk (hI p frm first n i w) m:=by
 unfold hI;split
 ·exact h.post hn
 ·exact h.less (by omega)
theorem PostOk.take{p:SProg}{w:ax}{frm first:Int}{l:List SNote}(h:PostOk w l.length)(hn:∀n∈l,n.args.length<1000000000):∀k,k<=l.length->PostOk (iu p frm first (l.take k) 0 w) (l.length-k)
 |0,_=>h
 |k+1,hk=>by
  obtain⟨n,hn',hm⟩:=bo (l:=l) (k:=k) (by omega);rw[eY hn',pn];have ih:=PostOk.take (p:=p) (frm:=frm) (first:=first) h hn k (by omega);rw[show l.length-k=(l.length-(k+1))+1 by omega]at ih;exact ih.step (hn n hm)
theorem I5{m:Nat}(p:SProg)(w:ax)(frm first:Int)(l:List SNote)(hl:l.length<1000000)(hw:PostOk w l.length)(hn:∀n∈l,n.args.length<1000000000)(hf:(frm= -1/\first=0)∨∃(k:Nat)(x:dH),frm=(k:Int)/\w.actors[k]?=some x/\first=x.sent-l.length/\ -1000000000000000000<=x.sent/\x.sent<=1000000000000000000):
  aj aK (m+9) 129 [aJ p,.lptr (aC w),.int .i64 frm,mi l]=some (.tup [],[.lptr (aC (iu p frm first l 0 w))]):=by
 refine aq (F:=jG) rfl rfl rfl ?_ (.inr rfl);have ps:=λw n(h:PostOk w (n+1)) x hx ht=>Jn (m:=m) p w n h x hx ht;generalize aj aK (m+8)=C at*;generalize bi aK=V;have lw:∀k,(iu p frm first (l.take k) 0 w).actors.length=w.actors.length:=λk=>qV _ _ _ _ _ _;have hfb: -2000000000000000000<=first/\first<=2000000000000000000:=by
  rcases hf with⟨_,h⟩|⟨k,x,_,_,h,_,_⟩<;>omega
 simp only[aJ,aB,eG,ig]at ps;simp only[aJ,aB,jG];rw[rU];refine nx (by simp only[wd,↓reduceIte,Nat.reduceAdd,Nq,aC];rfl) ?_;rw[rU];have pre:∃e1,aI C V (.seq (.st [.asg [(.bin .geq (.v 2) (N 0))] []]) (.cond (.bin .geq (.v 2) (N 0)) (.st [.asg [] [(8,(.bin .sub (.ld none (.ia 5 (.ld none (.v 4000) 0) (.v 2)) 3) (.len (.v 3))))]]) .skip)) ((((Env.ofArgs [.agg [mD p.handlers,nn p.actors,mi p.boot,.int .i64 p.fuel],.lptr (aC w),.int .i64 frm,mi l]).set 4 (.lptr [mD p.handlers,nn p.actors,mi p.boot,.int .i64 p.fuel])).set 4000 (.lptr (aC w))).set 8 (.int .i64 0))=some (.norm e1)/\e1 8=.int .i64 first/\e1 2=.int .i64 frm/\e1 3=mi l/\e1 4=.lptr [mD p.handlers,nn p.actors,mi p.boot,.int .i64 p.fuel]/\e1 4000=.lptr (aC w):=by
  rcases hf with⟨rfl,rfl⟩|⟨k,x,rfl,hx,rfl,hb1,hb2⟩
  ·refine⟨_,by simp only[wd,↓reduceIte,Nat.reduceEqDiff,Int.reduceNeg,show¬(0:Int)<= -1 by omega];rfl,by simp,by simp[Env.ofArgs_at],by simp[Env.ofArgs_at],by simp,by simp⟩
  ·have ix:=tY hx;have sb:=BN (x:=x.sent) (y:=(l.length:Int)) (by omega) (by omega);simp only[gB]at ix;refine⟨_,by simp only[wd,↓reduceIte,Nat.reduceEqDiff,show(0:Int)<=(k:Int)by omega,aC,ix,mH,sb];rfl,by simp,by simp[Env.ofArgs_at],by simp[Env.ofArgs_at],by simp,by simp[aC]⟩
 obtain⟨e1,g1,g8,g2,g3,g4,gw⟩:=pre;simp only[aC]at g1;refine nx g1 ?_;rw[rU];refine nx (by simp only[wd,↓reduceIte,g3,mH];rfl) ?_;rw[ni];refine lC (gk (n:=l.length) (by omega) (λk e=>e 25=.int .i64 l.length/\e 24=mi l/\e 2=.int .i64 frm/\e 4=.lptr [mD p.handlers,nn p.actors,mi p.boot,.int .i64 p.fuel]/\e 8=.int .i64 first/\e 4000=.lptr (aC (iu p frm first (l.take k) 0 w))) (λk e v h=>by simpa using h) (λk e h=>h.1) (λk e hk ⟨s25,s24,s2,s4,s8,sw⟩ hv=>?_) ⟨by simp,by simp,by simp[g2],by simp[g4],by simp[g8],by simp[gw,iu]⟩ (by simp)) (λe h=>?_)
 ·obtain⟨n,hn',hm⟩:=bo hk;have ix:=Ds hn';have hP:=PostOk.take (p:=p) (frm:=frm) (first:=first) hw hn k (by omega);rw[show l.length-k=(l.length-(k+1))+1 by omega]at hP;have hlen:=lw k;have mn:=EG (p.actors.length:Int) (w.actors.length:Int);have ad:=zu (x:=first) (y:=(k:Int)) (by omega) (by omega);rw[eY hn',pn,NP,show 0+min k l.length=k by omega];generalize iu p frm first (l.take k) 0 w=u at*
  by_cases q1:0<=n.to
  ·by_cases q2:n.to<min (p.actors.length:Int) w.actors.length
   ·have ps:=ps u _ hP ⟨⟨frm,first+k,0⟩,n⟩ (hn n hm) ⟨q1,by rw[hlen];exact q2⟩;simp only[aC]at ps sw;refine⟨_,by simp only[wd,↓reduceIte,Nat.reduceEqDiff,Nat.reduceAdd,Nq,s2,s4,s8,s24,sw,hv,ix,q1,fC,fF,hlen,mn,q2,ad,ps];rfl,?_,by simp[hv]⟩;rw[hI,Nt ⟨q1,by rw[hlen];exact q2⟩];simp[s25,s24,s2,s4,s8,aC]
   ·simp only[aC]at sw;refine⟨_,by simp only[wd,↓reduceIte,Nat.reduceEqDiff,Nat.reduceAdd,Nq,s4,s24,sw,hv,ix,q1,fC,fF,hlen,mn,q2];rfl,?_,by simp[hv]⟩;rw[hI,Nw (λh=>q2 (by rw[hlen]at h;exact h.2))];simp[s25,s24,s2,s4,s8,sw,aC]
  ·simp only[aC]at sw;refine⟨_,by simp only[wd,↓reduceIte,Nat.reduceEqDiff,Nat.reduceAdd,Nq,s4,s24,sw,hv,ix,q1];rfl,?_,by simp[hv]⟩;rw[hI,Nw (λh=>q1 h.1)];simp[s25,s24,s2,s4,s8,sw,aC]
 ·obtain⟨s25,s24,s2,s4,s8,sw⟩:=h;rw[OX]at sw;simp only[aC]at sw;simp only[wd,↓reduceIte,sw,aC]
def zW:ax:=⟨[],[],⟨0,0,0,0⟩⟩
def ri(p:SProg):ax:=⟨p.actors.map pS,[],⟨0,0,0,0⟩⟩
def gb(p:SProg):ax:=iu p (-1) 0 p.boot 0 (ri p)
theorem zw:∀l:List dH,bO 5 (l.map kg)=true
 |[]=>rfl
 |x::l=>by simp only[N5,bO,kg,gB,PV.cells,NW,N9,Nat.reduceAdd,Nq,Om];exact zw l
theorem My{a b:List dH}(h:a.length+b.length<2147483648):jl 5 (bS a) (bS b)=some (bS (a++b)):=by
 simp only[bS,jl];rw[Nt ⟨zw b,by simp only[Ob];exact h⟩,OO]
theorem BY{p:SProg}(hp:G8 p):PostOk (ri p) p.boot.length:=by
 have:=hp.as;have:=hp.ns;refine⟨by simp[ri];omega,by simp[ri];omega,by simp[ri],λl hl=>?_⟩;simp only[ri,List.mem_map]at hl;obtain⟨a,_,rfl⟩:=hl;simp only[pS];omega
theorem wA{p:SProg}(h:nD p=0):G8 p/\∀x∈p.handlers,gW p x.code:=by
 unfold nD at h;split at h
 ·rename_i h1;exact absurd h h1
 ·rename_i h1;refine⟨MZ (Decidable.of_not_not h1),λx hx=>?_⟩;have:=iG.1 h x hx;unfold t8 at this;split at this
  ·assumption
  ·omega
theorem vQ{p:SProg}(hp:G8 p):∀n∈p.boot,n.args.length<1000000000:=λn hn=>by
 have h:=hp.boot n hn;unfold oX at h;split at h
 ·omega
 ·split at h
  ·omega
  ·rename_i h1 h2;have h2:=Decidable.of_not_not h2;obtain⟨j,x,hj,hx,ha⟩:=sv (p:=p) (k:=n.handler) (by omega) (by omega);have:=hp.args x (ND hx);omega
theorem Gq{m:Nat}(p:SProg)(hp:pC p):aj aK (m+10) 117 [aJ p]=some (.tup [cq (if nD p=0 then gb p else zW),.int .i64 (nD p)],[]):=by
 refine aq (F:=iT) rfl rfl rfl ?_ (.inl rfl);have fl:=EM (m:=m+3) p hp;have cl:=λa(ha:a∈p.actors)=>Br (m:=m+8) a.regs (hp.regs a ha);have gv:=λ(ok:G8 p)=>I5 (m:=m) p (ri p) (-1) 0 p.boot (by have:=ok.ns;omega) (BY ok) (vQ ok) (.inl ⟨rfl,rfl⟩);generalize aj aK (m+9)=C at*;generalize bi aK=V;have e0:aY []=.lst [] false:=rfl;have e1:bS []=.lst [] false:=rfl;simp only[aJ,aB]at fl gv;simp only[aJ,aB,cq,iT];refine nx (by simp only[wd,↓reduceIte,Nat.reduceAdd,Nq];rfl) ?_;by_cases h0:nD p=0
 rotate_left
 ·rw[Nw h0];refine an ?_;simp only[wd,↓reduceIte,Nat.reduceEqDiff,fl,h0,aC,zW,e0,e1]
 obtain⟨ok,_⟩:=wA h0;have gv:=gv ok;have las:=ok.as;rw[Nt h0];refine nx (by simp only[wd,↓reduceIte,fl,h0];rfl) ?_;rw[rU];refine nx (by simp only[wd,↓reduceIte,Nat.reduceEqDiff,fC];rfl) ?_;rw[mh];refine lC (gk (n:=p.actors.length) (by omega) (λk e=>e 15=.int .i64 p.actors.length/\e 14=nn p.actors/\e 1=.lptr [mD p.handlers,nn p.actors,mi p.boot,.int .i64 p.fuel]/\e 2=.lptr [bS ((p.actors.take k).map pS),aY [],.int .i64 0,.int .i64 0,.int .i64 0,.int .i64 0]) (λk e v h=>by simpa using h) (λk e h=>h.1) (λk e hk ⟨s15,s14,s1,s2⟩ hv=>?_) ⟨by simp,by simp,by simp,by simp[e0,e1]⟩ (by simp)) (λe ⟨s15,s14,s1,s2⟩=>?_)
 ·obtain⟨a,ha,hm⟩:=bo hk;have ia:=tI ha;have cl:=cl a hm;have ap:=My (a:=(p.actors.take k).map pS) (b:=[pS a]) (by simp;omega);have el:bS [pS a]=.lst [.agg [eI a.regs,.bool a.armed,.int .i64 0,.int .i64 0,.int .i64 0]] false:=rfl;rw[el]at ap;refine⟨_,by simp only[wd,↓reduceIte,Nat.reduceEqDiff,Nat.reduceAdd,Nq,s2,s14,hv,ia,cl,ap];rfl,?_,by simp[hv]⟩;rw[eY ha];simp[s1,s14,s15]
 ·rw[OX]at s2;simp only[aC,ri]at gv;simp only[wd,↓reduceIte,Nat.reduceEqDiff,Nat.reduceAdd,Int.reduceNeg,s1,s2,gv,h0,aC,gb,ri]
end Gv
namespace Gv
open Go
end Gv
namespace Gv
open Go
theorem wj{α:Type}{l:List α}{q:α->Bool}:(∀k,k<l.length->(l[k]?).all q=true)↔∀x∈l,q x=true:=by
 constructor
 ·intro h x hx;obtain⟨k,hk,rfl⟩:=List.mem_iff_getElem.1 hx;have:=h k hk;rw[Ns hk]at this;simpa using this
 ·intro h k hk;rw[Ns hk];simpa using h _ (List.getElem_mem hk)
def Hx(p:SProg):Bool:=decide (p.handlers.length<=18/\p.actors.length<=10/\p.boot.length<=18)&&(decide (∀x∈p.handlers,decide (x.code.length<=70)=true)&&(decide (∀x∈p.actors,decide (x.regs.length<=10)=true)&&decide (∀x∈p.boot,decide (x.args.length<=6)=true)))
theorem Ek{m:Nat}{p:SProg}:aj aK (m+1) 46 [aJ p]=some (.bool (Hx p),[]):=by
 refine aq (F:=iN) rfl rfl rfl ?_ (.inr rfl);generalize aj aK m=C;generalize bi aK=V;obtain⟨hs,as,ns,fuel⟩:=p;have hlen:dp (mD hs)=some (.int .i64 hs.length):=iz;have alen:dp (nn as)=some (.int .i64 as.length):=fC;have nlen:dp (mi ns)=some (.int .i64 ns.length):=mH;simp only[aJ,aB,iN,lJ,lI,l9];refine nx (by simp only[wc,↓reduceIte,Nat.reduceAdd,Nq];rfl) ?_;by_cases hc:hs.length<=18/\as.length<=10/\ns.length<=18
 ·obtain⟨c1,c2,c3⟩:=hc;refine nx (by simp only[wc,↓reduceIte,hlen,alen,nlen,show¬(18:Int)<hs.length by omega,show¬(10:Int)<as.length by omega,show¬(18:Int)<ns.length by omega];rfl) ?_;have hr:Hx ⟨hs,as,ns,fuel⟩=(decide (∀x∈hs,decide (x.code.length<=70)=true)&&(decide (∀x∈as,decide (x.regs.length<=10)=true)&&decide (∀x∈ns,decide (x.args.length<=6)=true))):=by
   simp only[Hx,c1,c2,c3,and_self,Po,Om]
  rw[hr];rw[rU];refine nx (by simp only[wc,↓reduceIte];rfl) ?_
  let St:Nat->Env->Prop:=λ_ e=>e 1=.lptr [mD hs,nn as,mi ns,.int .i64 fuel]
  refine wU (n:=hs.length) (by omega) (λk=>(hs[k]?).all λx=>decide (x.code.length<=70)) (.bool false) St _ (λk e v h=>by simpa[St]using h)
   (λk e hk h hv=>by
              have h:e 1=_:=h;have hz:decide ((k:Int)<(hs.length:Int))=decide (k<hs.length):=by simp
              by_cases hkn:k<hs.length<;>simp only[wc,↓reduceIte,hz,h,hv,hlen,hkn])
   (λk e hk h hv=>by
    obtain⟨x,hx,_⟩:=bo hk;have h:e 1=_:=h;have hi:au 2 (mD hs) (.int .i64 (k:Nat))=some (.lptr [.int .i64 x.args,eD x.code]):=Hv hx;by_cases hxy:x.code.length<=70
    ·refine⟨_,by simp only[wc,↓reduceIte,h,hv,hi,lY,show¬(70:Int)<x.code.length by omega];rfl,?_⟩;simp[hx,hxy,h,hv,St]
    ·refine⟨_,by simp only[wc,↓reduceIte,h,hv,hi,lY,show(70:Int)<x.code.length by omega];rfl,?_⟩;simp[hx,hxy]) wj (λhP e h=>?_) (λhP=>by rw[N3 hP,Ow]) (by simp[St]) (by simp)
  have h:e 1=_:=h;rw[Oh hP,Om];rw[rU];refine nx (by simp only[wc,↓reduceIte];rfl) ?_;refine wU (n:=as.length) (by omega) (λk=>(as[k]?).all λx=>decide (x.regs.length<=10)) (.bool false) St _ (λk e v h=>by simpa[St]using h)
   (λk e hk h hv=>by
              have h:e 1=_:=h;have hz:decide ((k:Int)<(as.length:Int))=decide (k<as.length):=by simp
              by_cases hkn:k<as.length<;>simp only[wc,↓reduceIte,hz,h,hv,alen,hkn])
   (λk e hk h hv=>by
    obtain⟨x,hx,_⟩:=bo hk;have h:e 1=_:=h;have hi:au 4 (nn as) (.int .i64 (k:Nat))=some (.lptr [eI x.regs,.int .i64 x.cap,.int .i64 x.timer,.bool x.armed]):=HS hx;by_cases hxy:x.regs.length<=10
    ·refine⟨_,by simp only[wc,↓reduceIte,h,hv,hi,jm,show¬(10:Int)<x.regs.length by omega];rfl,?_⟩;simp[hx,hxy,h,hv,St]
    ·refine⟨_,by simp only[wc,↓reduceIte,h,hv,hi,jm,show(10:Int)<x.regs.length by omega];rfl,?_⟩;simp[hx,hxy]) wj (λhP e h=>?_) (λhP=>by rw[N3 hP,Ow]) (by simp[St,h]) (by simp)
  have h:e 1=_:=h;rw[Oh hP,Om];rw[rU];refine nx (by simp only[wc,↓reduceIte];rfl) ?_;refine wU (n:=ns.length) (by omega) (λk=>(ns[k]?).all λx=>decide (x.args.length<=6)) (.bool false) St _ (λk e v h=>by simpa[St]using h)
   (λk e hk h hv=>by
              have h:e 1=_:=h;have hz:decide ((k:Int)<(ns.length:Int))=decide (k<ns.length):=by simp
              by_cases hkn:k<ns.length<;>simp only[wc,↓reduceIte,hz,h,hv,nlen,hkn])
   (λk e hk h hv=>by
    obtain⟨x,hx,_⟩:=bo hk;have h:e 1=_:=h;have hi:au 3 (mi ns) (.int .i64 (k:Nat))=some (.lptr [.int .i64 x.to,.int .i64 x.handler,eI x.args]):=HB hx;by_cases hxy:x.args.length<=6
    ·refine⟨_,by simp only[wc,↓reduceIte,h,hv,hi,jm,show¬(6:Int)<x.args.length by omega];rfl,?_⟩;simp[hx,hxy,h,hv,St]
    ·refine⟨_,by simp only[wc,↓reduceIte,h,hv,hi,jm,show(6:Int)<x.args.length by omega];rfl,?_⟩;simp[hx,hxy]) wj (λhP e h=>?_) (λhP=>by rw[N3 hP]) (by simp[St,h]) (by simp)
  rw[Oh hP];simp only[wc,↓reduceIte]
 ·have hr:Hx ⟨hs,as,ns,fuel⟩=false:=by
   simp only[Hx,N3 hc,Ow]
  rw[hr];refine an ?_;by_cases c1:(18:Int)<hs.length
  ·simp only[wc,↓reduceIte,reduceCtorEq,hlen,alen,nlen,c1]
  ·by_cases c2:(10:Int)<as.length
   ·simp only[wc,↓reduceIte,reduceCtorEq,hlen,alen,nlen,c1,c2]
   ·have c3:(18:Int)<ns.length:=by omega
    simp only[wc,↓reduceIte,hlen,alen,nlen,c1,c2,c3]
end Gv
