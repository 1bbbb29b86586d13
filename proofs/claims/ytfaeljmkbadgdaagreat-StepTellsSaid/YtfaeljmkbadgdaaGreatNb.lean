/- A part of the proof that the law is true of all its inputs, by an interpreter that is proved sound. -/
import Derived.Test.YtfaeljmkbadgdaaGreatNa
namespace Gv
open Go
theorem Mq(l:List aT):(aW l).isCell=true:=rfl
theorem Mt(l:List aV):(aJ l).isCell=true:=rfl
theorem Mi(l:List aT):(aW l).fits none=true:=rfl
theorem LZ(l:List aV):(aJ l).fits none=true:=rfl
theorem Im(x y:Int):Eu false [.int .i64 x,.int .i64 y]=some (.int .i64 (min x y)):=by
 simp only[Eu,nZ,A9];by_cases h:y<x<;>simp[h]<;>omega
theorem EF(x y:Int):Eu true [.int .i64 x,.int .i64 y]=some (.int .i64 (max x y)):=by
 simp only[Eu,nZ,A9];by_cases h:x<y<;>simp[h]<;>omega
theorem wd:type_of%(And.intro wc (And.intro @Mq (And.intro @Mt (And.intro @Mi @LZ)))):=And.intro wc (And.intro @Mq (And.intro @Mt (And.intro @Mi @LZ)))
theorem La{m:Nat}(a:SActor)(l:aT):aj aG (m+1) 161 [jt a,bl l]=some (.bool (ed a l),[]):=by
 refine am (F:=jY) rfl rfl rfl ?_ (.inr rfl);generalize aj aG m=C at*;generalize aY aG=V;have la:bO (eI a.regs)=some (.int .i64 a.regs.length):=cE;have ll:bO (eI l.regs)=some (.int .i64 l.regs.length):=cE;simp only[jt,bl,br,jY];have mn:=Im l.sent l.over;have mx:=EF l.sent l.over;by_cases h1:(l.regs.length:Int)=(a.regs.length:Int)
 rotate_left
 ·rw[show ed a l=false from TP (λh=>by omega)];simp only[wd,↓reduceIte,Nat.reduceEqDiff,Nat.reduceAdd,Int.reduceNeg,Tz,un,la,ll,h1]
 by_cases h2:0<=l.down
 rotate_left
 ·rw[show ed a l=false from TP (λh=>by omega)];simp only[wd,↓reduceIte,Nat.reduceEqDiff,Nat.reduceAdd,Int.reduceNeg,Tz,un,la,ll,h1,h2]
 by_cases h3:l.down<=4
 rotate_left
 ·rw[show ed a l=false from TP (λh=>by omega)];simp only[wd,↓reduceIte,Nat.reduceEqDiff,Nat.reduceAdd,Int.reduceNeg,Tz,un,la,ll,h1,h2,h3]
 by_cases h4:0<=min l.sent l.over
 rotate_left
 ·rw[show ed a l=false from TP (λh=>by omega)];simp only[wd,↓reduceIte,Nat.reduceEqDiff,Nat.reduceAdd,Int.reduceNeg,Tz,un,la,ll,h1,h2,h3,mn,h4]
 by_cases h5:max l.sent l.over<=2199023255551
 rotate_left
 ·rw[show ed a l=false from TP (λh=>by omega)];simp only[wd,↓reduceIte,Nat.reduceEqDiff,Nat.reduceAdd,Int.reduceNeg,Tz,un,la,ll,h1,h2,h3,mn,h4,mx,h5]
 cases h6:l.armed with
 |false=>
  rw[show ed a l=true from T3 ⟨by omega,by omega,by omega,by omega,by omega,by omega,by omega,λh=>by rw[h6]at h;cases h.1⟩];simp only[wd,↓reduceIte,Nat.reduceEqDiff,Nat.reduceAdd,Int.reduceNeg,Tz,un,la,ll,h1,h2,h3,mn,h4,mx,h5]
 | true=>
  by_cases h7:a.timer= -1
  ·rw[show ed a l=false from TP (λh=>h.2.2.2.2.2.2.2 ⟨h6,h7⟩)];simp only[wd,↓reduceIte,Nat.reduceEqDiff,Nat.reduceAdd,Int.reduceNeg,Tz,un,la,ll,h1,h2,h3,mn,h4,mx,h5,h7]
  ·rw[show ed a l=true from T3 ⟨by omega,by omega,by omega,by omega,by omega,by omega,by omega,λh=>h7 h.2⟩];simp only[wd,↓reduceIte,Nat.reduceEqDiff,Nat.reduceAdd,Int.reduceNeg,Tz,un,la,ll,h1,h2,h3,mn,h4,mx,h5,h7]
theorem Bo{w:aq}{k:Int}(h0:0<=k)(h1:k<w.actors.length):∃(j:Nat)(l:aT),k=(j:Int)/\w.actors[j]?=some l/\Aq w k=l.sent:=by
 obtain⟨j,rfl⟩:=Ug h0;obtain⟨l,hh,_⟩:=aN (l:=w.actors) (k:=j) (by omega);exact⟨j,l,rfl,hh,by simp[Aq,hh]⟩
theorem Ek{m:Nat}(p:SProg)(w:aq)(x:aV):aj aG (m+2) 164 [aA p,aE w,dk x]=some (.bool (dI p w x),[]):=by
 refine am (F:=iB) rfl rfl rfl ?_ (.inr rfl);have hn:=Ir (m:=m) p x.note;generalize aj aG (m+1)=C at*;generalize aY aG=V;simp only[aA,ao,eK]at hn;simp only[aA,ao,aE,ay,dk,co,iB];refine nx (by simp only[wd,↓reduceIte,Nat.reduceAdd,Tz];rfl) ?_;by_cases h1:gW p x.note=0
 rotate_left
 ·rw[show dI p w x=false from TP (λh=>h1 h.1)];refine ah ?_;simp only[wd,↓reduceIte,Nat.reduceEqDiff,reduceCtorEq,Int.reduceNeg,hn,h1]
 by_cases h2:x.id.n<0
 ·rw[show dI p w x=false from TP (λh=>by omega)];refine ah ?_;simp only[wd,↓reduceIte,Nat.reduceEqDiff,reduceCtorEq,Int.reduceNeg,hn,h1,h2]
 by_cases h3:x.id.copy<0
 ·rw[show dI p w x=false from TP (λh=>by omega)];refine ah ?_;simp only[wd,↓reduceIte,Nat.reduceEqDiff,reduceCtorEq,Int.reduceNeg,hn,h1,h2,h3]
 by_cases h4:w.used.dup<x.id.copy
 ·rw[show dI p w x=false from TP (λh=>by omega)];refine ah ?_;simp only[wd,↓reduceIte,Nat.reduceEqDiff,reduceCtorEq,Int.reduceNeg,hn,h1,h2,h3,h4]
 by_cases h5:x.id.frm< -1
 ·rw[show dI p w x=false from TP (λh=>by omega)];refine ah ?_;simp only[wd,↓reduceIte,Nat.reduceEqDiff,reduceCtorEq,Int.reduceNeg,hn,h1,h2,h3,h4,h5]
 by_cases h6:(w.actors.length:Int)<=x.id.frm
 ·rw[show dI p w x=false from TP (λh=>by omega)];refine ah ?_;simp only[wd,↓reduceIte,Nat.reduceEqDiff,Int.reduceNeg,hn,h1,h2,h3,h4,h5,bn,h6]
 refine nx (by simp only[wd,↓reduceIte,Nat.reduceEqDiff,Int.reduceNeg,hn,h1,h2,h3,h4,h5,bn,h6];rfl) ?_;by_cases h7:x.id.frm= -1
 ·have:dI p w x=decide (x.id.n<16):=by
   unfold dI;apply decide_eq_decide.2;rw[TB h7];exact⟨λh=>h.2.2.2.2.2.2,λh=>⟨h1,by omega,by omega,by omega,by omega,by omega,h⟩⟩
  rw[this];refine ah ?_;simp only[wd,↓reduceIte,Nat.reduceEqDiff,Int.reduceNeg,h7]
 ·obtain⟨j,l,hj,hl,hs⟩:=Bo (w:=w) (k:=x.id.frm) (by omega) (by omega);have il:=eQ hl;simp only[br]at il;have:dI p w x=decide (x.id.n<l.sent):=by
   unfold dI;apply decide_eq_decide.2;rw[TF h7,hs];exact⟨λh=>h.2.2.2.2.2.2,λh=>⟨h1,by omega,by omega,by omega,by omega,by omega,h⟩⟩
  rw[this];refine nx (by simp only[wd,↓reduceIte,Nat.reduceEqDiff,Int.reduceNeg,h7];rfl) ?_;simp only[wd,↓reduceIte,Nat.reduceEqDiff,hj,il]
theorem KE{m:Nat}(p:SProg)(w:aq)(x:aV):aj aG (m+3) 163 [dk x,.lptr (BO p),.lptr (ay w)]=some (.bool (!dI p w x),[]):=by
 refine am (F:=jm) rfl rfl rfl ?_ (.inr rfl);have hn:=Ek (m:=m) p w x;generalize aj aG (m+2)=C at*;generalize aY aG=V;simp only[aA,ao,aE,ay,dk,co]at hn;simp only[ao,ay,dk,co,jm];simp only[wd,↓reduceIte,Nat.reduceEqDiff,Nat.reduceAdd,Int.reduceNeg,Tz,un,hn]
theorem En{m fn:Nat}{caps:List PV}{p:aV->Bool}(l:List aV)(hl:l.length<1000000000)(hC:∀x∈l,aj aG m fn (dk x::caps)=some (.bool (p x),[]))(hV:∀x∈l,aY aG fn [dk x] caps=true):
  aj aG (m+2) 162 [aJ l,.fn fn caps]=some (.bool (!decide (fM p l<0)),[]):=by
 refine am (F:=aX) rfl rfl rfl ?_ (.inr rfl);have h:=EJ (m:=m) l hl hC hV;generalize aj aG (m+1)=C at*;generalize aY aG=V;have:=Hp (fM p l);simp only[aX];simp only[wa,↓reduceIte,Env.ofArgs_at,TS,h,this]
def ul(u:SBudget):Bool:=decide (0<=u.drop/\0<=u.dup/\0<=u.time/\0<=u.crash)
def kY(p:SProg)(w:aq)(k:Nat):Bool:=match p.actors[k]?,w.actors[k]? with|some a,some l=>ed a l|_,_=>true
def tD(p:SProg)(w:aq):Bool:=decide (∀k,k<w.actors.length->kY p w k=true)
def gf(p:SProg)(w:aq):Bool:=decide (w.actors.length=p.actors.length)&&(nc w.mail&&(ul w.used&&(tD p w&&w.mail.all (dI p w))))
noncomputable def fg (p:SProg) (w:aq):Bool:=decide (iY p=0)&&gf p w
structure jN (w:aq):Prop where
 as:w.actors.length<1000000000
 mail:xj w.mail
 regs:∀a∈w.actors,a.regs.length<1000000000
theorem E9(a b c d:Int):Eu false [.int .i64 a,.int .i64 b,.int .i64 c,.int .i64 d]=some (.int .i64 (min (min (min a b) c) d)):=by
 have key:∀x y:Int,A9 false (.int .i64 x) (.int .i64 y)=some (.int .i64 (min x y)):=λx y=>by
  simp only[A9];by_cases h:y<x<;>simp[h]<;>omega
 simp only[Eu,nZ,key]
theorem DW{q:aV->Bool}{l:List aV}:decide (fM (λx=> !q x) l<0)=l.all q:=by
 cases h:l.all q with
 |true=>
  rw[Ut]at h;apply T3;rw[uh λk hk x hx=>by rw[h x (TC hx)];rfl];omega
 | false=>
  apply TP;rw[List.all_eq_false]at h;obtain⟨x,hx,hq⟩:=h;unfold fM;split
  ·omega
  ·rename_i hn;rw[List.findIdx?_eq_none_iff]at hn;have:=hn x hx;simp at this hq;rw[this]at hq;cases hq
theorem yi{p:SProg}{w:aq}{k:Nat}(hk:k<w.actors.length)(h:kY p w k=false):tD p w=false:=TP λh'=>by rw[h' k hk]at h;cases h
theorem Nl{m:Nat}(p:SProg)(w:aq)(hw:jN w):aj aG (m+6) 145 [aA p,aE w]=some (.bool (gf p w),[]):=by
 refine am (F:=lL) rfl rfl rfl ?_ (.inr rfl);have so:=JJ (m:=m) w.mail hw.mail.1;have lo:=λa l=>La (m:=m+4) a l;have ct:=En (m:=m+3) (fn:=163) (caps:=[.lptr (BO p),.lptr (ay w)]) (p:=λx=> !dI p w x) w.mail hw.mail.1 (λx _=>KE (m:=m) p w x) (λx _=>rfl);generalize aj aG (m+5)=C at*;generalize aY aG=V;rw[DW]at ct;have la:=hw.as;have mn:=E9 w.used.drop w.used.dup w.used.time w.used.crash;have hm:NM 163 (.tup [.lptr [iw p.handlers,i4 p.actors,dS p.boot,.int .i64 p.fuel],.lptr [aW w.actors,aJ w.mail,.int .i64 w.used.drop,.int .i64 w.used.dup,.int .i64 w.used.time,.int .i64 w.used.crash]])=some (.fn 163 [.lptr [iw p.handlers,i4 p.actors,dS p.boot,.int .i64 p.fuel],.lptr [aW w.actors,aJ w.mail,.int .i64 w.used.drop,.int .i64 w.used.dup,.int .i64 w.used.time,.int .i64 w.used.crash]]):=rfl;simp only[ao,ay]at ct;simp only[jt,bl,br]at lo;simp only[aA,ao,aE,ay,lL];refine nx (by simp only[wd,↓reduceIte,Nat.reduceAdd,Tz];rfl) ?_;have g1:((w.actors.length:Int)=(p.actors.length:Int))=(w.actors.length=p.actors.length):=by simp;omega
 by_cases h1:w.actors.length=p.actors.length
 rotate_left
 ·rw[show gf p w=false by simp[gf,h1]];refine ah ?_;simp only[wd,↓reduceIte,Nat.reduceEqDiff,reduceCtorEq,Int.reduceNeg,un,bn,bP,g1,h1]
 cases h2:nc w.mail with
 |false=>
  rw[show gf p w=false by simp[gf,h2]];rw[h2]at so;refine ah ?_;simp only[wd,↓reduceIte,Nat.reduceEqDiff,reduceCtorEq,Int.reduceNeg,Tz,un,bn,bP,h1,so]
 |true=>
 rw[h2]at so;by_cases h3:min (min (min w.used.drop w.used.dup) w.used.time) w.used.crash<0
 ·have:ul w.used=false:=TP λh=>by omega
  rw[show gf p w=false by simp[gf,this]];refine ah ?_;simp only[wd,↓reduceIte,Nat.reduceEqDiff,Int.reduceNeg,Tz,un,bn,bP,h1,so,mn,h3]
 have hu:ul w.used=true:=T3 (by omega);refine nx (by simp only[wd,↓reduceIte,Nat.reduceEqDiff,Int.reduceNeg,Tz,un,bn,bP,h1,so,mn,h3];rfl) ?_;rw[mM];refine nx (by simp only[wd,↓reduceIte,Nat.reduceEqDiff,bn];rfl) ?_;rw[pH];refine BV (n:=w.actors.length) (k0:=0) (by omega) (by omega) (λk=>kY p w k) (.bool false)
  (λk e=>e 2=.lptr [iw p.handlers,i4 p.actors,dS p.boot,.int .i64 p.fuel]/\e 3=.lptr [aW w.actors,aJ w.mail,.int .i64 w.used.drop,.int .i64 w.used.dup,.int .i64 w.used.time,.int .i64 w.used.crash]/\e 37=aW w.actors/\e 38=.int .i64 w.actors.length/\e 39=.int .i64 (k:Nat))
  (λe=>e 2=.lptr [iw p.handlers,i4 p.actors,dS p.boot,.int .i64 p.fuel]/\e 3=.lptr [aW w.actors,aJ w.mail,.int .i64 w.used.drop,.int .i64 w.used.dup,.int .i64 w.used.time,.int .i64 w.used.crash])
  (λk e hk hkn hp ⟨e2,e3,e37,e38,e39⟩=>?_) (λk e hk hkn hp ⟨e2,e3,e37,e38,e39⟩=>?_) (λe ⟨e2,e3,e37,e38,e39⟩=>?_) (λa e ⟨e2,e3⟩=>?_) (λk a1 a2 a3=>?_) ⟨by simp,by simp,by simp,by simp,by simp⟩
 ·obtain⟨l,hl,_⟩:=aN hkn;obtain⟨a,ha,_⟩:=aN (l:=p.actors) (k:=k) (by omega);have il:=eQ hl;have ia:=gY ha;have lo:=lo a l;simp only[kY,ha,hl]at hp;rw[hp]at lo;have ad:=bT (k:=k) (by omega);simp only[br]at il;refine⟨_,_,pz (n:=w.actors.length) (k:=k) (by simp only[wd,e38,e39,Ux])|>.trans (by rw[TB hkn]),by simp only[wd,↓reduceIte,Nat.reduceEqDiff,Nat.reduceAdd,Int.reduceNeg,Tz,un,e2,e37,e39,il,ia,lo,ad];rfl,?_⟩;simp[e2,e3,e37,e38]
 ·obtain⟨l,hl,_⟩:=aN hkn;obtain⟨a,ha,_⟩:=aN (l:=p.actors) (k:=k) (by omega);have il:=eQ hl;have ia:=gY ha;have lo:=lo a l;simp only[kY,ha,hl]at hp;rw[hp]at lo;simp only[br]at il;exact⟨_,pz (n:=w.actors.length) (k:=k) (by simp only[wd,e38,e39,Ux])|>.trans (by rw[TB hkn]),by simp only[wd,↓reduceIte,Nat.reduceEqDiff,Nat.reduceAdd,Int.reduceNeg,Tz,un,e2,e37,e39,il,ia,lo]⟩
 ·exact⟨_,pz (n:=w.actors.length) (k:=w.actors.length) (by simp only[wd,e38,e39,Ux])|>.trans (by rw[TF (Nat.lt_irrefl _)]),e2,e3⟩
 ·have hlb:tD p w=true:=T3 λk hk=>a k (UN _) hk;rw[show gf p w=w.mail.all (dI p w)by simp[gf,h1,h2,hu,hlb]];simp only[wd,↓reduceIte,Int.reduceNeg,un,e2,e3,hm,ct,Bool.not_not]
 ·rw[show gf p w=false by simp[gf,yi a2 a3]]
theorem BR{m:Nat}(p:SProg)(hp:fL p)(w:aq)(hw:jN w):aj aG (m+7) 132 [aA p,aE w]=some (.bool (fg p w),[]):=by
 refine am (F:=jO) rfl rfl rfl ?_ (.inr rfl);have fl:=N9 (m:=m) p hp;have ft:=Nl (m:=m) p w hw;generalize aj aG (m+6)=C at*;generalize aY aG=V;simp only[aA,ao,aE,ay]at fl ft;simp only[aA,ao,aE,ay,jO,fg];by_cases h:iY p=0
 ·simp only[wd,↓reduceIte,Nat.reduceEqDiff,Nat.reduceAdd,Tz,fl,h,ft]
 ·simp only[wd,↓reduceIte,Nat.reduceEqDiff,Nat.reduceAdd,Tz,fl,h]
theorem EI{q:aV->Bool}{l:List aV}{k:Nat}{x:aV}(hx:l[k]?=some x)(h:q x=false):l.all q=false:=by
 rw[List.all_eq_false];exact⟨x,TC hx,by simp[h]⟩
theorem zq{m:Nat}(p:SProg)(hp:fL p)(w:aq)(hw:jN w):aj aG (m+5) 226 [aA p,aE w]=some (.bool (fg p w),[]):=by
 refine am (F:=fU) rfl rfl rfl ?_ (.inr rfl);have fl:=Fh (m:=m) p hp;have so:=Ha (m:=m+2) w.mail hw.mail.1;have nt:=λn=>Fj (m:=m+3) p n;generalize aj aG (m+4)=C at*;generalize aY aG=V;have la:=hw.as;have lm:=hw.mail.1;have lmm:bO (aJ w.mail)=some (.int .i64 w.mail.length):=jG;simp only[aA,ao,eK]at fl nt;simp only[aA,ao,aE,ay,fU,fg];refine nx (by simp only[wd,↓reduceIte,Nat.reduceAdd,Tz];rfl) ?_;have g1:((w.actors.length:Int)=(p.actors.length:Int))=(w.actors.length=p.actors.length):=by simp;omega
 by_cases h0:iY p=0
 rotate_left
 ·refine ah ?_;simp only[wd,↓reduceIte,Nat.reduceEqDiff,reduceCtorEq,Int.reduceNeg,un,fl,h0]
 by_cases h1:w.actors.length=p.actors.length
 rotate_left
 ·rw[show gf p w=false by simp[gf,h1]];refine ah ?_;simp only[wd,↓reduceIte,Nat.reduceEqDiff,reduceCtorEq,Int.reduceNeg,un,fl,h0,bn,bP,g1,h1,VD]
 cases h2:nc w.mail with
 |false=>
  rw[show gf p w=false by simp[gf,h2]];rw[h2]at so;refine ah ?_;simp only[wd,↓reduceIte,Nat.reduceEqDiff,Int.reduceNeg,Tz,un,fl,h0,bn,bP,h1,so,VD]
 |true=>
 rw[h2]at so;refine nx (by simp only[wd,↓reduceIte,Nat.reduceEqDiff,Int.reduceNeg,Tz,un,fl,h0,bn,bP,h1,so];rfl) ?_;rw[mM];refine nx (by simp only[wd,↓reduceIte];rfl) ?_;rw[kv];simp only[h0,Uz,Uj];refine rb (n:=w.actors.length) (k0:=0) (by omega) (by omega) (λk=>kY p w k) (.bool false)
  (λk e=>e 2=.lptr [iw p.handlers,i4 p.actors,dS p.boot,.int .i64 p.fuel]/\e 3=.lptr [aW w.actors,aJ w.mail,.int .i64 w.used.drop,.int .i64 w.used.dup,.int .i64 w.used.time,.int .i64 w.used.crash]/\e 5=.int .i64 (k:Nat))
  (λe=>e 2=.lptr [iw p.handlers,i4 p.actors,dS p.boot,.int .i64 p.fuel]/\e 3=.lptr [aW w.actors,aJ w.mail,.int .i64 w.used.drop,.int .i64 w.used.dup,.int .i64 w.used.time,.int .i64 w.used.crash])
  (λk e hk hkn hp ⟨e2,e3,e5⟩=>?_) (λk e hk hkn hp ⟨e2,e3,e5⟩=>?_) (λe ⟨e2,e3,e5⟩=>?_) (λa e ⟨e2,e3⟩=>?_) (λk a1 a2 a3=>?_) ⟨by simp,by simp,by simp⟩
 ·obtain⟨l,hl,_⟩:=aN hkn;obtain⟨a,ha,_⟩:=aN (l:=p.actors) (k:=k) (by omega);have il:=eQ hl;have ia:=gY ha;simp only[kY,ha,hl]at hp;have hp:=UE hp;have lr:bO (eI l.regs)=some (.int .i64 l.regs.length):=cE;have ar:bO (eI a.regs)=some (.int .i64 a.regs.length):=cE;have ad:=bT (k:=k) (by omega);have hlt:((k<w.actors.length):Prop)=True:=by simp;omega
  have q1:(l.regs.length:Int)=(a.regs.length:Int):=by omega
  have q2:¬l.down<0:=by omega
  have q3:¬4<l.down:=by omega
  have q4:¬l.sent<0:=by omega
  have q5:¬2199023255552<=l.sent:=by omega
  have q6:¬l.over<0:=by omega
  have q7:¬2199023255552<=l.over:=by omega
  simp only[br]at il;cases h6:l.armed with
  |false=>
   refine⟨_,_,by simp only[wd,↓reduceIte,e3,e5,bn,Ux,hlt];rfl,by simp only[wd,↓reduceIte,Nat.reduceEqDiff,Nat.reduceAdd,Int.reduceNeg,Tz,e2,e3,e5,il,ia,lr,ar,q1,q2,q3,q4,q5,q6,q7,h6,ad];rfl,?_⟩;simp[e2,e3]
  |true=>
   have q8:¬a.timer= -1:=λh=>hp.2.2.2.2.2.2.2 ⟨h6,h⟩;refine⟨_,_,by simp only[wd,↓reduceIte,e3,e5,bn,Ux,hlt];rfl,by simp only[wd,↓reduceIte,Nat.reduceEqDiff,Nat.reduceAdd,Int.reduceNeg,Tz,e2,e3,e5,il,ia,lr,ar,q1,q2,q3,q4,q5,q6,q7,h6,q8,ad];rfl,?_⟩;simp[e2,e3]
 ·obtain⟨l,hl,_⟩:=aN hkn;obtain⟨a,ha,_⟩:=aN (l:=p.actors) (k:=k) (by omega);have il:=eQ hl;have ia:=gY ha;simp only[kY,ha,hl]at hp;have hp:=of_decide_eq_false hp;have lr:bO (eI l.regs)=some (.int .i64 l.regs.length):=cE;have ar:bO (eI a.regs)=some (.int .i64 a.regs.length):=cE;have hlt:((k<w.actors.length):Prop)=True:=by simp;omega
  simp only[br]at il;refine⟨_,by simp only[wd,↓reduceIte,e3,e5,bn,Ux,hlt];rfl,?_⟩;by_cases q1:(l.regs.length:Int)=(a.regs.length:Int)
  rotate_left
  ·simp only[wd,↓reduceIte,Nat.reduceEqDiff,reduceCtorEq,Nat.reduceAdd,Int.reduceNeg,Tz,e2,e3,e5,il,ia,lr,ar,q1]
  by_cases q2:l.down<0
  ·simp only[wd,↓reduceIte,Nat.reduceEqDiff,reduceCtorEq,Nat.reduceAdd,Int.reduceNeg,Tz,e2,e3,e5,il,ia,lr,ar,q1,q2]
  by_cases q3:4<l.down
  ·simp only[wd,↓reduceIte,Nat.reduceEqDiff,reduceCtorEq,Nat.reduceAdd,Int.reduceNeg,Tz,e2,e3,e5,il,ia,lr,ar,q1,q2,q3]
  by_cases q4:l.sent<0
  ·simp only[wd,↓reduceIte,Nat.reduceEqDiff,reduceCtorEq,Nat.reduceAdd,Int.reduceNeg,Tz,e2,e3,e5,il,ia,lr,ar,q1,q2,q3,q4]
  by_cases q5:2199023255552<=l.sent
  ·simp only[wd,↓reduceIte,Nat.reduceEqDiff,reduceCtorEq,Nat.reduceAdd,Int.reduceNeg,Tz,e2,e3,e5,il,ia,lr,ar,q1,q2,q3,q4,q5]
  by_cases q6:l.over<0
  ·simp only[wd,↓reduceIte,Nat.reduceEqDiff,reduceCtorEq,Nat.reduceAdd,Int.reduceNeg,Tz,e2,e3,e5,il,ia,lr,ar,q1,q2,q3,q4,q5,q6]
  by_cases q7:2199023255552<=l.over
  ·simp only[wd,↓reduceIte,Nat.reduceEqDiff,reduceCtorEq,Nat.reduceAdd,Int.reduceNeg,Tz,e2,e3,e5,il,ia,lr,ar,q1,q2,q3,q4,q5,q6,q7]
  have q8:l.armed=true/\a.timer= -1:=by
   by_cases h:l.armed=true/\a.timer= -1
   ·exact h
   ·exact absurd ⟨by omega,by omega,by omega,by omega,by omega,by omega,by omega,h⟩ hp
  simp only[wd,↓reduceIte,Nat.reduceEqDiff,Nat.reduceAdd,Int.reduceNeg,Tz,e2,e3,e5,il,ia,lr,ar,q1,q2,q3,q4,q5,q6,q7,q8.1,q8.2]
 ·have hlt:((w.actors.length<w.actors.length):Prop)=False:=by simp
  exact⟨e,by simp only[wd,↓reduceIte,e3,e5,bn,Ux,hlt],e2,e3⟩
 ·have hlb:tD p w=true:=T3 λk hk=>a k (UN _) hk;have hf:gf p w=(ul w.used&&w.mail.all (dI p w)):=by simp[gf,h1,h2,hlb]
  rw[hf,mM];refine nx (by simp only[wd,↓reduceIte];rfl) ?_;rw[kt];refine rb (n:=w.mail.length) (k0:=0) (by omega) (by omega) (λk=>(w.mail[k]?).elim true (dI p w)) (.bool false)
   (λk e=>e 2=.lptr [iw p.handlers,i4 p.actors,dS p.boot,.int .i64 p.fuel]/\e 3=.lptr [aW w.actors,aJ w.mail,.int .i64 w.used.drop,.int .i64 w.used.dup,.int .i64 w.used.time,.int .i64 w.used.crash]/\e 7=.int .i64 (k:Nat))
   (λe=>e 3=.lptr [aW w.actors,aJ w.mail,.int .i64 w.used.drop,.int .i64 w.used.dup,.int .i64 w.used.time,.int .i64 w.used.crash])
   (λk e hk hkn hp ⟨e2,e3,e7⟩=>?_) (λk e hk hkn hp ⟨e2,e3,e7⟩=>?_) (λe ⟨e2,e3,e7⟩=>?_) (λa e e3=>?_) (λk a1 a2 a3=>?_) ⟨by simp[e2],by simp[e3],by simp⟩
  ·obtain⟨x,hx,_⟩:=aN hkn;have ix:=dR hx;simp only[hx,Option.elim]at hp;have hp:=UE hp;have nt:=nt x.note;have ad:=bT (k:=k) (by omega);have hlt:((k<w.mail.length):Prop)=True:=by simp;omega
   have q1:gW p x.note=0:=hp.1;have q2:¬x.id.frm< -1:=by omega
   have q3:¬(w.actors.length:Int)<=x.id.frm:=by omega
   have q4:¬x.id.n<0:=by omega
   have q5:¬x.id.copy<0:=by omega
   have q6:¬w.used.dup<x.id.copy:=by omega
   have hp7:=hp.2.2.2.2.2.2;simp only[co]at ix;rw[q1]at nt;by_cases q7:x.id.frm= -1
   ·rw[TB q7]at hp7;have q8:¬16<=x.id.n:=by omega
    rw[q7]at q2 q3;have q9:(-1:Int)<0:=by omega
    refine⟨_,_,by simp only[wd,↓reduceIte,e3,e7,lmm,Ux,hlt];rfl,by simp only[wd,↓reduceIte,Nat.reduceEqDiff,Nat.reduceAdd,Nat.reduceLeDiff,Int.reduceLE,Int.reduceNeg,Tz,e2,e3,e7,ix,nt,q7,q2,q3,bn,q4,q5,q6,q8,q9,ad];rfl,?_⟩;simp[e2,e3]
   ·rw[TF q7]at hp7;obtain⟨j,l,hj,hl,hs⟩:=Bo (w:=w) (k:=x.id.frm) (by omega) (by omega);have il:=eQ hl;simp only[br]at il;rw[hs]at hp7;have q8:¬l.sent<=x.id.n:=by omega
    rw[hj]at q2 q3;have q9:¬(j:Int)<0:=by omega
    have q10:(0:Int)<=(j:Int):=by omega
    refine⟨_,_,by simp only[wd,↓reduceIte,e3,e7,lmm,Ux,hlt];rfl,by simp only[wd,↓reduceIte,Nat.reduceEqDiff,Nat.reduceAdd,Nat.reduceLeDiff,Int.reduceNeg,Tz,e2,e3,e7,ix,nt,hj,il,q2,q3,bn,q4,q5,q6,q8,q9,q10,ad];rfl,?_⟩;simp[e2,e3]
  ·obtain⟨x,hx,_⟩:=aN hkn;have ix:=dR hx;simp only[hx,Option.elim]at hp;have hp:=of_decide_eq_false hp;have nt:=nt x.note;have hlt:((k<w.mail.length):Prop)=True:=by simp;omega
   simp only[co]at ix;refine⟨_,by simp only[wd,↓reduceIte,e3,e7,lmm,Ux,hlt];rfl,?_⟩;by_cases q1:gW p x.note=0
   rotate_left
   ·simp only[wd,↓reduceIte,Nat.reduceEqDiff,reduceCtorEq,Nat.reduceAdd,Nat.reduceLeDiff,Int.reduceNeg,Tz,e2,e3,e7,ix,nt,q1]
   rw[q1]at nt;by_cases q2:x.id.frm< -1
   ·simp only[wd,↓reduceIte,Nat.reduceEqDiff,reduceCtorEq,Nat.reduceAdd,Nat.reduceLeDiff,Int.reduceNeg,Tz,e2,e3,e7,ix,nt,q2]
   by_cases q3:(w.actors.length:Int)<=x.id.frm
   ·simp only[wd,↓reduceIte,Nat.reduceEqDiff,reduceCtorEq,Nat.reduceAdd,Nat.reduceLeDiff,Int.reduceNeg,Tz,e2,e3,e7,ix,nt,q2,q3,bn]
   by_cases q4:x.id.n<0
   ·simp only[wd,↓reduceIte,Nat.reduceEqDiff,reduceCtorEq,Nat.reduceAdd,Nat.reduceLeDiff,Int.reduceNeg,Tz,e2,e3,e7,ix,nt,q2,q3,bn,q4]
   by_cases q5:x.id.copy<0
   ·simp only[wd,↓reduceIte,Nat.reduceEqDiff,reduceCtorEq,Nat.reduceAdd,Nat.reduceLeDiff,Int.reduceNeg,Tz,e2,e3,e7,ix,nt,q2,q3,bn,q4,q5]
   by_cases q6:w.used.dup<x.id.copy
   ·simp only[wd,↓reduceIte,Nat.reduceEqDiff,Nat.reduceAdd,Nat.reduceLeDiff,Int.reduceNeg,Tz,e2,e3,e7,ix,nt,q2,q3,bn,q4,q5,q6]
   have hp7:¬(if x.id.frm= -1 then x.id.n<16 else x.id.n<Aq w x.id.frm):=λh=>hp ⟨q1,by omega,by omega,by omega,by omega,by omega,h⟩;by_cases q7:x.id.frm= -1
   ·rw[TB q7]at hp7;have q8:16<=x.id.n:=by omega
    rw[q7]at q2 q3;have q9:(-1:Int)<0:=by omega
    simp only[wd,↓reduceIte,Nat.reduceEqDiff,reduceCtorEq,Nat.reduceAdd,Nat.reduceLeDiff,Int.reduceLE,Int.reduceNeg,Tz,e2,e3,e7,ix,nt,q7,q2,q3,bn,q4,q5,q6,q8,q9]
   ·rw[TF q7]at hp7;obtain⟨j,l,hj,hl,hs⟩:=Bo (w:=w) (k:=x.id.frm) (by omega) (by omega);have il:=eQ hl;simp only[br]at il;rw[hs]at hp7;have q8:l.sent<=x.id.n:=by omega
    rw[hj]at q2 q3;have q9:¬(j:Int)<0:=by omega
    have q10:(0:Int)<=(j:Int):=by omega
    simp only[wd,↓reduceIte,Nat.reduceEqDiff,Nat.reduceAdd,Nat.reduceLeDiff,Int.reduceNeg,Tz,e2,e3,e7,ix,nt,hj,il,q2,q3,bn,q4,q5,q6,q8,q9,q10]
  ·have hlt:((w.mail.length<w.mail.length):Prop)=False:=by simp
   exact⟨e,by simp only[wd,↓reduceIte,e3,e7,lmm,Ux,hlt],e3⟩
  ·have hal:w.mail.all (dI p w)=true:=by
    rw[Ut];intro x hx;obtain⟨k,hk⟩:=UP hx;have:=a k (UN _) (List.getElem?_eq_some_iff.1 hk).1;simpa[hk]using this
   rw[hal,Us,ul];by_cases q1:0<=w.used.drop
   rotate_left
   ·rw[TP (λh=>by omega)];simp only[wd,↓reduceIte,e3,q1]
   by_cases q2:0<=w.used.dup
   rotate_left
   ·rw[TP (λh=>by omega)];simp only[wd,↓reduceIte,e3,q1,q2]
   by_cases q3:0<=w.used.time
   rotate_left
   ·rw[TP (λh=>by omega)];simp only[wd,↓reduceIte,e3,q1,q2,q3]
   by_cases q4:0<=w.used.crash
   ·rw[T3 ⟨q1,q2,q3,q4⟩];simp only[wd,↓reduceIte,e3,q1,q2,q3,q4]
   ·rw[TP (λh=>by omega)];simp only[wd,↓reduceIte,e3,q1,q2,q3,q4]
  ·obtain⟨x,hx,_⟩:=aN a2;simp only[hx,Option.elim]at a3;rw[EI hx a3,VD]
 ·rw[show gf p w=false by simp[gf,yi a2 a3]]
def mG(b:SBudget)(kind:Int):Bool:=if kind=2 then decide (0<b.drop)else if kind=3 then decide (0<b.dup)else if kind=4 then decide (0<b.time)else if kind=5 then decide (0<b.crash)else true
def nN(w:aq)(k:Int):Int:=match w.actors[k.toNat]? with|some l=>l.down|none=>0
def Bc(w:aq)(k:Int):Bool:=match w.actors[k.toNat]? with|some l=>l.armed|none=>false
def DE(w:aq)(k:Int):Int:=match w.mail[k.toNat]? with|some m=>m.note.to|none=>0
def MT:SID:=⟨0,0,0⟩
def uE(w:aq)(e:SEvent):Bool:=decide (e.who=0)&&(!decide (bR w.mail e.id<0)&&(!decide (e.kind=1)||decide (nN w (DE w (bR w.mail e.id))=0)))
def o8(w:aq)(e:SEvent):Bool:=decide (e.id=MT)&&(decide (0<=e.who)&&(decide (e.who<w.actors.length)&&(decide (nN w e.who=0)&&(!decide (e.kind=4)||Bc w e.who))))
def fJ(w:aq)(e:SEvent):Bool:=if e.kind=1∨e.kind=2∨e.kind=3 then uE w e else if e.kind=4∨e.kind=5 then o8 w e else false
noncomputable def ID (p:SProg) (b:SBudget) (w:aq) (e:SEvent):Bool:=fg p w&&(Bw b&&(fJ w e&&mG (rU b w) e.kind))
def xn(w:aq):Prop:=∀m∈w.mail,0<=m.note.to/\m.note.to<w.actors.length
theorem Pp{p:SProg}{w:aq}(h:gf p w=true):xn w:=λm hm=>by
 simp only[gf,TA,TK,Ut]at h;obtain⟨h1,_,_,_,h5⟩:=h;have h6:=(UE (h5 m hm)).1;unfold gW at h6;split at h6
 ·omega
 ·omega
def bq(b:SBudget):PV:=.agg (cN b)
theorem Cn{m:Nat}(a b:Int):aj aG (m+1) 144 [.int .i64 a,.int .i64 b]=some (.int .i64 (pN a b),[]):=by
 refine am (F:=kU) rfl rfl rfl ?_ (.inr rfl);have hs:aI .sub .i64 a .i64 b=some (.int .i64 (IntKind.i64.wrap (a-b))):=by simp only[aI];rw[TF (by decide)]
 have mx:=EF (IntKind.i64.wrap (a-b)) 0;simp only[wd,↓reduceIte,kU,hs,mx,pN]
theorem IL{m:Nat}(a b:Int):aj aG (m+1) 234 [.int .i64 a,.int .i64 b]=some (.int .i64 (pN a b),[]):=by
 refine am (F:=mZ) rfl rfl rfl ?_ (.inr rfl);have hs:aI .sub .i64 a .i64 b=some (.int .i64 (IntKind.i64.wrap (a-b))):=by simp only[aI];rw[TF (by decide)]
 have mx:=EF (IntKind.i64.wrap (a-b)) 0;simp only[wd,↓reduceIte,mZ,hs,mx,pN]
theorem NH{m:Nat}(b:SBudget)(w:aq):aj aG (m+2) 131 [bq b,aE w]=some (bq (rU b w),[]):=by
 refine am (F:=ly) rfl rfl rfl ?_ (.inl rfl);have hl:=λa b=>Cn (m:=m) a b;generalize aj aG (m+1)=C at*;generalize aY aG=V;simp only[bq,cN,aE,ay,ly,rU];simp only[wd,↓reduceIte,Nat.reduceEqDiff,Nat.reduceAdd,Tz,hl]
theorem Kl{m:Nat}(b:SBudget)(w:aq):aj aG (m+2) 215 [bq b,aE w]=some (bq (rU b w),[]):=by
 refine am (F:=mT) rfl rfl rfl ?_ (.inl rfl);have hl:=λa b=>IL (m:=m) a b;generalize aj aG (m+1)=C at*;generalize aY aG=V;simp only[bq,cN,aE,ay,mT,rU];simp only[wd,↓reduceIte,Nat.reduceEqDiff,Nat.reduceAdd,Tz,hl]
theorem Lp(a b c d:Int):Eu true [.int .i64 a,.int .i64 b,.int .i64 c,.int .i64 d]=some (.int .i64 (max (max (max a b) c) d)):=by
 have key:∀x y:Int,A9 true (.int .i64 x) (.int .i64 y)=some (.int .i64 (max x y)):=λx y=>by
  simp only[A9];by_cases h:x<y<;>simp[h]<;>omega
 simp only[Eu,nZ,key]
theorem Qv{m:Nat}(b:SBudget):aj aG (m+1) 124 [bq b]=some (.bool (Bw b),[]):=by
 refine am (F:=mY) rfl rfl rfl ?_ (.inr rfl);have mn:=E9 b.drop b.dup b.time b.crash;have mx:=Lp b.drop b.dup b.time b.crash;simp only[bq,cN,mY,Bw];by_cases h1:0<=min (min (min b.drop b.dup) b.time) b.crash
 ·by_cases h2:max (max (max b.drop b.dup) b.time) b.crash<=1000
  ·rw[T3 (by omega)];simp only[wd,↓reduceIte,Nat.reduceAdd,Tz,mn,mx,h1,h2]
  ·rw[TP (by omega)];simp only[wd,↓reduceIte,Nat.reduceAdd,Tz,mn,mx,h1,h2]
 ·rw[TP (by omega)];simp only[wd,↓reduceIte,Nat.reduceAdd,Tz,mn,mx,h1]
theorem M4{m:Nat}(b:SBudget):aj aG (m+1) 216 [bq b]=some (.bool (Bw b),[]):=by
 refine am (F:=gz) rfl rfl rfl ?_ (.inr rfl);generalize aj aG m=C;generalize aY aG=V;have el:PV.lst [.int .i64 b.drop,.int .i64 b.dup,.int .i64 b.time,.int .i64 b.crash] false=eI [b.drop,b.dup,b.time,b.crash]:=rfl;simp only[bq,cN,gz];refine nx (by simp only[wd,↓reduceIte,Nat.reduceAdd,Tz,el];rfl) ?_;rw[mM];refine nx (by simp only[wd,↓reduceIte];rfl) ?_;rw[kO];refine rb (n:=4) (k0:=0) (by omega) (by omega) (λk=>([b.drop,b.dup,b.time,b.crash][k]?).elim true λx=>decide (0<=x/\x<=1000)) (.bool false)
  (λk e=>e 3=eI [b.drop,b.dup,b.time,b.crash]/\e 4=.int .i64 (k:Nat)) (λe=>True) (λk e hk hkn hp ⟨e3,e4⟩=>?_) (λk e hk hkn hp ⟨e3,e4⟩=>?_) (λe ⟨e3,e4⟩=>?_) (λa e _=>?_) (λk a1 a2 a3=>?_) ⟨by simp,by simp⟩
 ·obtain⟨x,hx,_⟩:=aN (l:=[b.drop,b.dup,b.time,b.crash]) (k:=k) hkn;have ix:=eP hx;simp only[hx,Option.elim,TK]at hp;have hlt:(k:Int)<4:=by omega
  have q1:¬x<0:=by omega
  have q2:¬1000<x:=by omega
  have ad:=bT (k:=k) (by omega);refine⟨e,_,by simp only[wd,↓reduceIte,e4,hlt],by simp only[wd,↓reduceIte,e3,e4,ix,q1,q2,ad];rfl,by simp[e3],by simp⟩
 ·obtain⟨x,hx,_⟩:=aN (l:=[b.drop,b.dup,b.time,b.crash]) (k:=k) hkn;have ix:=eP hx;simp only[hx,Option.elim,TX]at hp;have hlt:(k:Int)<4:=by omega
  refine⟨e,by simp only[wd,↓reduceIte,e4,hlt],?_⟩;by_cases q1:x<0
  ·simp only[wd,↓reduceIte,reduceCtorEq,e3,e4,ix,q1]
  ·have q2:1000<x:=by omega
   simp only[wd,↓reduceIte,e3,e4,ix,q1,q2]
 ·have hlt:¬((4:Nat):Int)<4:=by omega
  exact⟨e,by simp only[wd,↓reduceIte,e4,hlt],trivial⟩
 ·have h0:=a 0 (by omega) (by omega);have h1:=a 1 (by omega) (by omega);have h2:=a 2 (by omega) (by omega);have h3:=a 3 (by omega) (by omega);simp at h0 h1 h2 h3;rw[show Bw b=true from T3 (by omega)];simp only[wd,↓reduceIte]
 ·obtain⟨x,hx,hm⟩:=aN (l:=[b.drop,b.dup,b.time,b.crash]) (k:=k) a2;simp only[hx,Option.elim,TX]at a3;simp only[U2,List.not_mem_nil,Vu]at hm;rw[show Bw b=false from TP λh=>a3 (by rcases hm with rfl|rfl|rfl|rfl<;>omega)]
theorem NT{m:Nat}(b:SBudget)(k:Int):aj aG (m+1) 137 [bq b,.int .i64 k]=some (.bool (mG b k),[]):=by
 refine am (F:=lA) rfl rfl rfl ?_ (.inr rfl);simp only[bq,cN,lA,mG];by_cases h2:k=2
 ·simp only[wd,↓reduceIte,Nat.reduceEqDiff,Nat.reduceAdd,Tz,h2]
 by_cases h3:k=3
 ·simp only[wd,↓reduceIte,Nat.reduceEqDiff,Nat.reduceAdd,Int.reduceEq,Tz,h3]
 by_cases h4:k=4
 ·simp only[wd,↓reduceIte,Nat.reduceEqDiff,Nat.reduceAdd,Int.reduceEq,Tz,h4]
 by_cases h5:k=5
 ·simp only[wd,↓reduceIte,Nat.reduceEqDiff,Nat.reduceAdd,Int.reduceEq,Tz,h5]
 simp only[wd,↓reduceIte,Nat.reduceEqDiff,Nat.reduceAdd,Tz,h2,h3,h4,h5]
theorem iG{w:aq}(ht:xn w){i:SID}(h:¬bR w.mail i<0):∃(k:Nat)(x:aV)(j:Nat)(l:aT),bR w.mail i=k/\w.mail[k]?=some x/\x.id=i/\x.note.to=(j:Int)/\w.actors[j]?=some l/\DE w (bR w.mail i)=(j:Int)/\nN w (j:Int)=l.down:=by
 obtain⟨k,x,h1,_,h3,h4⟩:=JT h;obtain⟨t0,t1⟩:=ht x (TC h3);obtain⟨j,hj⟩:=Ug t0;obtain⟨l,hl,_⟩:=aN (l:=w.actors) (k:=j) (by omega);exact⟨k,x,j,l,h1,h3,h4,hj,hl,by rw[h1];simp[DE,h3,hj],by simp[nN,hl]⟩
theorem hO{w:aq}{k:Int}(h0:0<=k)(h1:k<w.actors.length):∃(j:Nat)(l:aT),k=(j:Int)/\w.actors[j]?=some l/\nN w k=l.down/\Bc w k=l.armed:=by
 obtain⟨j,rfl⟩:=Ug h0;obtain⟨l,hh,_⟩:=aN (l:=w.actors) (k:=j) (by omega);exact⟨j,l,rfl,hh,by simp[nN,hh],by simp[Bc,hh]⟩
theorem RW(x:SID):rD false [false,false,false] (.agg [.int .i64 x.frm,.int .i64 x.n,.int .i64 x.copy]) (.agg [.int .i64 0,.int .i64 0,.int .i64 0])=some (.bool (decide (x=MT))):=M5 x MT
theorem Re(x:SID):rD true [false,false,false] (.agg [.int .i64 x.frm,.int .i64 x.n,.int .i64 x.copy]) (.agg [.int .i64 0,.int .i64 0,.int .i64 0])=some (.bool (!decide (x=MT))):=Mg x MT
theorem L3{m:Nat}(w:aq)(hw:jN w)(ht:xn w)(e:SEvent):aj aG (m+4) 136 [aE w,bD e]=some (.bool (fJ w e),[]):=by
 refine am (F:=mV) rfl rfl rfl ?_ (.inr rfl);have fd:=A6 (m:=m) w.mail hw.mail.1 e.id;generalize aj aG (m+3)=C at*;generalize aY aG=V;have gq:=Hp (bR w.mail e.id);have ez:=RW e.id;simp only[ug,wl]at fd;simp only[aE,ay,bD,dm,mV];refine nx (by simp only[wd,↓reduceIte,Nat.reduceAdd,Tz];rfl) ?_;by_cases hk:e.kind=1∨e.kind=2∨e.kind=3
 ·rw[fJ,TB hk,uE];refine ah ?_;refine nx (by simp only[wd,↓reduceIte,Nat.reduceEqDiff];rfl) (bt ?_);have head:∀env:Env,env 7=.int .i64 e.kind->∃e1,aL C V (.seq (.st [.asg [] [(8,(.bin .eql (.v 7) (N 1)))]]) (.cond (.v 8) .skip (.seq (.st [.asg [] [(8,(.bin .eql (.v 7) (N 2)))]]) (.cond (.v 8) .skip (.st [.asg [] [(8,(.bin .eql (.v 7) (N 3)))]]))))) env=some (.norm e1)/\e1 8=.bool true/\∀n,n≠8->e1 n=env n:=λenv h7=>by
   by_cases k1:e.kind=1
   ·exact⟨_,by simp only[wd,↓reduceIte,h7,k1];rfl,by simp,λn hn=>by simp[hn]⟩
   by_cases k2:e.kind=2
   ·exact⟨_,by simp only[wd,↓reduceIte,Nat.reduceEqDiff,Int.reduceEq,h7,k2];rfl,by simp,λn hn=>by simp[hn]⟩
   have k3:e.kind=3:=by omega
   exact⟨_,by simp only[wd,↓reduceIte,Nat.reduceEqDiff,Int.reduceEq,h7,k3];rfl,by simp,λn hn=>by simp[hn]⟩
  obtain⟨e1,g1,g8,gn⟩:=head ((((Env.ofArgs [.agg [aW w.actors,aJ w.mail,.int .i64 w.used.drop,.int .i64 w.used.dup,.int .i64 w.used.time,.int .i64 w.used.crash],.agg [.int .i64 e.kind,.int .i64 e.id.frm,.int .i64 e.id.n,.int .i64 e.id.copy,.int .i64 e.who]]).set 3 (.lptr [.int .i64 e.kind,.int .i64 e.id.frm,.int .i64 e.id.n,.int .i64 e.id.copy,.int .i64 e.who])).set 2 (.lptr [aW w.actors,aJ w.mail,.int .i64 w.used.drop,.int .i64 w.used.dup,.int .i64 w.used.time,.int .i64 w.used.crash])).set 7 (.int .i64 e.kind)) (by simp);refine nx g1 ?_;have g2:=gn 2 (by omega);have g3:=gn 3 (by omega);simp only[Env.set_at,Nat.reduceEqDiff,TU,TY]at g2 g3;by_cases q1:e.who=0
  rotate_left
  ·rw[TP q1,Un];simp only[wd,↓reduceIte,Nat.reduceEqDiff,g8,g2,g3,fd,q1]
  by_cases q2:bR w.mail e.id<0
  ·rw[T3 q2]at gq;rw[T3 q2,Uy,Un,VD];have q2':¬0<=bR w.mail e.id:=by omega
   simp only[wd,↓reduceIte,Nat.reduceEqDiff,g8,g2,g3,fd,q1,q2']
  obtain⟨k,x,j,l,f1,f2,f3,f4,f5,f6,f7⟩:=iG ht q2;have ix:=dR f2;have il:=eQ f5;simp only[co]at ix;simp only[br]at il;have q3:(0:Int)<=(k:Int):=by omega
  rw[f6,f7,T3 q1,TP q2,UQ,Uj,Uj];rw[f1]at fd;by_cases k1:e.kind=1
  ·by_cases q4:l.down=0
   ·simp only[wd,↓reduceIte,Nat.reduceEqDiff,g8,g2,g3,fd,q1,q3,k1,ix,f4,il,q4,Bool.or_true]
   ·simp only[wd,↓reduceIte,Nat.reduceEqDiff,g8,g2,g3,fd,q1,q3,k1,ix,f4,il,q4,Bool.or_false]
  ·simp only[wd,↓reduceIte,Nat.reduceEqDiff,reduceCtorEq,g8,g2,g3,fd,q1,q3,k1,Bool.true_or]
 ·rw[fJ,TF hk];have k1:¬e.kind=1:=λh=>hk (.inl h);have k2:¬e.kind=2:=λh=>hk (.inr (.inl h));have k3:¬e.kind=3:=λh=>hk (.inr (.inr h));by_cases hk2:e.kind=4∨e.kind=5
  rotate_left
  ·have k4:¬e.kind=4:=λh=>hk2 (.inl h);have k5:¬e.kind=5:=λh=>hk2 (.inr h);rw[TF hk2];simp only[wd,↓reduceIte,Nat.reduceEqDiff,k1,k2,k3,k4,k5]
  rw[TB hk2,o8];refine ah ?_;refine nx (by simp only[wd,↓reduceIte,Nat.reduceEqDiff];rfl) (bt ?_);refine nx (by simp only[wd,↓reduceIte,Nat.reduceEqDiff,k1,k2,k3];rfl) ?_;have k45:¬e.kind=4->e.kind=5:=λh=>by omega
  by_cases q1:e.id=MT
  rotate_left
  ·rw[TP q1]at ez;rw[TP q1,Un];by_cases k4:e.kind=4
   ·simp only[wd,↓reduceIte,Nat.reduceEqDiff,k4,ez]
   ·simp only[wd,↓reduceIte,Nat.reduceEqDiff,Int.reduceEq,k45 k4,ez]
  rw[T3 q1]at ez;rw[T3 q1,Uj];by_cases q2:0<=e.who
  rotate_left
  ·rw[TP q2,Un];by_cases k4:e.kind=4
   ·simp only[wd,↓reduceIte,Nat.reduceEqDiff,k4,ez,q2]
   ·simp only[wd,↓reduceIte,Nat.reduceEqDiff,Int.reduceEq,k45 k4,ez,q2]
  rw[T3 q2,Uj];by_cases q3:e.who<w.actors.length
  rotate_left
  ·rw[TP q3,Un];by_cases k4:e.kind=4
   ·simp only[wd,↓reduceIte,Nat.reduceEqDiff,k4,ez,q2,bn,q3]
   ·simp only[wd,↓reduceIte,Nat.reduceEqDiff,Int.reduceEq,k45 k4,ez,q2,bn,q3]
  rw[T3 q3,Uj];obtain⟨j,l,f1,f2,f3,f4⟩:=hO q2 q3;have il:=eQ f2;simp only[br]at il;rw[f3,f4];rw[f1]at q2 q3;by_cases q4:l.down=0
  rotate_left
  ·rw[TP q4,Un];by_cases k4:e.kind=4
   ·simp only[wd,↓reduceIte,Nat.reduceEqDiff,k4,ez,f1,q2,bn,q3,il,q4]
   ·simp only[wd,↓reduceIte,Nat.reduceEqDiff,Int.reduceEq,k45 k4,ez,f1,q2,bn,q3,il,q4]
  rw[T3 q4,Uj];by_cases k4:e.kind=4
  ·simp only[wd,↓reduceIte,Nat.reduceEqDiff,k4,ez,f1,q2,bn,q3,il,q4,US]
  ·simp only[wd,↓reduceIte,Nat.reduceEqDiff,reduceCtorEq,Int.reduceEq,k45 k4,ez,f1,q2,bn,q3,il,q4,Bool.true_or]
theorem RN{m:Nat}(p:SProg)(hp:fL p)(b:SBudget)(w:aq)(hw:jN w)(e:SEvent):aj aG (m+8) 122 [aA p,bq b,aE w,bD e]=some (.bool (ID p b w e),[]):=by
 refine am (F:=pg) rfl rfl rfl ?_ (.inr rfl);have ck:=BR (m:=m) p hp w hw;have my:=Qv (m:=m+6) b;have cn:=λht=>L3 (m:=m+3) w hw ht e;have lf:=NH (m:=m+5) b w;have pd:=λb k=>NT (m:=m+6) b k;generalize aj aG (m+7)=C at*;generalize aY aG=V;simp only[aA,ao,aE,ay,bq,cN,bD,dm]at ck my cn lf pd;simp only[aA,ao,aE,ay,bq,cN,bD,dm,pg,ID];cases h1:fg p w with
 |false=>
  rw[h1]at ck;simp only[wd,↓reduceIte,Nat.reduceEqDiff,Nat.reduceAdd,Tz,ck]
 | true=>
  rw[h1]at ck;have ht:xn w:=Pp (p:=p) (by simp only[fg,TA]at h1;exact h1.2);have cn:=cn ht;cases h2:Bw b with
  |false=>
   rw[h2]at my;simp only[wd,↓reduceIte,Nat.reduceEqDiff,Nat.reduceAdd,Tz,ck,my]
  | true=>
   rw[h2]at my;cases h3:fJ w e with
   |false=>
    rw[h3]at cn;simp only[wd,↓reduceIte,Nat.reduceEqDiff,Nat.reduceAdd,Tz,ck,my,cn]
   |true=>
    rw[h3]at cn;simp only[wd,↓reduceIte,Nat.reduceEqDiff,Nat.reduceAdd,Tz,ck,my,cn,lf,pd]
theorem Ma{m:Nat}(b:SBudget)(w:aq)(hw:jN w)(ht:xn w)(e:SEvent):aj aG (m+3) 228 [bq b,aE w,bD e]=some (.bool (fJ w e&&mG (rU b w) e.kind),[]):=by
 refine am (F:=qL) rfl rfl rfl ?_ (.inr rfl);have lf:=Kl (m:=m) b w;have fd:=tZ (m:=m+1) w.mail hw.mail.1 e.id;generalize aj aG (m+2)=C at*;generalize aY aG=V;have ez:=Re e.id;generalize rU b w=u at*;simp only[bq,cN,aE,ay]at lf;simp only[ug,wl]at fd;simp only[bq,cN,aE,ay,bD,dm,qL];refine nx (by simp only[wd,↓reduceIte,Nat.reduceEqDiff,Nat.reduceAdd,Tz,lf];rfl) ?_;by_cases hk:e.kind=1∨e.kind=2∨e.kind=3
 ·rw[fJ,TB hk,uE];have c1:1<=e.kind:=by omega
  have c2:e.kind<=3:=by omega
  refine ah ?_;refine nx (by simp only[wd,↓reduceIte,Nat.reduceEqDiff,c1,c2];rfl) ?_;by_cases q1:e.who=0
  rotate_left
  ·rw[TP q1,Un,Un];by_cases q2:bR w.mail e.id<0
   ·simp only[wd,↓reduceIte,Nat.reduceEqDiff,reduceCtorEq,c1,c2,fd,q1,q2]
   ·simp only[wd,↓reduceIte,Nat.reduceEqDiff,c1,c2,fd,q1,q2]
  by_cases q2:bR w.mail e.id<0
  ·rw[T3 q2,Uy,Un,VD,Un];simp only[wd,↓reduceIte,Nat.reduceEqDiff,reduceCtorEq,c1,c2,fd,q1,q2]
  obtain⟨k,x,j,l,f1,f2,f3,f4,f5,f6,f7⟩:=iG ht q2;have ix:=dR f2;have il:=eQ f5;simp only[co]at ix;simp only[br]at il;have q3:¬(k:Int)<0:=by omega
  rw[f6,f7,T3 q1,TP q2,UQ,Uj,Uj];rw[f1]at fd;by_cases k1:e.kind=1
  ·have:mG u e.kind=true:=by rw[mG,k1];rfl
   rw[this,Us];by_cases q4:l.down=0
   ·simp only[wd,↓reduceIte,Nat.reduceEqDiff,Int.reduceLE,fd,q1,q3,k1,ix,f4,il,q4,Bool.or_true]
   ·simp only[wd,↓reduceIte,Nat.reduceEqDiff,Int.reduceLE,fd,q1,q3,k1,ix,f4,il,q4,Bool.or_false]
  by_cases k2:e.kind=2
  ·rw[mG,TB k2,TP k1,UQ,Bool.true_or,Uj];simp only[wd,↓reduceIte,Nat.reduceEqDiff,Int.reduceEq,Int.reduceLE,fd,q1,q3,k2]
  ·have k3:e.kind=3:=by omega
   rw[mG,TF k2,TB k3,TP k1,UQ,Bool.true_or,Uj];simp only[wd,↓reduceIte,Nat.reduceEqDiff,Int.reduceEq,Int.reduceLE,fd,q1,q3,k3]
 ·rw[fJ,TF hk];have cc:e.kind<1∨3<e.kind:=by omega
  have skip:∀env:Env,env 5=.lptr [.int .i64 e.kind,.int .i64 e.id.frm,.int .i64 e.id.n,.int .i64 e.id.copy,.int .i64 e.who]->∀A:VC,aL C V (.seq (.st [.asg [(.gd (.bin .geq (.ld none (.v 5) 0) (N 1)) true (.bin .leq (.ld none (.v 5) 0) (N 3))),(.ite (.bin .geq (.ld none (.v 5) 0) (N 1)) (.bin .leq (.ld none (.v 5) 0) (N 3)) (.boo false))] []]) (.cond (.ite (.bin .geq (.ld none (.v 5) 0) (N 1)) (.bin .leq (.ld none (.v 5) 0) (N 3)) (.boo false)) A .skip)) env=some (.norm env):=λenv h5 A=>by
   by_cases c1:1<=e.kind
   ·have c2:¬e.kind<=3:=by omega
    simp only[wd,↓reduceIte,h5,c1,c2]
   ·simp only[wd,↓reduceIte,h5,c1]
  refine nx (skip _ (by simp) _) ?_;by_cases hk2:e.kind=4∨e.kind=5
  rotate_left
  ·have k4:¬e.kind=4:=λh=>hk2 (.inl h);have k5:¬e.kind=5:=λh=>hk2 (.inr h);rw[TF hk2,Un];refine ah ?_;simp only[wd,↓reduceIte,Nat.reduceEqDiff,reduceCtorEq,k4,k5]
  rw[TB hk2,o8];have k45:¬e.kind=4->e.kind=5:=λh=>by omega
  by_cases q1:e.id=MT
  rotate_left
  ·rw[TP q1]at ez;rw[TP q1,Un,Un];refine ah ?_;by_cases k4:e.kind=4
   ·simp only[wd,↓reduceIte,Nat.reduceEqDiff,reduceCtorEq,Int.reduceEq,k4,ez]
   ·simp only[wd,↓reduceIte,Nat.reduceEqDiff,reduceCtorEq,Int.reduceEq,k45 k4,ez]
  rw[T3 q1]at ez;rw[T3 q1,Uj];by_cases q2:0<=e.who
  rotate_left
  ·have q2':e.who<0:=by omega
   rw[TP q2,Un,Un];refine ah ?_;by_cases k4:e.kind=4
   ·simp only[wd,↓reduceIte,Nat.reduceEqDiff,reduceCtorEq,Int.reduceEq,k4,ez,q2']
   ·simp only[wd,↓reduceIte,Nat.reduceEqDiff,reduceCtorEq,Int.reduceEq,k45 k4,ez,q2']
  have q2':¬e.who<0:=by omega
  rw[T3 q2,Uj];by_cases q3:e.who<w.actors.length
  rotate_left
  ·have q3':(w.actors.length:Int)<=e.who:=by omega
   rw[TP q3,Un,Un];refine ah ?_;by_cases k4:e.kind=4
   ·simp only[wd,↓reduceIte,Nat.reduceEqDiff,reduceCtorEq,Int.reduceEq,k4,ez,q2',bn,q3']
   ·simp only[wd,↓reduceIte,Nat.reduceEqDiff,reduceCtorEq,Int.reduceEq,k45 k4,ez,q2',bn,q3']
  have q3':¬(w.actors.length:Int)<=e.who:=by omega
  rw[T3 q3,Uj];obtain⟨j,l,f1,f2,f3,f4⟩:=hO q2 q3;have il:=eQ f2;simp only[br]at il;rw[f3,f4];rw[f1]at q2' q3';by_cases q4:l.down=0
  rotate_left
  ·rw[TP q4,Un,Un];refine ah ?_;by_cases k4:e.kind=4
   ·simp only[wd,↓reduceIte,Nat.reduceEqDiff,Int.reduceEq,k4,ez,f1,q2',bn,q3',il,q4]
   ·simp only[wd,↓reduceIte,Nat.reduceEqDiff,Int.reduceEq,k45 k4,ez,f1,q2',bn,q3',il,q4]
  rw[T3 q4,Uj];by_cases k4:e.kind=4
  ·have:mG u e.kind=decide (0<u.time):=by rw[mG,k4];rfl
   rw[this,T3 k4,Uy,US];refine nx (by simp only[wd,↓reduceIte,Nat.reduceEqDiff,Int.reduceEq,k4,ez,f1,q2',bn,q3',il,q4];rfl) ?_;refine ah ?_;cases q5:l.armed<;>simp only[wd,↓reduceIte,Nat.reduceEqDiff,il,q5]
  ·have k5:=k45 k4;have:mG u e.kind=decide (0<u.crash):=by rw[mG,k5];rfl
   rw[this,TP k4,UQ,Bool.true_or,Uj];refine nx (by simp only[wd,↓reduceIte,Nat.reduceEqDiff,Int.reduceEq,k5,ez,f1,q2',bn,q3',il,q4];rfl) ?_;refine nx (by simp only[wd,↓reduceIte,Nat.reduceEqDiff,Int.reduceEq];rfl) ?_;simp only[wd,↓reduceIte]
theorem Ot{m:Nat}(p:SProg)(hp:fL p)(b:SBudget)(w:aq)(hw:jN w)(e:SEvent):aj aG (m+6) 209 [aA p,bq b,aE w,bD e]=some (.bool (ID p b w e),[]):=by
 refine am (F:=qW) rfl rfl rfl ?_ (.inr rfl);have ck:=zq (m:=m) p hp w hw;have my:=M4 (m:=m+4) b;have cn:=λht=>Ma (m:=m+2) b w hw ht e;generalize aj aG (m+5)=C at*;generalize aY aG=V;simp only[aA,ao,aE,ay,bq,cN,bD,dm]at ck my cn;simp only[aA,ao,aE,ay,bq,cN,bD,dm,qW,ID];refine nx (by simp only[wd,↓reduceIte,Nat.reduceAdd,Tz];rfl) ?_;cases h1:fg p w with
 |false=>
  rw[h1]at ck;refine ah ?_;simp only[wd,↓reduceIte,Nat.reduceEqDiff,reduceCtorEq,Int.reduceNeg,un,ck]
 | true=>
  rw[h1]at ck;have ht:xn w:=Pp (p:=p) (by simp only[fg,TA]at h1;exact h1.2);have cn:=cn ht;cases h2:Bw b with
  |false=>
   rw[h2]at my;refine ah ?_;simp only[wd,↓reduceIte,Nat.reduceEqDiff,Int.reduceNeg,Tz,un,ck,my]
  |true=>
   rw[h2]at my;refine nx (by simp only[wd,↓reduceIte,Nat.reduceEqDiff,Int.reduceNeg,Tz,un,ck,my];rfl) ?_;simp only[wd,↓reduceIte,Nat.reduceEqDiff,cn]
def rO(w:aq)(k:Nat):aq:=match w.actors[k]? with|some l=>{w with actors:=w.actors.set k {l with over:=l.over+1}}|none=>w
def Ck(p:SProg)(k:Nat):Int:=match p.actors[k]? with|some a=>a.cap|none=>0
def kS(p:SProg)(w:aq)(x:aV):aq:=
 if(Et w.mail x.note.to:Int)<Ck p x.note.to.toNat/\bR w.mail x.id<0 then{w with mail:=Dt w.mail x}else rO w x.note.to.toNat
def eU(p:SProg)(frm first:Int):List SNote->Nat->aq->aq
 |[],_,w=>w
 |n::l,i,w=>eU p frm first l (i+1) (if 0<=n.to/\n.to<min (p.actors.length:Int) w.actors.length then kS p w ⟨⟨frm,first+i,0⟩,n⟩else w)
structure PostOk (w:aq) (n:Nat):Prop where
 as:w.actors.length<1000000000
 ml:w.mail.length+n<1000000000
 args:∀x∈w.mail,x.note.args.length<1000000000
 over:∀l∈w.actors,-1000000000000000000<=l.over/\l.over+n<=1000000000000000000
theorem PostOk.sml{w:aq}{n:Nat}(h:PostOk w n):xj w.mail:=⟨by have:=h.ml;omega,h.args⟩
theorem GU(w:aq)(k:Nat):(rO w k).actors.length=w.actors.length:=by
 unfold rO;split<;>simp
theorem Ae(p:SProg)(w:aq)(x:aV):(kS p w x).actors.length=w.actors.length:=by
 unfold kS;split
 ·rfl
 ·exact GU _ _
theorem PostOk.post{p:SProg}{w:aq}{n:Nat}{x:aV}(h:PostOk w (n+1))(hx:x.note.args.length<1000000000):PostOk (kS p w x) n:=by
 have h1:=h.ml;unfold kS;split
 ·refine⟨h.as,by simp only[KC];omega,λy hy=>?_,λl hl=>by have:=h.over l hl;omega⟩;rcases Kx.1 hy with rfl|hy
  ·exact hx
  ·exact h.args y hy
 ·unfold rO;split
  ·rename_i l hl;refine⟨by simpa using h.as,by simp only;omega,h.args,λy hy=>?_⟩;have hm:=TC hl;rcases Uu hy with hy|rfl
   ·have:=h.over y hy;omega
   ·have:=h.over l hm;simp only;omega
  ·exact⟨h.as,by omega,h.args,λl hl=>by have:=h.over l hl;omega⟩
theorem Q2{ls:List aT}{k:Nat}{l:aT}{x:Int}(h:ls[k]?=some l):oB none (aW ls) (.int .i64 (k:Nat)) 4 (.int .i64 x)=some (aW (ls.set k {l with over:=x})):=by
 have hl:=(List.getElem?_eq_some_iff.1 h).1;have hg:(ls.map bl)[k]?=some (bl l):=by simp[h]
 simp only[oB,aW];rw[TB (by simp;omega)];simp only[TV,hg];rw[TB ⟨rfl,rfl,by simp[bl,br,PV.cells]⟩];simp[List.map_set,PV.withCells,PV.cells,bl,br]
theorem J0{m:Nat}(p:SProg)(w:aq)(n:Nat)(hw:PostOk w (n+1))(x:aV)(hx:x.note.args.length<1000000000)(ht:0<=x.note.to/\x.note.to<min (p.actors.length:Int) w.actors.length):
  aj aG (m+8) 141 [aA p,.lptr (ay w),dk x]=some (.tup [],[.lptr (ay (kS p w x))]):=by
 refine am (F:=lG) rfl rfl rfl ?_ (.inr rfl);have to:=SA (m:=m+6) w.mail hw.sml.1 x.note.to;have pt:=Qm (m:=m) w.mail hw.sml x hx;generalize aj aG (m+7)=C at*;generalize aY aG=V;obtain⟨j,hj⟩:=Ug ht.1;obtain⟨a,ha,_⟩:=aN (l:=p.actors) (k:=j) (by omega);obtain⟨l,hl,hm⟩:=aN (l:=w.actors) (k:=j) (by omega);have ia:=gY ha;have il:=eQ hl;have ho:=hw.over l hm;have ad:=jo (x:=l.over) (y:=1) (by omega) (by omega);have up:=Q2 (x:=l.over+1) hl;have hc:Ck p x.note.to.toNat=a.cap:=by rw[hj];simp[Ck,ha]
 simp only[br]at il;simp only[dk,co]at pt;simp only[aA,ao,ay,dk,co,lG];rw[kS,hc];have hov:rO w x.note.to.toNat={w with actors:=w.actors.set j {l with over:=l.over+1}}:=by rw[hj];simp[rO,hl]
 rw[hov];rw[hj]at to pt⊢;by_cases h1:(Et w.mail (j:Int):Int)<a.cap
 ·by_cases h2:bR w.mail x.id<0
  ·rw[TB ⟨h1,h2⟩];rw[A4,TB h2]at pt;refine ah ?_;simp only[wd,↓reduceIte,Nat.reduceEqDiff,Nat.reduceAdd,Tz,to,ia,h1,pt]
  ·rw[TF (λh=>h2 h.2)];rw[A4,TF h2]at pt;refine nx (by simp only[wd,↓reduceIte,Nat.reduceEqDiff,Nat.reduceAdd,Int.reduceEq,Tz,to,ia,h1,pt,il,ad,up];rfl) ?_;simp only[wd,↓reduceIte]
 ·rw[TF (λh=>h1 h.1)];refine nx (by simp only[wd,↓reduceIte,Nat.reduceEqDiff,Nat.reduceAdd,Tz,to,ia,h1,il,ad,up];rfl) ?_;simp only[wd,↓reduceIte]
def ig(p:SProg)(frm first:Int)(n:SNote)(i:Nat)(w:aq):aq:=if 0<=n.to/\n.to<min (p.actors.length:Int) w.actors.length then kS p w ⟨⟨frm,first+i,0⟩,n⟩else w
theorem mK(p:SProg)(frm first:Int)(n:SNote):∀(l:List SNote)(i:Nat)(w:aq),eU p frm first (l++[n]) i w=ig p frm first n (i+l.length) (eU p frm first l i w)
 |[],i,w=>rfl
 |x::l,i,w=>by
  simp only[UD,eU,TJ];rw[mK p frm first n l (i+1)];rw[show i+1+l.length=i+(l.length+1)by omega]
theorem AS(p:SProg)(frm first:Int)(n:SNote)(i:Nat)(w:aq):(ig p frm first n i w).actors.length=w.actors.length:=by
 unfold ig;split
 ·exact Ae _ _ _
 ·rfl
theorem uu(p:SProg)(frm first:Int):∀(l:List SNote)(i:Nat)(w:aq),(eU p frm first l i w).actors.length=w.actors.length
 |[],_,_=>rfl
 |n::l,i,w=>by
  have h:=AS p frm first n i w
  unfold ig at h;rw[eU,uu p frm first l (i+1),h]
theorem PostOk.less{w:aq}{n m:Nat}(h:PostOk w n)(hm:m<=n):PostOk w m:=⟨h.as,by have:=h.ml;omega,h.args,λl hl=>by have:=h.over l hl;omega⟩
theorem PostOk.step{p:SProg}{w:aq}{frm first:Int}{i m:Nat}{n:SNote}(h:PostOk w (m+1))(hn:n.args.length<1000000000):PostOk (ig p frm first n i w) m:=by
 unfold ig;split
 ·exact h.post hn
 ·exact h.less (by omega)
theorem PostOk.take{p:SProg}{w:aq}{frm first:Int}{l:List SNote}(h:PostOk w l.length)(hn:∀n∈l,n.args.length<1000000000):∀k,k<=l.length->PostOk (eU p frm first (l.take k) 0 w) (l.length-k)
 |0,_=>h
 |k+1,hk=>by
  obtain⟨n,hn',hm⟩:=aN (l:=l) (k:=k) (by omega);rw[iV hn',mK];have ih:=PostOk.take (p:=p) (frm:=frm) (first:=first) h hn k (by omega);rw[show l.length-k=(l.length-(k+1))+1 by omega]at ih;exact ih.step (hn n hm)
theorem Oe{m:Nat}(p:SProg)(w:aq)(frm first:Int)(l:List SNote)(hl:l.length<1000000)(hw:PostOk w l.length)(hn:∀n∈l,n.args.length<1000000000)(hf:(frm= -1/\first=0)∨∃(k:Nat)(x:aT),frm=(k:Int)/\w.actors[k]?=some x/\first=x.sent-l.length/\ -1000000000000000000<=x.sent/\x.sent<=1000000000000000000):
  aj aG (m+9) 129 [aA p,.lptr (ay w),.int .i64 frm,dS l]=some (.tup [],[.lptr (ay (eU p frm first l 0 w))]):=by
 refine am (F:=lk) rfl rfl rfl ?_ (.inr rfl);have ps:=λw n(h:PostOk w (n+1)) x hx ht=>J0 (m:=m) p w n h x hx ht;generalize aj aG (m+8)=C at*;generalize aY aG=V;have lw:∀k,(eU p frm first (l.take k) 0 w).actors.length=w.actors.length:=λk=>uu _ _ _ _ _ _;have hfb: -2000000000000000000<=first/\first<=2000000000000000000:=by
  rcases hf with⟨_,h⟩|⟨k,x,_,_,h,_,_⟩<;>omega
 simp only[aA,ao,dk,co]at ps;simp only[aA,ao,lk];rw[mM];refine nx (by simp only[wd,↓reduceIte,Nat.reduceAdd,Tz,ay];rfl) ?_;rw[mM];have pre:∃e1,aL C V (.seq (.st [.asg [(.bin .geq (.v 2) (N 0))] []]) (.cond (.bin .geq (.v 2) (N 0)) (.st [.asg [] [(8,(.bin .sub (.ld none (.ia 5 (.ld none (.v 4000) 0) (.v 2)) 3) (.len (.v 3))))]]) .skip)) ((((Env.ofArgs [.agg [iw p.handlers,i4 p.actors,dS p.boot,.int .i64 p.fuel],.lptr (ay w),.int .i64 frm,dS l]).set 4 (.lptr [iw p.handlers,i4 p.actors,dS p.boot,.int .i64 p.fuel])).set 4000 (.lptr (ay w))).set 8 (.int .i64 0))=some (.norm e1)/\e1 8=.int .i64 first/\e1 2=.int .i64 frm/\e1 3=dS l/\e1 4=.lptr [iw p.handlers,i4 p.actors,dS p.boot,.int .i64 p.fuel]/\e1 4000=.lptr (ay w):=by
  rcases hf with⟨rfl,rfl⟩|⟨k,x,rfl,hx,rfl,hb1,hb2⟩
  ·refine⟨_,by simp only[wd,↓reduceIte,Nat.reduceEqDiff,Int.reduceNeg,show¬(0:Int)<= -1 by omega];rfl,by simp,by simp[Env.ofArgs_at],by simp[Env.ofArgs_at],by simp,by simp⟩
  ·have ix:=eQ hx;have sb:=vr (x:=x.sent) (y:=(l.length:Int)) (by omega) (by omega);simp only[br]at ix;refine⟨_,by simp only[wd,↓reduceIte,Nat.reduceEqDiff,show(0:Int)<=(k:Int)by omega,ay,ix,d9,sb];rfl,by simp,by simp[Env.ofArgs_at],by simp[Env.ofArgs_at],by simp,by simp[ay]⟩
 obtain⟨e1,g1,g8,g2,g3,g4,gw⟩:=pre;simp only[ay]at g1;refine nx g1 ?_;rw[mM];refine nx (by simp only[wd,↓reduceIte,g3,d9];rfl) ?_;rw[pn];refine oE (qJ (n:=l.length) (by omega) (λk e=>e 25=.int .i64 l.length/\e 24=dS l/\e 2=.int .i64 frm/\e 4=.lptr [iw p.handlers,i4 p.actors,dS p.boot,.int .i64 p.fuel]/\e 8=.int .i64 first/\e 4000=.lptr (ay (eU p frm first (l.take k) 0 w))) (λk e v h=>by simpa using h) (λk e h=>h.1) (λk e hk ⟨s25,s24,s2,s4,s8,sw⟩ hv=>?_) ⟨by simp,by simp,by simp[g2],by simp[g4],by simp[g8],by simp[gw,eU]⟩ (by simp)) (λe h=>?_)
 ·obtain⟨n,hn',hm⟩:=aN hk;have ix:=yc hn';have hP:=PostOk.take (p:=p) (frm:=frm) (first:=first) hw hn k (by omega);rw[show l.length-k=(l.length-(k+1))+1 by omega]at hP;have hlen:=lw k;have mn:=Im (p.actors.length:Int) (w.actors.length:Int);have ad:=jo (x:=first) (y:=(k:Int)) (by omega) (by omega);rw[iV hn',mK,T7,show 0+min k l.length=k by omega];generalize eU p frm first (l.take k) 0 w=u at*
  by_cases q1:0<=n.to
  ·by_cases q2:n.to<min (p.actors.length:Int) w.actors.length
   ·have ps:=ps u _ hP ⟨⟨frm,first+k,0⟩,n⟩ (hn n hm) ⟨q1,by rw[hlen];exact q2⟩;simp only[ay]at ps sw;refine⟨_,by simp only[wd,↓reduceIte,Nat.reduceEqDiff,Nat.reduceAdd,Tz,s2,s4,s8,s24,sw,hv,ix,q1,bP,bn,hlen,mn,q2,ad,ps];rfl,?_,by simp[hv]⟩;rw[ig,TB ⟨q1,by rw[hlen];exact q2⟩];simp[s25,s24,s2,s4,s8,ay]
   ·simp only[ay]at sw;refine⟨_,by simp only[wd,↓reduceIte,Nat.reduceEqDiff,Nat.reduceAdd,Tz,s4,s24,sw,hv,ix,q1,bP,bn,hlen,mn,q2];rfl,?_,by simp[hv]⟩;rw[ig,TF (λh=>q2 (by rw[hlen]at h;exact h.2))];simp[s25,s24,s2,s4,s8,sw,ay]
  ·simp only[ay]at sw;refine⟨_,by simp only[wd,↓reduceIte,Nat.reduceEqDiff,Nat.reduceAdd,Tz,s4,s24,sw,hv,ix,q1];rfl,?_,by simp[hv]⟩;rw[ig,TF (λh=>q1 h.1)];simp[s25,s24,s2,s4,s8,sw,ay]
 ·obtain⟨s25,s24,s2,s4,s8,sw⟩:=h;rw[Vq]at sw;simp only[ay]at sw;simp only[wd,↓reduceIte,sw,ay]
def zW:aq:=⟨[],[],⟨0,0,0,0⟩⟩
theorem Ce:∀l:List aT,cq 5 (l.map bl)=true
 |[]=>rfl
 |x::l=>by simp only[TW,cq,bl,br,PV.cells,TJ,Um,Nat.reduceAdd,Tz,Uj];exact Ce l
theorem Ru{a b:List aT}(h:a.length+b.length<2147483648):iO 5 (aW a) (aW b)=some (aW (a++b)):=by
 simp only[aW,iO];rw[TB ⟨Ce b,by simp only[Uk];exact h⟩,U1]
def nK(b:Bool):Int:=if b then 1 else 0
def ej(op b:Int):Option Int:=if op=14 then some (IntKind.i64.wrap (0-b))else if op=19 then some (nK (decide (b=0)))else none
def cQ(op a b:Int):Int×Int:=
 if op=9 then(IntKind.i64.wrap (a+b),0)else if op=10 then(IntKind.i64.wrap (a-b),0)else if op=11 then(IntKind.i64.wrap (a*b),0)
 else if op=15 then(nK (decide (a=b)),0)else if op=16 then(nK (decide (a<b)),0)else if op=17 then(nK (decide (a≠0/\b≠0)),0)else if op=18 then(nK (decide (a≠0∨b≠0)),0)
 else if op=12∨op=13 then(if b=0 then(0,3)else if op=12 then(IntKind.i64.wrap (a.tdiv b),0)else(a.tmod b,0))else(0,0)
theorem FF{m:Nat}(b:Bool):aj aG (m+1) 196 [.bool b]=some (.int .i64 (nK b),[]):=by
 refine am (F:=lN) rfl rfl rfl ?_ (.inr rfl);cases b<;>simp only[wd,↓reduceIte,lN,nK]
theorem QU{m:Nat}(op b:Int):aj aG (m+2) 194 [.int .i64 op,.int .i64 b]=some (.tup [.int .i64 ((ej op b).getD 0),.bool (ej op b).isSome],[]):=by
 refine am (F:=oQ) rfl rfl rfl ?_ (.inr rfl);have tr:=λb=>FF (m:=m) b;generalize aj aG (m+1)=C at*;generalize aY aG=V;have ng:∀b:Int,Gv.un .neg (.int .i64 b)=some (.int .i64 (IntKind.i64.wrap (0-b))):=λb=>rfl;simp only[oQ,ej];by_cases h1:op=14
 ·simp only[Si,SJ,RQ,RZ,SF,↓reduceIte,Nat.reduceEqDiff,Env.ofArgs_at,TS,vk,h1,Uz,ng]
 by_cases h2:op=19
 ·by_cases h3:b=0<;>simp only[wd,↓reduceIte,Nat.reduceEqDiff,Int.reduceEq,h2,h3,tr]
 simp only[wd,↓reduceIte,Nat.reduceEqDiff,h1,h2,Option.getD_none]
theorem KK{m:Nat}(op a b:Int)(h:op=12∨op=13):aj aG (m+1) 197 [.int .i64 op,.int .i64 a,.int .i64 b]=some (.tup [.int .i64 (cQ op a b).1,.int .i64 (cQ op a b).2],[]):=by
 refine am (F:=lz) rfl rfl rfl ?_ (.inr rfl);have hq:b≠0->aI .quo .i64 a .i64 b=some (.int .i64 (IntKind.i64.wrap (a.tdiv b))):=λh=>by simp only[aI];rw[TF (by decide),TF h]
 have hr:b≠0->aI .rem .i64 a .i64 b=some (.int .i64 (a.tmod b)):=λh=>by simp only[aI];rw[TF (by decide),TF h]
 have ht:cQ op a b=if b=0 then(0,3)else if op=12 then(IntKind.i64.wrap (a.tdiv b),0)else(a.tmod b,0):=by
  rcases h with rfl|rfl<;>rfl
 rw[ht];simp only[lz];by_cases h0:b=0
 ·simp only[wd,↓reduceIte,Nat.reduceEqDiff,h0]
 ·rcases h with rfl|rfl
  ·simp only[wd,↓reduceIte,Nat.reduceEqDiff,h0,hq h0]
  ·simp only[wd,↓reduceIte,Nat.reduceEqDiff,Int.reduceEq,h0,hr h0]
theorem P7{m:Nat}(op a b:Int):aj aG (m+2) 195 [.int .i64 op,.int .i64 a,.int .i64 b]=some (.tup [.int .i64 (cQ op a b).1,.int .i64 (cQ op a b).2],[]):=by
 refine am (F:=oS) rfl rfl rfl ?_ (.inr rfl);have tr:=λb=>FF (m:=m) b;have pt:=λh=>KK (m:=m) op a b h;generalize aj aG (m+1)=C at*;generalize aY aG=V;have ad:aI .add .i64 a .i64 b=some (.int .i64 (IntKind.i64.wrap (a+b))):=by simp only[aI];rw[TF (by decide)]
 have sb:aI .sub .i64 a .i64 b=some (.int .i64 (IntKind.i64.wrap (a-b))):=by simp only[aI];rw[TF (by decide)]
 have ml:aI .mul .i64 a .i64 b=some (.int .i64 (IntKind.i64.wrap (a*b))):=by simp only[aI];rw[TF (by decide)]
 simp only[oS];by_cases h1:op=9
 ·simp only[wd,↓reduceIte,Nat.reduceEqDiff,h1,ad,cQ]
 by_cases h2:op=10
 ·simp only[wd,↓reduceIte,Nat.reduceEqDiff,Int.reduceEq,h2,sb,cQ]
 by_cases h3:op=11
 ·simp only[wd,↓reduceIte,Nat.reduceEqDiff,Int.reduceEq,h3,ml,cQ]
 by_cases h4:op=15
 ·simp only[wd,↓reduceIte,Nat.reduceEqDiff,Int.reduceEq,h4,tr,cQ]
 by_cases h5:op=16
 ·simp only[wd,↓reduceIte,Nat.reduceEqDiff,Int.reduceEq,h5,tr,cQ]
 by_cases h6:op=17
 ·by_cases q1:a=0<;>by_cases q2:b=0<;>simp only[wd,↓reduceIte,Nat.reduceEqDiff,Int.reduceEq,h6,q1,q2,tr,cQ]
 by_cases h7:op=18
 ·by_cases q1:a=0<;>by_cases q2:b=0<;>simp only[wd,↓reduceIte,Nat.reduceEqDiff,reduceCtorEq,Int.reduceEq,h7,q1,q2,tr,cQ]
 by_cases h8:op=12
 ·have pt:=pt (.inl h8);subst h8;simp only[wd,↓reduceIte,Nat.reduceEqDiff,reduceCtorEq,Int.reduceEq,pt]
 by_cases h9:op=13
 ·have pt:=pt (.inr h9);subst h9;simp only[wd,↓reduceIte,Nat.reduceEqDiff,reduceCtorEq,Int.reduceEq,pt]
 have ht:cQ op a b=(0,0):=by simp[cQ,h1,h2,h3,h4,h5,h6,h7,h8,h9]
 rw[ht];simp only[wd,↓reduceIte,Nat.reduceEqDiff,h1,h2,h3,h4,h5,h6,h7,h8,h9]
structure bu where
 p:SProg
 who:Int
 args:List Int
 loc:aT
 stack:List Int
 notes:List SNote
 at':Int
def nR(l:List Int):PV:=eI l.reverse
def bY(M:bu):List PV:=[iw M.p.handlers,i4 M.p.actors,dS M.p.boot,.int .i64 M.p.fuel,.int .i64 M.who,eI M.args,eI M.loc.regs,.bool M.loc.armed,.int .i64 M.loc.down,.int .i64 M.loc.sent,.int .i64 M.loc.over,nR M.stack,dS M.notes,.int .i64 M.at']
theorem Pz(l:List Int):(eI l).fits none=true:=rfl
theorem QD(l:List Int):(nR l).fits none=true:=rfl
theorem Ry(l:List Int):(eI l).isCell=true:=rfl
theorem O6(l:List Int):(nR l).isCell=true:=rfl
theorem we:type_of%(And.intro wd (And.intro @Pz (And.intro @QD (And.intro @Ry @O6)))):=And.intro wd (And.intro @Pz (And.intro @QD (And.intro @Ry @O6)))
theorem CS(l:List Int):bO (nR l)=some (.int .i64 l.length):=by rw[nR,cE,List.length_reverse]
theorem eZ(x:Int)(t:List Int):az 1 (nR (x::t)) (.int .i64 (t.length:Nat))=some (.lptr [.int .i64 x]):=eP (by simp)
theorem r8(x:Int)(t:List Int):cj 1 (nR (x::t)) (.tup []) (.int .i64 (t.length:Nat)) (.tup [])=some (nR t):=by
 rw[nR,qI (by simp),U9,U7 (by simp),UB (by simp),nR]
theorem oe{n:Nat}(h:n<1000000000):aI .sub .i64 ((n+1:Nat):Int) .i64 1=some (.int .i64 (n:Nat)):=by
 rw[vr (by omega) (by omega)];congr 2;omega
theorem Ic{l r:List Int}(h:l.length+r.length<1000000000):iO 1 (nR l) (eI r)=some (nR (r.reverse++l)):=by
 rw[nR,Ky (by simp;omega),nR,List.reverse_append,List.reverse_reverse]
theorem Gc{m:Nat}(M:bu)(x:Int)(t:List Int)(h:M.stack=x::t)(hl:t.length<1000000):aj aG (m+1) 185 [.lptr (bY M)]=some (.int .i64 x,[.lptr (bY {M with stack:=t})]):=by
 refine am (F:=gx) rfl rfl rfl ?_ (.inr rfl);have ll:=CS (x::t);have s1:=oe (n:=t.length) (by omega);have i1:=eZ x t;have s2:=r8 x t;rw[TJ]at ll;simp only[bY,h,gx];simp only[we,↓reduceIte,Nat.reduceEqDiff,ll,s1,i1,s2]
theorem DS{m:Nat}(M:bu)(r:List Int)(hl:M.stack.length+r.length<1000000):aj aG (m+1) 184 [.lptr (bY M),eI r]=some (.tup [],[.lptr (bY {M with stack:=r.reverse++M.stack})]):=by
 refine am (F:=fQ) rfl rfl rfl ?_ (.inr rfl);have ap:=Ic (l:=M.stack) (r:=r) (by omega);simp only[bY,fQ];simp only[we,↓reduceIte,ap]
def bg(M:bu)(op:Int):Option (bu×Int):=
 match M.stack with
 | b::t=>match ej op b with
  |some v=>some ({M with stack:=v::t},0)
  |none=>match t with
   |a::t=>some ({M with stack:=(cQ op a b).1::t},(cQ op a b).2)
   |[]=>none
 |[]=>none
theorem LR{m:Nat}(M:bu)(op:Int)(N:bu)(d:Int)(hl:M.stack.length<100000)(h:bg M op=some (N,d)):aj aG (m+3) 188 [.lptr (bY M),.int .i64 op]=some (.int .i64 d,[.lptr (bY N)]):=by
 refine am (F:=ec) rfl rfl rfl ?_ (.inr rfl);have pp:=λ(M:bu) x t h hl=>Gc (m:=m+1) M x t h hl;have ps:=λ(M:bu)(r:List Int) hl=>DS (m:=m+1) M r hl;have o1:=λb=>QU (m:=m) op b;have o2:=λa b=>P7 (m:=m) op a b;generalize aj aG (m+2)=C at*;generalize aY aG=V;unfold bg at h;cases hs:M.stack with
 |nil=>rw[hs]at h;cases h
 | cons b t=>
  rw[hs]at h hl;simp only[TJ]at hl;have p1:=pp M b t hs (by omega);have o1:=o1 b;simp only at h;cases ho:ej op b with
  |some v=>
   rw[ho]at h o1;cases h;have q1:=ps {M with stack:=t} [v] (by simp;omega);simp only[U9,List.reverse_nil,TL,UD]at q1;rw[<-Kv]at q1;simp only[bY,hs]at p1 q1;simp only[bY,hs,ec];simp only[we,↓reduceIte,Nat.reduceEqDiff,Nat.reduceAdd,p1,o1,q1]
  | none=>
   rw[ho]at h o1;cases t with
   |nil=>cases h
   |cons a t=>
    simp only[TJ]at hl;cases h;have o2:=o2 a b;have p2:=pp {M with stack:=a::t} a t rfl (by omega);have q1:=ps {M with stack:=t} [(cQ op a b).1] (by simp;omega);simp only[U9,List.reverse_nil,TL,UD]at q1;rw[<-Kv]at q1;simp only[bY,hs]at p1 p2 q1;simp only[bY,hs,ec];simp only[we,↓reduceIte,Nat.reduceEqDiff,Nat.reduceAdd,p1,o1,Option.getD_none,p2,o2,q1]
def yC(M:bu)(i:SInstr):Option bu:=
 if i.op=6 then(match M.stack with
  |x::t=>some {M with stack:=t,loc:=if i.a<M.loc.regs.length then{M.loc with regs:=M.loc.regs.set i.a.toNat x}else M.loc}
  |[]=>none)
 else some {M with stack:=(match M.loc.regs[i.a.toNat]? with|some x=>x|none=>0)::M.stack}
theorem Oy{m:Nat}(M:bu)(i:SInstr)(N:bu)(hl:M.stack.length<100000)(ha:0<=i.a)(h:yC M i=some N):aj aG (m+2) 186 [.lptr (bY M),eA i]=some (.tup [],[.lptr (bY N)]):=by
 refine am (F:=yN) rfl rfl rfl ?_ (.inr rfl);have pp:=λ(M:bu) x t h hl=>Gc (m:=m) M x t h hl;have ps:=λ(M:bu)(r:List Int) hl=>DS (m:=m) M r hl;generalize aj aG (m+1)=C at*;generalize aY aG=V;obtain⟨k,hk⟩:=Ug ha;have lr:bO (eI M.loc.regs)=some (.int .i64 M.loc.regs.length):=cE;unfold yC at h;simp only[eA,yN];by_cases h6:i.op=6
 ·rw[TB h6]at h;cases hs:M.stack with
  |nil=>rw[hs]at h;cases h
  | cons x t=>
   rw[hs]at h hl;simp only[TJ]at hl;cases h;by_cases hr:(k:Int)<(M.loc.regs.length:Int)
   ·have ll:=CS (x::t);have s1:=oe (n:=t.length) (by omega);have i1:=eZ x t;have s2:=r8 x t;have up:=Ev (l:=M.loc.regs) (k:=k) (x:=x) (by omega);rw[TJ]at ll;rw[TB (by rw[hk];exact hr)];simp only[bY,hs,hk,TV];simp only[we,↓reduceIte,Nat.reduceEqDiff,Nat.reduceAdd,Tz,h6,lr,hr,ll,s1,i1,s2,up]
   ·have p1:=pp M x t hs (by omega);rw[TF (by rw[hk];exact hr)];simp only[bY,hs]at p1;simp only[bY,hs,hk];simp only[we,↓reduceIte,Nat.reduceEqDiff,Nat.reduceAdd,Tz,h6,lr,hr,p1]
 ·rw[TF h6]at h;cases h;by_cases hr:(k:Int)<(M.loc.regs.length:Int)
  ·obtain⟨x,hx,_⟩:=aN (l:=M.loc.regs) (k:=k) (by omega);have ix:=eP hx;have q1:=ps M [x] (by simp;omega);simp only[U9,List.reverse_nil,TL,UD]at q1;rw[<-Kv]at q1;simp only[bY]at q1;simp only[bY,hk,TV,hx];simp only[we,↓reduceIte,Nat.reduceEqDiff,Nat.reduceAdd,Tz,h6,lr,hr,ix,q1]
  ·have hx:M.loc.regs[k]?=none:=TO (by omega);have q1:=ps M [0] (by simp;omega);simp only[U9,List.reverse_nil,TL,UD]at q1;rw[<-Kv]at q1;simp only[bY]at q1;simp only[bY,hk,TV,hx];simp only[we,↓reduceIte,Nat.reduceEqDiff,Nat.reduceAdd,Tz,h6,lr,hr,q1]
theorem Cv:∀l:List SNote,cq 3 (l.map eK)=true
 |[]=>rfl
 |x::l=>by simp only[TW,cq,eK,PV.cells,TJ,Um,Nat.reduceAdd,Tz,Uj];exact Cv l
theorem Q8{a b:List SNote}(h:a.length+b.length<2147483648):iO 3 (dS a) (dS b)=some (dS (a++b)):=by
 simp only[dS,iO];rw[TB ⟨Cv b,by simp only[Uk];exact h⟩,U1]
def pL(M:bu)(h:Int):Option (bu×Int):=
 match M.stack with
 |to::t=>if to<0∨(M.p.actors.length:Int)<=to then some ({M with stack:=t},4)
  else if(cz M.p h).toNat<=t.length then some ({M with stack:=t.drop (cz M.p h).toNat,notes:=M.notes++[⟨to,h,(t.take (cz M.p h).toNat).reverse⟩]},0)else none
 |[]=>none
theorem Np{m:Nat}(M:bu)(h:Int)(hh:0<=h/\h<M.p.handlers.length)(hg:∀x∈M.p.handlers,0<=x.args/\x.args<=4)(N:bu)(d:Int)(hl:M.stack.length<100000)(hn:M.notes.length<100000)(hS:pL M h=some (N,d)):
  aj aG (m+2) 187 [.lptr (bY M),.int .i64 h]=some (.int .i64 d,[.lptr (bY N)]):=by
 refine am (F:=fO) rfl rfl rfl ?_ (.inr rfl);have pp:=λ(M:bu) x t h hl=>Gc (m:=m) M x t h hl;have cl:=λ(l:List Int) hl=>wv (m:=m) l hl;generalize aj aG (m+1)=C at*;generalize aY aG=V;obtain⟨j,x,hj,hx,ha⟩:=iC hh.1 hh.2;have hxa:=hg x (TC hx);have ih:=iK hx;unfold pL at hS;simp only[fO];cases hs:M.stack with
 |nil=>rw[hs]at hS;cases hS
 | cons to t=>
  rw[hs]at hS hl;simp only[TJ]at hl;simp only at hS;have p1:=pp M to t hs (by omega);have e4:∀X:VC,aL C V (.seq X .skip)=aL C V (.seq X .skip):=λ_=>rfl;clear e4;by_cases q1:to<0∨(M.p.actors.length:Int)<=to
  ·rw[TB q1]at hS;cases hS;by_cases q2:to<0
   ·simp only[bY,hs]at p1;simp only[bY,hs];simp only[we,↓reduceIte,Nat.reduceEqDiff,reduceCtorEq,Nat.reduceAdd,p1,q2]
   ·have q3:(M.p.actors.length:Int)<=to:=by omega
    simp only[bY,hs]at p1;simp only[bY,hs];simp only[we,↓reduceIte,Nat.reduceEqDiff,Nat.reduceAdd,p1,q2,q3,bP]
  ·rw[TF q1]at hS;have q2:¬to<0:=by omega
   have q3:¬(M.p.actors.length:Int)<=to:=by omega
   split at hS
   rotate_left
   ·cases hS
   rename_i hk;cases hS;obtain⟨k,hka⟩:=Ug hxa.1;rw[ha,hka]at hk⊢;simp only[TV]at hk⊢;have ll:=CS t;have sb:aI .sub .i64 (t.length:Int) .i64 (k:Int)=some (.int .i64 ((t.length-k:Nat):Int)):=by
    rw[vr (by omega) (by omega)];congr 2;omega
   have s1:cj 1 (nR t) (.int .i64 ((t.length-k:Nat):Int)) (.tup []) (.tup [])=some (eI (t.take k).reverse):=by
    rw[nR,Ad (by simp),List.drop_reverse,show t.length-(t.length-k)=k by omega]
   have s2:cj 1 (nR t) (.tup []) (.int .i64 ((t.length-k:Nat):Int)) (.tup [])=some (nR (t.drop k)):=by
    rw[nR,qI (by simp),List.take_reverse,show t.length-(t.length-k)=k by omega,nR]
   have c1:=cl (t.take k).reverse (by simp;omega);have ap:=Q8 (a:=M.notes) (b:=[⟨to,h,(t.take k).reverse⟩]) (by simp;omega);have en:dS [⟨to,h,(t.take k).reverse⟩]=.lst [.agg [.int .i64 to,.int .i64 h,eI (t.take k).reverse]] false:=rfl;rw[en]at ap;rw[hka]at ih;simp only[bY,hs]at p1;simp only[bY,hs];rw[hj]at ap⊢;simp only[we,↓reduceIte,Nat.reduceEqDiff,Nat.reduceAdd,p1,q2,q3,bP,ih,ll,sb,s1,c1,ap,s2]
def oD(M:bu):Int:=match M.p.actors[M.who.toNat]? with|some a=>a.timer|none=>0
def da(M:bu)(i:SInstr):Option (bu×Int):=
 let N:={M with at':=M.at'+1}
 if i.op=1 then some ({N with stack:=i.a::M.stack},0)
 else if i.op=2 then(match M.stack with|_::t=>some ({N with stack:=t},0)|[]=>none)
 else if i.op=3 then(match M.stack with|x::t=>some ({N with stack:=x::x::t},0)|[]=>none)
 else if i.op=4 then(match M.stack with|b::a::t=>some ({N with stack:=a::b::t},0)|_=>none)
 else if i.op=5∨i.op=6 then(yC N i).map λR=>(R,0)
 else if i.op=7 then(match M.args[i.a.toNat]? with|some x=>some ({N with stack:=x::M.stack},0)|none=>none)
 else if i.op=8 then some ({N with stack:=M.who::M.stack},0)
 else if i.op=20 then some ({N with at':=i.a},0)
 else if i.op=21 then(match M.stack with|x::t=>some (if x=0 then{N with stack:=t,at':=i.a}else{N with stack:=t},0)|[]=>none)
 else if i.op=22 then pL N i.a
 else if i.op=23 then some ({N with loc:={M.loc with armed:=M.loc.armed|| !decide (oD M= -1)}},0)
 else if i.op=24 then some ({N with loc:={M.loc with armed:=false}},0)
 else if i.op=25 then some ({N with at':= -1},0)
 else bg N i.op
structure JZ (M:bu) (i:SInstr):Prop where
 valid:eg i.op=true
 reg:i.op=5∨i.op=6∨i.op=7->0<=i.a
 send:i.op=22->0<=i.a/\i.a<M.p.handlers.length
 args:∀x∈M.p.handlers,0<=x.args/\x.args<=4
 who:0<=M.who/\M.who<M.p.actors.length
 stack:M.stack.length<10000
 notes:M.notes.length<10000
 at1: -10<=M.at'/\M.at'<100000
theorem R9{m:Nat}(M:bu)(i:SInstr)(ok:JZ M i)(N:bu)(d:Int)(h:da M i=some (N,d)):aj aG (m+4) 175 [.lptr (bY M),eA i]=some (.int .i64 d,[.lptr (bY N)]):=by
 refine am (F:=iE) rfl rfl rfl ?_ (.inr rfl);have pp:=λ(M:bu) x t h hl=>Gc (m:=m+2) M x t h hl;have ps:=λ(M:bu)(r:List Int) hl=>DS (m:=m+2) M r hl;have rg:=λM i N hl ha h=>Oy (m:=m+1) M i N hl ha h;have sn:=λM h hh hg N d hl hn hS=>Np (m:=m+1) M h hh hg N d hl hn hS;have ct:=λM op N d hl h=>LR (m:=m) M op N d hl h;generalize aj aG (m+3)=C at*;generalize aY aG=V;have hst:=ok.stack;have hnt:=ok.notes;have hat:=ok.at1;have ad:=jo (x:=M.at') (y:=1) (by omega) (by omega);have push1:∀x:Int,C 184 [.lptr (bY {M with at':=M.at'+1}),.lst [.int .i64 x] false]=some (.tup [],[.lptr (bY {M with at':=M.at'+1,stack:=x::M.stack})]):=λx=>by
  have q1:=ps {M with at':=M.at'+1} [x] (by simp;omega);simpa[<-Kv]using q1
 simp only[bY]at push1;have e1:∀k:Int,i.op=k->True:=λ_ _=>trivial;clear e1;simp only[bY,eA,iE];refine nx (by simp only[we,↓reduceIte,Nat.reduceAdd,Tz,ad];rfl) ?_;rw[mM];refine nx (by simp only[we,↓reduceIte,Nat.reduceEqDiff];rfl) ?_;rcases mA ok.valid with ho|ho|ho|ho|ho|ho|ho|ho|ho|ho|ho|ho|ho|ho|ho|ho|ho|ho|ho|ho|ho|ho|ho|ho|ho
 ·simp only[da,ho,TY,Ty,TH]at h;obtain⟨rfl,rfl⟩:=h;have q:=push1 i.a;refine nx (by simp only[we,↓reduceIte,Nat.reduceEqDiff,Nat.reduceAdd,Int.reduceNeg,ho,q];rfl) ?_;simp only[we,↓reduceIte,Nat.reduceEqDiff]
 ·cases hs:M.stack with
  |nil=>simp[da,ho,hs]at h
  |cons x t=>
   simp only[da,ho,hs,Int.reduceEq,TY,TU,Ty,TH]at h;obtain⟨rfl,rfl⟩:=h;rw[hs]at hst;simp only[TJ]at hst;have p1:=pp {M with at':=M.at'+1} x t hs (by omega);simp only[bY,hs]at p1;refine nx (by simp only[we,↓reduceIte,Nat.reduceEqDiff,Nat.reduceAdd,Int.reduceEq,Int.reduceNeg,ho,p1];rfl) ?_;simp only[we,↓reduceIte,Nat.reduceEqDiff]
 ·cases hs:M.stack with
  |nil=>simp[da,ho,hs]at h
  |cons x t=>
   simp only[da,ho,hs,Int.reduceEq,TY,TU,Ty,TH]at h;obtain⟨rfl,rfl⟩:=h;have q:=push1 x;rw[hs]at hst q;simp only[TJ]at hst;have ll:=CS (x::t);rw[TJ]at ll;have s1:=oe (n:=t.length) (by omega);have i1:=eZ x t;refine nx (by simp only[we,↓reduceIte,Nat.reduceEqDiff,Nat.reduceAdd,Int.reduceEq,Int.reduceNeg,ho,ll,s1,i1,q];rfl) ?_;simp only[we,↓reduceIte,Nat.reduceEqDiff]
 ·match hs:M.stack with
  |[]=>simp[da,ho,hs]at h
  |[x]=>simp[da,ho,hs]at h
  |b::a::t=>
   simp only[da,ho,hs,Int.reduceEq,TY,TU,Ty,TH]at h;obtain⟨rfl,rfl⟩:=h;rw[hs]at hst;simp only[TJ]at hst;have p1:=pp {M with at':=M.at'+1} b (a::t) hs (by simp;omega);have p2:=pp {M with at':=M.at'+1,stack:=a::t} a t rfl (by omega);have q1:=ps {M with at':=M.at'+1,stack:=t} [b,a] (by simp;omega);simp only[U9,List.reverse_nil,TL,UD]at q1;rw[<-Tc]at q1;simp only[bY,hs]at p1 p2 q1;refine nx (by simp only[we,↓reduceIte,Nat.reduceEqDiff,Nat.reduceAdd,Int.reduceEq,Int.reduceNeg,ho,p1,p2,q1];rfl) ?_;simp only[we,↓reduceIte,Nat.reduceEqDiff]
 ·have hr:=h;simp only[da,ho,Int.reduceEq,TY,TU,Vl,Uc]at hr;obtain⟨R,hR,hR2⟩:=hr;cases hR2;have r1:=rg {M with at':=M.at'+1} i N (by simp only;omega) (ok.reg (by omega)) hR;simp only[bY,eA]at r1;rw[ho]at r1;refine nx (by simp only[we,↓reduceIte,Nat.reduceEqDiff,Nat.reduceAdd,Int.reduceEq,Int.reduceNeg,ho,r1];rfl) ?_;simp only[we,↓reduceIte,Nat.reduceEqDiff]
 ·have hr:=h;simp only[da,ho,Int.reduceEq,TY,TU,Vf,Uc]at hr;obtain⟨R,hR,hR2⟩:=hr;cases hR2;have r1:=rg {M with at':=M.at'+1} i N (by simp only;omega) (ok.reg (by omega)) hR;simp only[bY,eA]at r1;rw[ho]at r1;refine nx (by simp only[we,↓reduceIte,Nat.reduceEqDiff,Nat.reduceAdd,Int.reduceEq,Int.reduceNeg,ho,r1];rfl) ?_;simp only[we,↓reduceIte,Nat.reduceEqDiff]
 ·obtain⟨k,hk⟩:=Ug (ok.reg (by omega));cases hx:M.args[k]? with
  |none=>simp[da,ho,hk,hx]at h
  |some x=>
   simp only[da,ho,hk,hx,TV,Int.reduceEq,Uv,TY,TU,Ty,TH]at h;obtain⟨rfl,rfl⟩:=h;have ix:=eP hx;have q:=push1 x;refine nx (by simp only[we,↓reduceIte,Nat.reduceEqDiff,Nat.reduceAdd,Int.reduceEq,Int.reduceNeg,ho,hk,ix,q];rfl) ?_;simp only[we,↓reduceIte,Nat.reduceEqDiff]
 ·simp only[da,ho,Int.reduceEq,Uv,TY,TU,Ty,TH]at h;obtain⟨rfl,rfl⟩:=h;have q:=push1 M.who;refine nx (by simp only[we,↓reduceIte,Nat.reduceEqDiff,Nat.reduceAdd,Int.reduceEq,Int.reduceNeg,ho,q];rfl) ?_;simp only[we,↓reduceIte,Nat.reduceEqDiff]
 iterate 11
  ·have hc:bg {M with at':=M.at'+1} i.op=some (N,d):=by simpa[da,ho]using h
   have c1:=ct {M with at':=M.at'+1} i.op N d (by simp only;omega) hc;simp only[bY]at c1;rw[ho]at c1;refine ah ?_;simp only[we,↓reduceIte,Nat.reduceEqDiff,Nat.reduceAdd,Int.reduceEq,Int.reduceNeg,ho,c1]
 ·simp only[da,ho,Int.reduceEq,Uv,TY,TU,Ty,TH]at h;obtain⟨rfl,rfl⟩:=h;refine nx (by simp only[we,↓reduceIte,Nat.reduceEqDiff,Int.reduceEq,Int.reduceNeg,ho];rfl) ?_;simp only[we,↓reduceIte,Nat.reduceEqDiff]
 ·cases hs:M.stack with
  |nil=>simp[da,ho,hs]at h
  | cons x t=>
   simp only[da,ho,hs,Int.reduceEq,Uv,TY,TU,Ty,TH]at h;obtain⟨rfl,rfl⟩:=h;rw[hs]at hst;simp only[TJ]at hst;have p1:=pp {M with at':=M.at'+1} x t hs (by omega);simp only[bY,hs]at p1;by_cases hx:x=0
   ·rw[TB hx];rw[hx]at p1;simp only[hx]at*;refine nx (by simp only[we,↓reduceIte,Nat.reduceEqDiff,Nat.reduceAdd,Int.reduceEq,Int.reduceNeg,ho,p1];rfl) ?_;simp only[we,↓reduceIte,Nat.reduceEqDiff]
   ·rw[TF hx];refine nx (by simp only[we,↓reduceIte,Nat.reduceEqDiff,Nat.reduceAdd,Int.reduceEq,Int.reduceNeg,ho,p1,hx];rfl) ?_;simp only[we,↓reduceIte,Nat.reduceEqDiff]
 ·have hc:pL {M with at':=M.at'+1} i.a=some (N,d):=by simpa[da,ho]using h
  have s1:=sn {M with at':=M.at'+1} i.a (ok.send ho) ok.args N d (by simp only;omega) (by simp only;omega) hc;simp only[bY]at s1;refine ah ?_;simp only[we,↓reduceIte,Nat.reduceEqDiff,Nat.reduceAdd,Int.reduceEq,Int.reduceNeg,ho,s1]
 ·obtain⟨j,hj⟩:=Ug ok.who.1;have hjl:=ok.who.2;obtain⟨a,ha,_⟩:=aN (l:=M.p.actors) (k:=j) (by omega);have ia:=gY ha;have ht:oD M=a.timer:=by simp[oD,hj,ha]
  simp only[da,ho,ht,Int.reduceEq,Uv,TY,TU,Ty,TH]at h;obtain⟨rfl,rfl⟩:=h;cases hA:M.loc.armed with
  |true=>
   refine nx (by simp only[we,↓reduceIte,Nat.reduceEqDiff,reduceCtorEq,Int.reduceEq,Int.reduceNeg,ho];rfl) ?_;simp only[we,↓reduceIte,Nat.reduceEqDiff,Int.reduceNeg,Bool.true_or]
  |false=>
   refine nx (by simp only[we,↓reduceIte,Nat.reduceEqDiff,Int.reduceEq,Int.reduceNeg,ho,hj,ia];rfl) ?_;simp only[we,↓reduceIte,Nat.reduceEqDiff,Int.reduceNeg,hj,US]
 ·simp only[da,ho,Int.reduceEq,Uv,TY,TU,Ty,TH]at h;obtain⟨rfl,rfl⟩:=h;refine nx (by simp only[we,↓reduceIte,Nat.reduceEqDiff,Int.reduceEq,Int.reduceNeg,ho];rfl) ?_;simp only[we,↓reduceIte,Nat.reduceEqDiff]
 ·simp only[da,ho,Int.reduceEq,Uv,TY,TU,Ty,TH]at h;obtain⟨rfl,rfl⟩:=h;refine nx (by simp only[we,↓reduceIte,Nat.reduceEqDiff,Int.reduceEq,Int.reduceNeg,ho];rfl) ?_;simp only[we,↓reduceIte,Nat.reduceEqDiff,Int.reduceNeg]
def vY(code:List SInstr):Nat->bu->Nat->Option (bu×Int×Nat)
 | f,M,s=>if 0<=M.at'/\M.at'<code.length then(match f with
  |0=>some (M,2,s)
  | f+1=>match code[M.at'.toNat]? with
   |none=>none
   |some i=>match da M i with
    |none=>none
    |some (N,d)=>if d=0 then vY code f N (s+1)else some (N,d,s+1))else some (M,0,s)
structure JH where
 loc:aT
 notes:List SNote
 steps:Int
def pU(r:JH):List PV:=[eI r.loc.regs,.bool r.loc.armed,.int .i64 r.loc.down,.int .i64 r.loc.sent,.int .i64 r.loc.over,dS r.notes,.int .i64 r.steps]
def oT(l:aT)(x:bu×Int×Nat):JH:=if x.2.1=0 then⟨{x.1.loc with sent:=x.1.loc.sent+x.1.notes.length},x.1.notes,x.2.2⟩else⟨{l with down:=x.2.1},[],x.2.2⟩
structure Js (p:SProg) (who:Int) (code:List SInstr) (Inv:Nat->bu->Prop):Prop where
 prog:∀s M,Inv s M->M.p=p/\M.who=who
 ok:∀s M i,Inv s M->(s:Int)<p.fuel->0<=M.at'->code[M.at'.toNat]?=some i->JZ M i
 step:∀s M i N,Inv s M->(s:Int)<p.fuel->0<=M.at'->code[M.at'.toNat]?=some i->da M i=some (N,0)->Inv (s+1) N
 sent:∀s M,Inv s M-> -1000000000000000000<=M.loc.sent/\M.loc.sent<=1000000000000000000/\M.notes.length<100000
theorem S4{m:Nat}(p:SProg)(who:Int)(l:aT)(hl:l.regs.length<1000000000)(k:Nat)(h:SHandler)(hk:p.handlers[k]?=some h)(args:List Int)(hf:0<=p.fuel/\p.fuel<=100000)(Inv:Nat->bu->Prop)(I:Js p who h.code Inv)
  (h0:Inv 0 ⟨p,who,args,l,[],[],0⟩)(x:bu×Int×Nat)(hx:vY h.code p.fuel.toNat ⟨p,who,args,l,[],[],0⟩ 0=some x):
  aj aG (m+5) 149 [aA p,.int .i64 who,bl l,.int .i64 (k:Nat),eI args]=some (.agg (pU (oT l x)),[]):=by
 refine am (F:=wG) rfl rfl rfl ?_ (.inl rfl);have cl:=wv (m:=m+3) l.regs hl;have dv:=λM i ok N d h=>R9 (m:=m) M i ok N d h;generalize aj aG (m+4)=C at*;generalize aY aG=V;obtain⟨F,hF⟩:=Ug hf.1;rw[hF,TV]at hx;have ih:=iK hk;have lc:bO (cw h.code)=some (.int .i64 h.code.length):=fG;have en:dS []=.lst [] false:=rfl;have es:nR []=.lst [] false:=rfl;have fc:(cw h.code).fits none=true:=rfl;simp only[eA]at dv;simp only[aA,ao,bl,br,wG];refine nx (by simp only[we,↓reduceIte,Nat.reduceEqDiff,Nat.reduceAdd,Tz,ih,cl];rfl) ?_;rw[yp];refine Dd (C:=C) (V:=V) (m:=F) (by omega)
  (λf e=>∃(M:bu)(s:Nat),Inv s M/\vY h.code f M s=some x/\f+s=F/\e 26=.lptr (bY M)/\e 13=.int .i64 (s:Nat)/\e 5=.lptr [iw p.handlers,i4 p.actors,dS p.boot,.int .i64 p.fuel]/\e 7=.lptr [eI l.regs,.bool l.armed,.int .i64 l.down,.int .i64 l.sent,.int .i64 l.over]/\e 11=cw h.code)
  (λe=>x.2.1=0/\Inv x.2.2 x.1/\e 26=.lptr (bY x.1)/\e 13=.int .i64 (x.2.2:Nat)) (λv=>v=.agg (pU (oT l x))) (λf e ⟨M,s,hI,hg,hfs,e26,e13,e5,e7,e11⟩=>?_)
  ⟨⟨p,who,args,l,[],[],0⟩,0,h0,hx,by omega,by simp[bY,en,es],by simp,by simp,by simp,by simp⟩ (λe ⟨hd,hI,e26,e13⟩=>?_) (λv hv=>by rw[hv])
 ·have e26':=e26;simp only[bY]at e26';by_cases hat:0<=M.at'/\M.at'<h.code.length
  rotate_left
  ·left;have hx2:x=(M,0,s):=by
    unfold vY at hg;rw[TF hat]at hg;exact(UF hg).symm
   refine⟨e,?_,by rw[hx2],by rw[hx2];exact hI,by rw[hx2];exact e26,by rw[hx2];exact e13⟩;by_cases q1:0<=M.at'
   ·have q2:¬M.at'<h.code.length:=λh=>hat ⟨q1,h⟩;simp only[we,↓reduceIte,e26',e11,lc,q1,q2]
   ·simp only[we,↓reduceIte,e26',q1]
  right;refine⟨e,by simp only[we,↓reduceIte,e26',e11,lc,hat.1,hat.2],?_⟩;have e5f:e 5=.lptr [iw p.handlers,i4 p.actors,dS p.boot,.int .i64 (F:Nat)]:=by rw[e5,hF]
  cases f with
  | zero=>
   right;have hx2:x=(M,2,s):=by
    unfold vY at hg;rw[TB hat]at hg;exact(UF hg).symm
   have hlt:¬(s:Int)<(F:Int):=by omega
   refine⟨_,?_,rfl⟩;rw[hx2];refine bt ?_;simp only[we,↓reduceIte,Nat.reduceEqDiff,Int.reduceEq,e13,e5f,e7,hlt,cl,pU,oT,en]
  | succ f=>
   obtain⟨j,hj⟩:=Ug hat.1;obtain⟨i,hi,him⟩:=aN (l:=h.code) (k:=j) (by omega);have hi':h.code[M.at'.toNat]?=some i:=by rw[hj];exact hi
   have ok:=I.ok s M i hI (by omega) hat.1 hi';have ic:=od hi;have hlt:(s:Int)<(F:Int):=by omega
   have ad:=bT (k:=s) (by omega);unfold vY at hg;rw[TB hat]at hg;simp only[hi']at hg;cases hd:da M i with
   |none=>rw[hd]at hg;cases hg
   | some y=>
    obtain⟨N,d⟩:=y;rw[hd]at hg;simp only at hg;have d1:=dv M i ok N d hd;simp only[bY]at d1;rw[hj]at e26' d1;by_cases h0d:d=0
    ·rw[TB h0d]at hg;subst h0d;left;have hIN:=I.step s M i N hI (by omega) hat.1 hi' hd;refine⟨_,f,by simp only[we,↓reduceIte,Nat.reduceEqDiff,Nat.reduceAdd,Tz,e26',e13,e5f,e11,hlt,ad,ic,d1];rfl,by omega,N,s+1,hIN,hg,by omega,by simp[bY],by simp,by simp[e5],by simp[e7],by simp[e11]⟩
    ·rw[TF h0d]at hg;right;have hx2:x=(N,d,s+1):=(UF hg).symm;refine⟨_,?_,rfl⟩;rw[hx2];refine bt ?_;have hr:oT l (N,d,s+1)=⟨{l with down:=d},[],((s+1:Nat):Int)⟩:=by simp[oT,h0d]
     rw[hr];simp only[we,↓reduceIte,Nat.reduceEqDiff,Nat.reduceAdd,Tz,e26',e13,e5f,e7,e11,hlt,ad,ic,d1,h0d,cl,pU,en]
 ·have hs:=I.sent x.2.2 x.1 hI;have ad:=jo (x:=x.1.loc.sent) (y:=(x.1.notes.length:Int)) (by omega) (by omega);have hr:oT l x=⟨{x.1.loc with sent:=x.1.loc.sent+x.1.notes.length},x.1.notes,x.2.2⟩:=by simp[oT,hd]
  rw[hr];simp only[bY]at e26;simp only[we,↓reduceIte,Nat.reduceEqDiff,e26,e13,d9,ad,pU]
theorem C8{m:Nat}(b:Bool):aj aG (m+1) 53 [.bool b]=some (.int .i64 (nK b),[]):=by
 refine am (F:=lK) rfl rfl rfl ?_ (.inr rfl);cases b<;>simp only[wd,↓reduceIte,lK,nK]
theorem N8{m:Nat}(op b:Int):aj aG (m+2) 253 [.int .i64 op,.int .i64 b]=some (.tup [.int .i64 ((ej op b).getD 0),.bool (ej op b).isSome],[]):=by
 refine am (F:=oR) rfl rfl rfl ?_ (.inr rfl);have tr:=λb=>C8 (m:=m) b;generalize aj aG (m+1)=C at*;generalize aY aG=V;have ng:∀b:Int,aI .sub .i64 0 .i64 b=some (.int .i64 (IntKind.i64.wrap (0-b))):=λb=>by simp only[aI];rw[TF (by decide)]
 simp only[oR,ej];by_cases h1:op=14
 ·simp only[wd,↓reduceIte,Nat.reduceEqDiff,h1,ng]
 by_cases h2:op=19
 ·by_cases h3:b=0<;>simp only[wd,↓reduceIte,Nat.reduceEqDiff,Int.reduceEq,h2,h3,tr]
 simp only[wd,↓reduceIte,Nat.reduceEqDiff,h1,h2,Option.getD_none]
theorem MI{m:Nat}(op a b:Int):aj aG (m+2) 254 [.int .i64 op,.int .i64 a,.int .i64 b]=some (.tup [.int .i64 (cQ op a b).1,.int .i64 (cQ op a b).2],[]):=by
 refine am (F:=oM) rfl rfl rfl ?_ (.inr rfl);have tr:=λb=>C8 (m:=m) b;generalize aj aG (m+1)=C at*;generalize aY aG=V;have ad:aI .add .i64 a .i64 b=some (.int .i64 (IntKind.i64.wrap (a+b))):=by simp only[aI];rw[TF (by decide)]
 have sb:aI .sub .i64 a .i64 b=some (.int .i64 (IntKind.i64.wrap (a-b))):=by simp only[aI];rw[TF (by decide)]
 have ml:aI .mul .i64 a .i64 b=some (.int .i64 (IntKind.i64.wrap (a*b))):=by simp only[aI];rw[TF (by decide)]
 have hq:b≠0->aI .quo .i64 a .i64 b=some (.int .i64 (IntKind.i64.wrap (a.tdiv b))):=λh=>by simp only[aI];rw[TF (by decide),TF h]
 have hr:b≠0->aI .rem .i64 a .i64 b=some (.int .i64 (a.tmod b)):=λh=>by simp only[aI];rw[TF (by decide),TF h]
 have ng:aI .sub .i64 0 .i64 a=some (.int .i64 (IntKind.i64.wrap (0-a))):=by simp only[aI];rw[TF (by decide)]
 have t1:a.tdiv (-1)=0-a:=by rw[Int.tdiv_neg,Int.tdiv_one];omega
 have t2:a.tmod (-1)=0:=by rw[Int.tmod_neg,Int.tmod_one]
 simp only[oM];by_cases h1:op=9
 ·simp only[wd,↓reduceIte,Nat.reduceEqDiff,Int.reduceNeg,h1,ad,cQ]
 by_cases h2:op=10
 ·simp only[wd,↓reduceIte,Nat.reduceEqDiff,Int.reduceEq,Int.reduceNeg,h2,sb,cQ]
 by_cases h3:op=11
 ·simp only[wd,↓reduceIte,Nat.reduceEqDiff,Int.reduceEq,Int.reduceNeg,h3,ml,cQ]
 by_cases h8:op=12
 ·subst h8;have ht:cQ 12 a b=if b=0 then(0,3)else(IntKind.i64.wrap (a.tdiv b),0):=rfl;rw[ht];by_cases h0:b=0
  ·simp only[wd,↓reduceIte,Nat.reduceEqDiff,Int.reduceEq,Int.reduceNeg,h0]
  ·by_cases hm:b= -1
   ·rw[hm,t1];simp only[wd,↓reduceIte,Nat.reduceEqDiff,reduceCtorEq,Int.reduceEq,Int.reduceNeg,ng]
   ·simp only[wd,↓reduceIte,Nat.reduceEqDiff,reduceCtorEq,Int.reduceEq,Int.reduceNeg,h0,hm,hq h0]
 by_cases h9:op=13
 ·subst h9;have ht:cQ 13 a b=if b=0 then(0,3)else(a.tmod b,0):=rfl;rw[ht];by_cases h0:b=0
  ·simp only[wd,↓reduceIte,Nat.reduceEqDiff,Int.reduceEq,Int.reduceNeg,h0]
  ·by_cases hm:b= -1
   ·rw[hm,t2];simp only[wd,↓reduceIte,Nat.reduceEqDiff,reduceCtorEq,Int.reduceEq,Int.reduceNeg]
   ·simp only[wd,↓reduceIte,Nat.reduceEqDiff,reduceCtorEq,Int.reduceEq,Int.reduceNeg,h0,hm,hr h0]
 by_cases h4:op=15
 ·simp only[wd,↓reduceIte,Nat.reduceEqDiff,Int.reduceEq,Int.reduceNeg,h4,tr,cQ]
 by_cases h5:op=16
 ·simp only[wd,↓reduceIte,Nat.reduceEqDiff,Int.reduceEq,Int.reduceNeg,h5,tr,cQ]
 by_cases h6:op=17
 ·by_cases q1:a=0<;>by_cases q2:b=0<;>simp only[wd,↓reduceIte,Nat.reduceEqDiff,Int.reduceEq,Int.reduceNeg,h6,q1,q2,tr,cQ]
 by_cases h7:op=18
 ·by_cases q1:a=0<;>by_cases q2:b=0<;>simp only[wd,↓reduceIte,Nat.reduceEqDiff,reduceCtorEq,Int.reduceEq,Int.reduceNeg,h7,q1,q2,tr,cQ]
 have ht:cQ op a b=(0,0):=by simp[cQ,h1,h2,h3,h4,h5,h6,h7,h8,h9]
 rw[ht];simp only[wd,↓reduceIte,Nat.reduceEqDiff,Int.reduceNeg,h1,h2,h3,h4,h5,h6,h7,h8,h9]
noncomputable def r7 (p:SProg) (who:Int) (l:aT) (h:Int) (args:List Int):Bool:=
 decide (iY p=0)&&decide (0<=who/\who<p.actors.length/\0<=h/\h<p.handlers.length/\(args.length:Int)=cz p h/\l.regs.length<=8/\l.down=0)
theorem Gw{m:Nat}(p:SProg)(hp:fL p)(who:Int)(l:aT)(h:Int)(args:List Int):aj aG (m+5) 252 [aA p,.int .i64 who,bl l,.int .i64 h,eI args]=some (.bool (r7 p who l h args),[]):=by
 refine am (F:=oN) rfl rfl rfl ?_ (.inr rfl);have fl:=Fh (m:=m) p hp;generalize aj aG (m+4)=C at*;generalize aY aG=V;have lr:bO (eI l.regs)=some (.int .i64 l.regs.length):=cE;have la:bO (eI args)=some (.int .i64 args.length):=cE;simp only[aA,ao]at fl;simp only[aA,ao,bl,br,oN,r7];by_cases h0:iY p=0
 rotate_left
 ·simp only[we,↓reduceIte,Nat.reduceEqDiff,Nat.reduceAdd,Tz,fl,h0]
 by_cases h1:0<=who
 rotate_left
 ·rw[TP (p:=0<=who/\_) (λh=>h1 h.1)];simp only[we,↓reduceIte,Nat.reduceEqDiff,Nat.reduceAdd,Tz,fl,h0,h1]
 by_cases h2:who<p.actors.length
 rotate_left
 ·rw[TP (p:=0<=who/\_) (λh=>h2 h.2.1)];simp only[we,↓reduceIte,Nat.reduceEqDiff,Nat.reduceAdd,Tz,fl,h0,h1,bP,h2]
 by_cases h3:0<=h
 rotate_left
 ·rw[TP (p:=0<=who/\_) (λh=>h3 h.2.2.1)];simp only[we,↓reduceIte,Nat.reduceEqDiff,Nat.reduceAdd,Tz,fl,h0,h1,bP,h2,h3]
 by_cases h4:h<p.handlers.length
 rotate_left
 ·rw[TP (p:=0<=who/\_) (λh=>h4 h.2.2.2.1)];simp only[we,↓reduceIte,Nat.reduceEqDiff,Nat.reduceAdd,Tz,fl,h0,h1,bP,h2,h3,bK,h4]
 obtain⟨j,x,hj,hx,ha⟩:=iC h3 h4;have ih:=iK hx;rw[hj]at h3 h4;rw[ha];by_cases h5:(args.length:Int)=x.args
 rotate_left
 ·rw[TP (p:=0<=who/\_) (λh=>h5 h.2.2.2.2.1)];simp only[we,↓reduceIte,Nat.reduceEqDiff,Nat.reduceAdd,Tz,fl,h0,h1,bP,h2,hj,h3,bK,h4,la,ih,h5]
 have g6:((l.regs.length:Int)<=8)=(l.regs.length<=8):=by simp;omega
 by_cases h6:l.regs.length<=8
 rotate_left
 ·rw[TP (p:=0<=who/\_) (λh=>h6 h.2.2.2.2.2.1)];simp only[we,↓reduceIte,Nat.reduceEqDiff,Nat.reduceAdd,Tz,fl,h0,h1,bP,h2,hj,h3,bK,h4,la,ih,h5,lr,g6,h6]
 by_cases h7:l.down=0
 ·rw[T3 (p:=0<=who/\_) ⟨h1,h2,by omega,by omega,h5,h6,h7⟩];simp only[we,↓reduceIte,Nat.reduceEqDiff,Nat.reduceAdd,Tz,fl,h0,h1,bP,h2,hj,h3,bK,h4,la,ih,h5,lr,g6,h6,h7]
 ·rw[TP (p:=0<=who/\_) (λh=>h7 h.2.2.2.2.2.2)];simp only[we,↓reduceIte,Nat.reduceEqDiff,Nat.reduceAdd,Tz,fl,h0,h1,bP,h2,hj,h3,bK,h4,la,ih,h5,lr,g6,h6,h7]
def Fl(code:List SInstr)(a:Int):Int:=if a<0 then code.length else a
theorem kh(t:List Int)(x:Int)(h:t.length<100000):iO 1 (nR t) (.lst [.int .i64 x] false)=some (nR (x::t)):=by
 have:=Ic (l:=t) (r:=[x]) (by simp;omega);simpa[<-Kv]using this
theorem OM(t:List Int)(x y:Int)(h:t.length<100000):iO 1 (nR t) (.lst [.int .i64 x,.int .i64 y] false)=some (nR (y::x::t)):=by
 have:=Ic (l:=t) (r:=[x,y]) (by simp;omega);simpa[<-Tc]using this
theorem pO(t:List Int)(h:t.length<100000):iO 1 (.lst [] false) (nR t)=some (nR t):=by
 have:=Ky (a:=[]) (b:=t.reverse) (by simp;omega);simpa[eI,nR]using this
theorem Jj(t:List Int)(h:t.length<100000):iO 1 (.lst [] false) (eI t)=some (eI t):=by
 have:=Ky (a:=[]) (b:=t) (by simp;omega);simpa[eI]using this
theorem yW{n:Nat}(h:n<1000000000):aI .sub .i64 ((n+1+1:Nat):Int) .i64 2=some (.int .i64 (n:Nat)):=by
 rw[vr (by omega) (by omega)];congr 2;omega
theorem nE(x y:Int)(t:List Int):az 1 (nR (y::x::t)) (.int .i64 (t.length:Nat))=some (.lptr [.int .i64 x]):=eP (by simp[])
theorem nP(x y:Int)(t:List Int):cj 1 (nR (y::x::t)) (.tup []) (.int .i64 (t.length:Nat)) (.tup [])=some (nR t):=by
 rw[nR,qI (by simp),U9,U9,UA,U7 (by simp),UB (by simp),nR]
theorem Ee{l:List Int}{i j:Nat}(hij:i<=j)(h:j<=l.length):cj 1 (eI l) (.int .i64 (i:Nat)) (.int .i64 (j:Nat)) (.tup [])=some (eI ((l.drop i).take (j-i))):=by
 rw[<-A5 ((l.drop i).take (j-i))];simp[eI,cj,kk,cF,aO,mL,AK,h,hij,List.map_drop,List.map_take]
structure wR (p:SProg) (who:Int) (l:aT) (args:List Int) (code:List SInstr) (M:bu) (s:Nat) (e:Env):Prop where
 e1:e 1=.int .i64 who
 e4:e 4=eI args
 e5:e 5=.lptr [iw p.handlers,i4 p.actors,dS p.boot,.int .i64 p.fuel]
 e11:e 11=cw code
 e12:e 12=.lptr [eI M.loc.regs,.bool M.loc.armed,.int .i64 M.loc.down,.int .i64 M.loc.sent,.int .i64 M.loc.over]
 e13:e 13=.lptr [eI l.regs,.bool l.armed,.int .i64 l.down,.int .i64 l.sent,.int .i64 l.over]
 e14:e 14=dS M.notes
 e15:e 15=nR M.stack
 e16:e 16=.int .i64 (s:Nat)
 e17:e 17=.int .i64 (Fl code M.at')
end Gv
