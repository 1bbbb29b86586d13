/- A part of the proof that the law is true of all its inputs, by an interpreter that is proved sound. -/
import Derived.Test.YtfaeljmkbadgdaaNb
import Derived.KernelRfl
namespace Gv
open Go
def CB(a b:SID):Int:=zx (jd a.frm b.frm) (jd a.n b.n) (jd a.copy b.copy)
def AL(a b:SEvent):Int:=zx (jd a.kind b.kind) (CB a.id b.id) (jd a.who b.who)
theorem tn{m:Nat}(a b:SEvent):aj aK (m+4) 135 [bp a,bp b]=some (.int .i64 (AL a b),[]):=by
 refine aq (F:=iY) rfl rfl rfl ?_ (.inr rfl);have c1:=λx y=>Bg (m:=m+1) x y;have o1:=BF (m:=m) a.id b.id;have o3:=λx y z=>J2 (m:=m+2) x y z;generalize aj aK (m+3)=C at*;generalize bi aK=V;simp only[xD,zy]at o1;simp only[bp,dL,iY];refine nx (by simp only[wd,↓reduceIte,Nat.reduceEqDiff,Nat.reduceAdd,Nq,c1,o1,o3];rfl) ?_;simp only[wd,↓reduceIte,AL,CB]
def wK(l:List SEvent):Prop:=∀(i j:Nat)(x y:SEvent),i<j->l[i]?=some x->l[j]?=some y->¬AL y x<0
theorem D1{C:bT}{V:Nat->List PV->List PV->Bool}{c:VC}{i:Nat}{env e:Env}(h:aI C V c env=some (.exit i e)):aI C V (.loop c) env=some (.exit i e):=by
 refine xR 1099511627775 1 ?_ (by rw[ou]);simp only[dv,h]
theorem BO{C:bT}{V:Nat->List PV->List PV->Bool}{c:VC}{v:PV}{os:List PV}{env:Env}(h:aI C V c env=some (.ret v os)):aI C V (.loop c) env=some (.ret v os):=by
 refine xR 1099511627775 1 ?_ (by rw[ou]);simp only[dv,h]
theorem zD{l:List SEvent}:dp (aE l)=some (.int .i64 l.length):=kS
theorem oZ{k:Nat}{l:List SEvent}{x:SEvent}(h:l[k]?=some x):au 5 (aE l) (.int .i64 (k:Nat))=some (.lptr (dL x)):=Ll h
theorem Ii{m:Nat}(l:List SEvent)(hl:l.length<1000000)(hA:wK l)(hV:∀x y:SEvent,bi aK 135 [bp x,bp y] []=true):aj aK (m+5) 165 [aE l,.int .i64 0,.int .i64 (l.length:Nat),.fn 135 []]=some (.tup [],[]):=by
 refine aq (F:=a8) rfl rfl rfl ?_ (.inr rfl);have oc:=λx y=>tn (m:=m) x y;generalize aj aK (m+4)=C at*;generalize bi aK=V at*;simp only[a8];rw[rU];refine nx (by simp only[wd,↓reduceIte];rfl) ?_;rw[b9];refine lC (kk (n:=l.length-1) (by omega) (λk e=>e 0=aE l/\e 1=.int .i64 0/\e 2=.int .i64 (l.length:Nat)/\e 3=.fn 135 []/\e 8=.int .i64 ((k+1:Nat):Int)) (λe=>True) (λk e hk ⟨h0,h1,h2,h3,h8⟩=>?_) (λe ⟨h0,h1,h2,h3,h8⟩=>?_) ⟨by simp[Env.ofArgs_at],by simp[Env.ofArgs_at],by simp[Env.ofArgs_at],by simp[Env.ofArgs_at],by simp;rfl⟩) (λe _=>?_)
 ·obtain⟨x,hx,_⟩:=bo (l:=l) (k:=k) (by omega);obtain⟨y,hy,_⟩:=bo (l:=l) (k:=k+1) (by omega);have ix:=oZ hx;have iy:=oZ hy;have lt:=hA k (k+1) x y (by omega) hx hy;have sb:=oI (k:=k+1) (by omega) (by omega);rw[show k+1-1=k by omega]at sb;have o:=oc y x;have v:=hV y x;have ad:=ey (k:=k+1) (by omega);simp only[bp,dL]at o v ix iy;obtain⟨e',hb,f0,f1,f2,f3,f8⟩:∃e',aI C V (.block 1 (.seq (.st [.asg [] [(9,(.v 8))]]) (.block 2 (.loop bt)))) e=some (.norm e')/\e' 0=e 0/\e' 1=e 1/\e' 2=e 2/\e' 3=e 3/\e' 8=e 8:=
   ⟨_,bw (nx (by simp only[wd,↓reduceIte,h8];rfl) (iA (D1 (by
    rw[bt];exact wx (by simp only[wd,↓reduceIte,Nat.reduceEqDiff,reduceCtorEq,Nat.reduceAdd,Nq,h0,h1,h3,ix,iy,sb,o,v,lt,show(0:Int)<((k+1:Nat):Int)by omega,NT];rfl))))),by simp,by simp,by simp,by simp,by simp⟩
  exact⟨_,_,by simp only[wd,↓reduceIte,h2,h8,show((k+1:Nat):Int)<(l.length:Nat)by omega],nx hb (by simp only[wd,↓reduceIte,f8,h8,ad];rfl),by simp[f0,h0],by simp[f1,h1],by simp[f2,h2],by simp[f3,h3],by simp only[wd,↓reduceIte]⟩
 ·refine⟨e,by simp only[wd,↓reduceIte,h2,h8,show¬((l.length-1+1:Nat):Int)<(l.length:Nat)by omega],trivial⟩
 ·simp only[wd]
theorem HW{m:Nat}(l:List SEvent)(h13:1<=l.length)(hl:l.length<1000000)(hA:wK l)(hV:∀x y:SEvent,bi aK 135 [bp x,bp y] []=true):aj aK (m+5) 170 [aE l,.int .i64 0,.int .i64 (l.length:Nat),.fn 135 []]=some (.bool true,[]):=by
 refine aq (F:=aL) rfl rfl rfl ?_ (.inr rfl);have oc:=λx y=>tn (m:=m) x y;generalize aj aK (m+4)=C at*;generalize bi aK=V at*;simp only[aL];refine nx (by simp only[wd,↓reduceIte];rfl) ?_;rw[rU];refine nx (by simp only[wd,↓reduceIte];rfl) ?_;refine an (aU (BO ?_));rw[bI];refine nx (by simp only[wd,↓reduceIte,Int.reduceLT];rfl) ?_;refine aU ?_;rw[bH];refine lC (kk (n:=l.length-1) (by omega) (λk e=>e 0=aE l/\e 1=.int .i64 0/\e 2=.int .i64 (l.length:Nat)/\e 3=.fn 135 []/\e 9=.int .i64 ((k+1:Nat):Int)) (λe=>e 2=.int .i64 (l.length:Nat)/\e 9=.int .i64 (l.length:Nat)) (λk e hk ⟨h0,h1,h2,h3,h9⟩=>?_) (λe ⟨h0,h1,h2,h3,h9⟩=>?_) ⟨by simp[Env.ofArgs_at],by simp[Env.ofArgs_at],by simp[Env.ofArgs_at],by simp[Env.ofArgs_at],by simp;rfl⟩) (λe ⟨h2,h9⟩=>?_)
 ·obtain⟨x,hx,_⟩:=bo (l:=l) (k:=k) (by omega);obtain⟨y,hy,_⟩:=bo (l:=l) (k:=k+1) (by omega);have ix:=oZ hx;have iy:=oZ hy;have lt:=hA k (k+1) x y (by omega) hx hy;have sb:=oI (k:=k+1) (by omega) (by omega);rw[show k+1-1=k by omega]at sb;have o:=oc y x;have v:=hV y x;have ad:=ey (k:=k+1) (by omega);simp only[bp,dL]at o v ix iy;refine⟨_,_,by simp only[wd,↓reduceIte,Nat.reduceEqDiff,Nat.reduceAdd,Int.reduceNeg,Nq,un,h0,h2,h3,h9,ix,iy,sb,o,v,lt,show((k+1:Nat):Int)<(l.length:Nat)by omega,NT];rfl,by simp only[wd,↓reduceIte,Nat.reduceEqDiff,h9,ad];rfl,?_⟩;exact⟨by simp[h0],by simp[h1],by simp[h2],by simp[h3],by simp only[wd,↓reduceIte]⟩
 ·have h9':e 9=.int .i64 (l.length:Nat):=by rw[h9,show l.length-1+1=l.length by omega]
  refine⟨_,by simp only[wd,↓reduceIte,Nat.reduceEqDiff,Int.reduceNeg,un,h2,h9',Int.lt_irrefl];rfl,by simp only[wd,↓reduceIte,Nat.reduceEqDiff,h2],by simp only[wd,↓reduceIte,Nat.reduceEqDiff,h9']⟩
 ·refine an ?_;simp only[wd,↓reduceIte,h2,h9]
theorem yM{m:Nat}(l:List SEvent)(hA:wK l)(hV:∀x y:SEvent,bi aK 135 [bp x,bp y] []=true)(i j:Nat)(hij:i<j)(hj:j<l.length)(s:Int):
  aj aK (m+5) 193 [aE l,.int .i64 (i:Nat),.int .i64 (j:Nat),.lptr [.int .i64 s],.fn 135 []]=some (.tup [.int .i64 (i:Nat),.int .i64 (j:Nat)],[.lptr [.int .i64 s]]):=by
 refine aq (F:=bD) rfl rfl rfl ?_ (.inr rfl);have oc:=λx y=>tn (m:=m) x y;generalize aj aK (m+4)=C at*;generalize bi aK=V at*;obtain⟨x,hx,_⟩:=bo (l:=l) (k:=i) (by omega);obtain⟨y,hy,_⟩:=bo (l:=l) (k:=j) hj;have ix:=oZ hx;have iy:=oZ hy;have lt:=hA i j x y hij hx hy;have o:=oc y x;have v:=hV y x;simp only[bp,dL]at o v ix iy;simp only[bD];refine nx (by simp only[wd,↓reduceIte];rfl) ?_;refine nx (by simp only[wd,↓reduceIte,Nat.reduceEqDiff,reduceCtorEq,Nat.reduceAdd,Nq,ix,iy,o,v,lt,NT];rfl) ?_;simp only[wd,↓reduceIte,Nat.reduceEqDiff]
theorem yk{m:Nat}(l:List SEvent)(hA:wK l)(hV:∀x y:SEvent,bi aK 135 [bp x,bp y] []=true)(i j k:Nat)(hij:i<j)(hjk:j<k)(hk:k<l.length)(s:Int):
  aj aK (m+6) 183 [aE l,.int .i64 (i:Nat),.int .i64 (j:Nat),.int .i64 (k:Nat),.lptr [.int .i64 s],.fn 135 []]=some (.int .i64 (j:Nat),[.lptr [.int .i64 s]]):=by
 refine aq (F:=bE) rfl rfl rfl ?_ (.inr rfl);have o1:=yM (m:=m) l hA hV i j hij (by omega) s;have o2:=yM (m:=m) l hA hV j k hjk hk s;generalize aj aK (m+5)=C at*;generalize bi aK=V at*;simp only[bE];refine nx (by simp only[wd,↓reduceIte,Nat.reduceEqDiff,reduceCtorEq,Nat.reduceAdd,o1,o2];rfl) ?_;simp only[wd,↓reduceIte,Nat.reduceEqDiff]
theorem DA{m:Nat}(l:List SEvent)(hl:l.length<1000000)(hA:wK l)(hV:∀x y:SEvent,bi aK 135 [bp x,bp y] []=true)(i:Nat)(hi:1<=i)(hk:i+1<l.length)(s:Int):
  aj aK (m+7) 182 [aE l,.int .i64 (i:Nat),.lptr [.int .i64 s],.fn 135 []]=some (.int .i64 (i:Nat),[.lptr [.int .i64 s]]):=by
 refine aq (F:=aW) rfl rfl rfl ?_ (.inr rfl);have o1:=yk (m:=m) l hA hV (i-1) i (i+1) (by omega) (by omega) hk s;have sb:=oI (k:=i) hi (by omega);have ad:=ey (k:=i) (by omega);generalize aj aK (m+6)=C at*;generalize bi aK=V at*;simp only[aW];refine nx (by simp only[wd,↓reduceIte,Nat.reduceEqDiff,reduceCtorEq,Nat.reduceAdd,o1,sb,ad];rfl) ?_;simp only[wd,↓reduceIte,Nat.reduceEqDiff]
theorem Mm(a:Nat)(ha:a<1000000):a9 .quo .i64 (a:Int) .i64 4=some (.int .i64 ((a/4:Nat):Int)):=by
 simp only[a9];rw[Nw (by decide),Nw (by omega)];have:(4:Int)=((4:Nat):Int):=rfl;rw[this,<-Int.ofNat_tdiv];generalize hq:a/4=q at*;rw[qK (by omega) (by omega)]
theorem EL(a b:Nat)(ha:a<1000000)(hb:b<100):a9 .mul .i64 (a:Int) .i64 (b:Int)=some (.int .i64 ((a*b:Nat):Int)):=by
 have h:a*b<=1000000*100:=Nat.mul_le_mul (by omega) (by omega);simp only[a9];rw[Nw (by decide),<-Int.natCast_mul];generalize a*b=q at*;rw[qK (by omega) (by omega)]
theorem ET{m:Nat}(l:List SEvent)(h13:13<=l.length)(hl:l.length<1000000)(hA:wK l)(hV:∀x y:SEvent,bi aK 135 [bp x,bp y] []=true):
  aj aK (m+8) 168 [aE l,.int .i64 0,.int .i64 (l.length:Nat),.fn 135 []]=some (.tup [.int .i64 ((l.length/4*2:Nat):Int),.int .i64 1],[]):=by
 refine aq (F:=bg) rfl rfl rfl ?_ (.inr rfl);have hq:3<=l.length/4:=by omega
 have a1:=λi hi hk=>DA (m:=m) l hl hA hV i hi hk 0;have m1:=yk (m:=m+1) l hA hV (l.length/4) (l.length/4*2) (l.length/4*3) (by omega) (by omega) (by omega) 0;have q4:=Mm l.length hl;have x1:=EL (l.length/4) 1 (by omega) (by omega);have x2:=EL (l.length/4) 2 (by omega) (by omega);have x3:=EL (l.length/4) 3 (by omega) (by omega);have s0:a9 .sub .i64 (l.length:Nat) .i64 0=some (.int .i64 (l.length:Nat)):=by rw[BN (by omega) (by omega)];simp
 have ad:=λ(k:Nat)(hk:k<4000000)=>(show a9 .add .i64 0 .i64 (k:Int)=some (.int .i64 (k:Int))by rw[zu (by omega) (by omega)];simp);have d1:=ad (l.length/4) (by omega);have d2:=ad (l.length/4*2) (by omega);have d3:=ad (l.length/4*3) (by omega);rw[Nat.mul_one]at x1;have b1:=a1 (l.length/4) (by omega) (by omega);generalize aj aK (m+7)=C at*;generalize bi aK=V at*;simp only[bg];have e1:((1:Nat):Int)=1:=rfl;have e2:((2:Nat):Int)=2:=rfl;have e3:((3:Nat):Int)=3:=rfl;rw[e1]at x1;rw[e2]at x2;rw[e3]at x3;refine nx (by simp only[wd,↓reduceIte,Nat.reduceEqDiff,s0,q4,x1,x2,x3,d1,d2,d3];rfl) ?_;have g8:(8:Int)<=(l.length:Nat):=by omega
 by_cases h50:50<=l.length
 ·have b1:=a1 (l.length/4) (by omega) (by omega);have b2:=a1 (l.length/4*2) (by omega) (by omega);have b3:=a1 (l.length/4*3) (by omega) (by omega);have g50:(50:Int)<=(l.length:Nat):=by omega
  refine nx (by simp only[wd,↓reduceIte,Nat.reduceEqDiff,reduceCtorEq,Nat.reduceAdd,g8,g50,b1,b2,b3,m1];rfl) ?_;refine nx (by simp only[wd,↓reduceIte,Nat.reduceEqDiff];rfl) ?_;refine aU ?_;refine nx (by simp only[wd,↓reduceIte];rfl) ?_;simp only[wd,↓reduceIte,Nat.reduceEqDiff]
 ·have g50:¬(50:Int)<=(l.length:Nat):=by omega
  refine nx (by simp only[wd,↓reduceIte,Nat.reduceEqDiff,reduceCtorEq,Nat.reduceAdd,g8,g50,m1];rfl) ?_;refine nx (by simp only[wd,↓reduceIte,Nat.reduceEqDiff];rfl) ?_;refine aU ?_;refine nx (by simp only[wd,↓reduceIte];rfl) ?_;simp only[wd,↓reduceIte,Nat.reduceEqDiff]
theorem JS{m:Nat}(l:List SEvent)(hl:l.length<1000000)(hA:wK l)(hV:∀x y:SEvent,bi aK 135 [bp x,bp y] []=true)(z:Int)(hz:12<l.length->z≠0):
  aj aK (m+9) 147 [aE l,.int .i64 0,.int .i64 (l.length:Nat),.int .i64 z,.fn 135 []]=some (.tup [],[]):=by
 refine aq (F:=bz) rfl rfl rfl ?_ (.inr rfl);have i1:=Ii (m:=m+3) l hl hA hV;have p1:=λh=>HW (m:=m+3) l h hl hA hV;have c1:=λh=>ET (m:=m) l h hl hA hV;have s0:a9 .sub .i64 (l.length:Nat) .i64 0=some (.int .i64 (l.length:Nat)):=by rw[BN (by omega) (by omega)];simp
 generalize aj aK (m+8)=C at*;generalize bi aK=V at*;simp only[bz];refine nx (by simp only[wd,↓reduceIte];rfl) ?_;refine aU (BO ?_);rw[cU];refine aU ?_;refine nx (by simp only[wd,↓reduceIte,Nat.reduceEqDiff,s0];rfl) ?_;by_cases h12:l.length<=12
 ·have g:(l.length:Int)<=12:=by omega
  refine an ?_;simp only[wd,↓reduceIte,Nat.reduceEqDiff,reduceCtorEq,g,i1]
 ·have g:¬(l.length:Int)<=12:=by omega
  have hz:=hz (by omega);have p1:=p1 (by omega);have c1:=c1 (by omega);refine nx (by simp only[wd,↓reduceIte,g];rfl) ?_;refine nx (by simp only[wd,↓reduceIte,Nat.reduceEqDiff,hz];rfl) ?_;refine nx (by simp only[wd,↓reduceIte,Nat.reduceEqDiff,Int.reduceNeg,un];rfl) ?_;refine nx (by simp only[wd,↓reduceIte,Nat.reduceEqDiff,reduceCtorEq,c1];rfl) ?_;refine nx (by simp only[wd,↓reduceIte,Nat.reduceEqDiff,Int.reduceEq];rfl) ?_;refine an ?_;simp only[wd,↓reduceIte,Nat.reduceEqDiff,reduceCtorEq,p1]
theorem y0{n:Nat}(h:0<n):∀f k,0<f∨0<k->t5 f k n≠0
 |0,k,hf=>by simp only[t5];omega
 | f+1,k,hf=>by
  simp only[t5];split
  ·rename_i hk;cases k with
   |zero=>simp at hk;omega
   |succ k=>omega
  ·exact y0 h f (k+1) (.inr (by omega))
theorem G9{m:Nat}(n:Nat)(h:n<256):aj aK (m+1) 174 [.int .u64 (n:Nat)]=some (.int .i64 (t5 8 0 n:Nat),[]):=by
 refine aq (F:=yo) rfl rfl rfl ?_ (.inr rfl);generalize aj aK m=C;generalize bi aK=V;have e:=xp (env:=Env.ofArgs [.int .u64 (n:Nat)]) (n:=n) (by simp[Env.ofArgs]) 8 0;have h1:a9 .lss .u64 (n:Int) .u64 256=some (.bool true):=by simp[a9];omega
 have h2:a9 .geq .u64 (n:Int) .u64 0=some (.bool true):=by simp[a9]
 simp only[yo];simp only[wd,h1,h2,e]
theorem JD{m:Nat}(n:Nat)(h:n<256):aj aK (m+2) 148 [.int .u64 (n:Nat)]=some (.int .i64 (t5 8 0 n:Nat),[]):=by
 refine aq (F:=fS) rfl rfl rfl ?_ (.inr rfl);have e:=G9 (m:=m) n h;generalize aj aK (m+1)=C at*;generalize bi aK=V;simp only[fS];refine nx (by simp only[wd];rfl) ?_;refine nx (by simp only[wd];rfl) ?_;simp only[wd,↓reduceIte,e]
theorem Jd{m:Nat}(l:List SEvent)(hl:l.length<256)(hA:wK l):aj aK (m+10) 134 [aE l,.fn 135 []]=some (.tup [],[]):=by
 refine aq (F:=bh) rfl rfl rfl ?_ (.inr rfl);have p:=JS (m:=m) l (by omega) hA (λx y=>rfl) (t5 8 0 l.length:Nat) (λh=>by have:=y0 (n:=l.length) (by omega) 8 0 (.inl (by omega));omega);have e:=JD (m:=m+7) l.length hl;generalize aj aK (m+9)=C at*;generalize bi aK=V;have le:=zD (l:=l);have tu:ku .u64 (.int .i64 (l.length:Nat))=some (.int .u64 (l.length:Nat)):=by
  simp only[ku,No,PV.int.injEq,true_and];rw[IntKind.wrap_u64];omega
 simp only[bh];refine nx (by simp only[wd,↓reduceIte,Nat.reduceEqDiff,reduceCtorEq,le,tu,e,p];rfl) ?_;simp only[wd]
def nw(b:SBudget)(w:ax)(e:SEvent):Bool:=nc (fK b w) e.kind&&oS w e
def oJ(w:ax)(k:Int):List SEvent:=w.mail.map λm=>⟨k,m.id,0⟩
def oV(w:ax)(k:Int):List SEvent:=(List.range w.actors.length).map λj=>⟨k,CQ,(j:Nat)⟩
def r6(b:SBudget)(w:ax):List SEvent:=(([1,2,3].flatMap (oJ w))++[4,5].flatMap (oV w)).filter (nw b w)
theorem GO{l:List SEvent}{x:SEvent}(h:l.length<1000000000):jl 5 (aE l) (.lst [bp x] false)=some (aE (l++[x])):=by
 simp only[aE,jl];rw[Nt ⟨rfl,by simp only[Ob,NW,N9,bB];omega⟩,OO];rfl
theorem u4(l:List SEvent):(aE l).fits none=true:=rfl
theorem ww(l:List SEvent):(aE l).isCell=true:=rfl
theorem Ep{m:Nat}(lb:SBudget)(w:ax)(hw:lE w)(ht:xi w)(e:SEvent)(out:List SEvent)(hl:out.length<1000000000):
  aj aK (m+5) 146 [bp e,.lptr (bd lb),.lptr (aC w),.lptr [aE out]]=some (.tup [],[.lptr [aE (if(nc lb e.kind&&oS w e)=true then out++[e]else out)]]):=by
 refine aq (F:=iW) rfl rfl rfl ?_ (.inr rfl);have p1:=Ev (m:=m+3) lb e.kind;have c1:=HP (m:=m) w hw ht e;generalize aj aK (m+4)=C at*;generalize bi aK=V;have ap:=GO (x:=e) hl;simp only[bL,bd,cq,aC,bp,dL]at p1 c1 ap;simp only[bd,aC,bp,dL,iW];cases hp:nc lb e.kind with
 |false=>
  rw[hp]at p1;simp only[Ow,NL,Oc];refine nx (nx (by simp only[wd,↓reduceIte,Nat.reduceEqDiff,Nat.reduceAdd,Nq,p1,u4,ww];rfl) (by simp only[wd,↓reduceIte,Nat.reduceEqDiff];rfl)) ?_;simp only[wd,↓reduceIte,Nat.reduceEqDiff,u4,ww]
 | true=>
  rw[hp]at p1;cases hc:oS w e with
  |false=>
   rw[hc]at c1;simp only[Bool.and_false,NL,Oc];refine nx (nx (by simp only[wd,↓reduceIte,Nat.reduceEqDiff,Nat.reduceAdd,Nq,p1,c1,u4,ww];rfl) (by simp only[wd,↓reduceIte,Nat.reduceEqDiff];rfl)) ?_;simp only[wd,↓reduceIte,Nat.reduceEqDiff,u4,ww]
  |true=>
   rw[hc]at c1;simp only[NZ,Oa];refine nx (nx (by simp only[wd,↓reduceIte,Nat.reduceEqDiff,Nat.reduceAdd,Nq,p1,c1,u4,ww];rfl) (by simp only[wd,↓reduceIte,Nat.reduceEqDiff,Nat.reduceAdd,Nq,ap,u4,ww];rfl)) ?_;simp only[wd,↓reduceIte,u4,ww]
theorem rq{α:Type}{l:List α}{k:Nat}{x:α}{p:α->Bool}(h:l[k]?=some x):(l.take (k+1)).filter p=if p x=true then(l.take k).filter p++[x]else(l.take k).filter p:=by
 rw[eY h,List.filter_append];by_cases hp:p x=true<;>simp[List.filter,hp]
theorem Do{m:Nat}(b:SBudget)(w:ax)(hw:lE w)(ht:xi w)(hm:w.mail.length<1000000)(kind:Int)(out:List SEvent)(hl:out.length<100000000){e:Env}(h3:e 3=.lptr (aC w))(h4:e 4=.lptr [aE out])(h5:e 5=.lptr (bd (fK b w)))(h8:e 8=.int .i64 kind){L:PV}{z y:PV}(h18:e 18=L)(h19:e 19=z)(h20:e 20=y)(h25:e 25=aY w.mail)(h26:e 26=.int .i64 (w.mail.length:Nat))(h27:e 27=.int .i64 0):
  ∃e',aI (aj aK (m+5)) (bi aK) (.block 2 (.loop g9)) e=some (.norm e')/\(e' 3=.lptr (aC w)/\e' 5=.lptr (bd (fK b w))/\e' 18=L/\e' 19=z/\e' 20=y/\e' 4=.lptr [aE (out++(oJ w kind).filter (nw b w))]):=by
 have pv:=λe out hl=>Ep (m:=m) (fK b w) w hw ht e out hl;generalize aj aK (m+5)=C at*;generalize bi aK=V at*;rw[g9];have lM:(oJ w kind).length=w.mail.length:=by simp[oJ]
 have fin:(oJ w kind).take w.mail.length=oJ w kind:=by rw[<-lM,OX]
 rw[<-fin];refine gk (vi:=27) (vn:=26) (n:=w.mail.length) (by omega) (λk e=>e 25=aY w.mail/\e 26=.int .i64 (w.mail.length:Nat)/\e 8=.int .i64 kind/\(e 3=.lptr (aC w)/\e 5=.lptr (bd (fK b w))/\e 18=L/\e 19=z/\e 20=y/\e 4=.lptr [aE (out++((oJ w kind).take k).filter (nw b w))])) (λk e v h=>by simpa using h) (λk e h=>h.2.1) (λk e hk ⟨s25,s26,s8,s3,s5,s18,s19,s20,s4⟩ hv=>?_) ⟨h25,h26,h8,h3,h5,h18,h19,h20,by simp[h4]⟩ h27|>.imp λe' h=>⟨h.1,h.2.2.2.2⟩;obtain⟨x,hx,_⟩:=bo hk;have ix:=qx hx;have hE:(oJ w kind)[k]?=some ⟨kind,x.id,0⟩:=by simp[oJ,hx]
 have hfl:(((oJ w kind).take k).filter (nw b w)).length<=k:=OW (O4 _ _) (by rw[NP];omega);have p:=pv ⟨kind,x.id,0⟩ (out++((oJ w kind).take k).filter (nw b w)) (by rw[NR];omega);have hq:(if(nc (fK b w) kind&&oS w ⟨kind,x.id,0⟩)=true then out++((oJ w kind).take k).filter (nw b w)++[⟨kind,x.id,0⟩]else out++((oJ w kind).take k).filter (nw b w))=out++((oJ w kind).take (k+1)).filter (nw b w):=by
  rw[rq hE];by_cases h:nw b w ⟨kind,x.id,0⟩=true
  ·rw[Nt (show(nc (fK b w) kind&&oS w ⟨kind,x.id,0⟩)=true from h),Nt h,Ol]
  ·rw[Nw (show¬(nc (fK b w) kind&&oS w ⟨kind,x.id,0⟩)=true from h),Nw h]
 simp only at p;rw[hq]at p;simp only[bp,dL,bd,aC,ig]at p ix s3 s5;refine⟨_,bw (by simp only[wd,↓reduceIte,Nat.reduceEqDiff,Nat.reduceAdd,Nq,s25,hv,ix,s8,s3,s5,s4,p,u4,ww];rfl),?_,by simp[hv]⟩;refine⟨by simp[s25],by simp[s26],by simp[s8],by simp[s3,aC],by simp[s5,bd],by simp[s18],by simp[s19],by simp[s20],by simp only[wd,↓reduceIte]⟩
theorem D7{m:Nat}(b:SBudget)(w:ax)(hw:lE w)(ht:xi w)(hm:w.actors.length<1000000)(kind:Int)(out:List SEvent)(hl:out.length<100000000){e:Env}(h3:e 3=.lptr (aC w))(h4:e 4=.lptr [aE out])(h5:e 5=.lptr (bd (fK b w)))(h12:e 12=.int .i64 kind){L:PV}{z y:PV}(h39:e 39=L)(h40:e 40=z)(h41:e 41=y)(h47:e 47=.int .i64 (w.actors.length:Nat))(h48:e 48=.int .i64 0):
  ∃e',aI (aj aK (m+5)) (bi aK) (.block 6 (.loop ki)) e=some (.norm e')/\(e' 3=.lptr (aC w)/\e' 5=.lptr (bd (fK b w))/\e' 39=L/\e' 40=z/\e' 41=y/\e' 4=.lptr [aE (out++(oV w kind).filter (nw b w))]):=by
 have pv:=λe out hl=>Ep (m:=m) (fK b w) w hw ht e out hl;generalize aj aK (m+5)=C at*;generalize bi aK=V at*;rw[ki];have lM:(oV w kind).length=w.actors.length:=by simp[oV]
 have fin:(oV w kind).take w.actors.length=oV w kind:=by rw[<-lM,OX]
 rw[<-fin];refine gk (vi:=48) (vn:=47) (n:=w.actors.length) (by omega) (λk e=>e 47=.int .i64 (w.actors.length:Nat)/\e 12=.int .i64 kind/\(e 3=.lptr (aC w)/\e 5=.lptr (bd (fK b w))/\e 39=L/\e 40=z/\e 41=y/\e 4=.lptr [aE (out++((oV w kind).take k).filter (nw b w))])) (λk e v h=>by simpa using h) (λk e h=>h.1) (λk e hk ⟨s47,s12,s3,s5,s39,s40,s41,s4⟩ hv=>?_) ⟨h47,h12,h3,h5,h39,h40,h41,by simp[h4]⟩ h48|>.imp λe' h=>⟨h.1,h.2.2.2⟩;have hE:(oV w kind)[k]?=some ⟨kind,CQ,(k:Nat)⟩:=by simp[oV,hk]
 have hfl:(((oV w kind).take k).filter (nw b w)).length<=k:=OW (O4 _ _) (by rw[NP];omega);have p:=pv ⟨kind,CQ,(k:Nat)⟩ (out++((oV w kind).take k).filter (nw b w)) (by rw[NR];omega);have hq:(if(nc (fK b w) kind&&oS w ⟨kind,CQ,(k:Nat)⟩)=true then out++((oV w kind).take k).filter (nw b w)++[⟨kind,CQ,(k:Nat)⟩]else out++((oV w kind).take k).filter (nw b w))=out++((oV w kind).take (k+1)).filter (nw b w):=by
  rw[rq hE];by_cases h:nw b w ⟨kind,CQ,(k:Nat)⟩=true
  ·rw[Nt (show(nc (fK b w) kind&&oS w ⟨kind,CQ,(k:Nat)⟩)=true from h),Nt h,Ol]
  ·rw[Nw (show¬(nc (fK b w) kind&&oS w ⟨kind,CQ,(k:Nat)⟩)=true from h),Nw h]
 simp only at p;rw[hq]at p;simp only[bp,dL,bd,aC,CQ]at p s3 s5;refine⟨_,bw (by simp only[wd,↓reduceIte,Nat.reduceEqDiff,Nat.reduceAdd,hv,s12,s3,s5,s4,p,u4,ww];rfl),?_,by simp[hv]⟩;refine⟨by simp[s47],by simp[s12],by simp[s3,aC],by simp[s5,bd],by simp[s39],by simp[s40],by simp[s41],by simp only[wd,↓reduceIte]⟩
theorem Lw{m:Nat}(b:SBudget)(w:ax)(hw:lE w)(ht:xi w)(hm:w.mail.length<1000000)(ha:w.actors.length<1000000):aj aK (m+6) 133 [bL b,cq w]=some (aE (r6 b w),[]):=by
 refine aq (F:=kH) rfl rfl rfl ?_ (.inl rfl);have l1:=Fa (m:=m+3) b w;have rM:=λkind out hl e h3 h4 h5 h8 L z y h18 h19 h20 h25 h26 h27=>Do (m:=m) b w hw ht hm kind out hl (e:=e) h3 h4 h5 h8 (L:=L) (z:=z) (y:=y) h18 h19 h20 h25 h26 h27;have rA:=λkind out hl e h3 h4 h5 h12 L z y h39 h40 h41 h47 h48=>D7 (m:=m) b w hw ht ha kind out hl (e:=e) h3 h4 h5 h12 (L:=L) (z:=z) (y:=y) h39 h40 h41 h47 h48;generalize aj aK (m+5)=C at*;generalize bi aK=V at*;have fb:∀b:SBudget,(PV.agg [.int .i64 b.drop,.int .i64 b.dup,.int .i64 b.time,.int .i64 b.crash]).fits (some 4)=true:=λ_=>rfl;have e0:aE []=.lst [] false:=rfl;simp only[bL,bd,cq,aC]at l1;simp only[bL,cq,kH];refine nx (by simp only[wd,↓reduceIte,Nat.reduceEqDiff,Nat.reduceAdd,Nq,bd,aC,l1];rfl) ?_;rw[rU];refine nx (by simp only[wd,↓reduceIte];rfl) ?_;rw[nO];have lK:∀k,k<=3->(([1,2,3]:List Int).take k).length<=3:=λk hk=>by rw[NP];simp;omega
 have fM:∀ks:List Int,ks.length<=3->((ks.flatMap (oJ w)).filter (nw b w)).length<100000000:=λks hk=>by
  have:(ks.flatMap (oJ w)).length=ks.length*w.mail.length:=by
   induction ks with
   |nil=>simp
   |cons x ks ih=>simp only[ON,NR,oJ,Ob]at ih⊢;rw[ih (by simp at hk;omega),NW,Nat.succ_mul];omega
  have h2:=O4 (nw b w) (ks.flatMap (oJ w));have h3:ks.length*w.mail.length<=3*1000000:=Nat.mul_le_mul hk (by omega);omega
 refine lC (gk (vi:=20) (vn:=19) (n:=3) (by omega) (λk e=>e 3=.lptr (aC w)/\e 5=.lptr (bd (fK b w))/\e 18=eI [1,2,3]/\e 19=.int .i64 3/\e 4=.lptr [aE (((([1,2,3]:List Int).take k).flatMap (oJ w)).filter (nw b w))]) (λk e v h=>by simpa using h) (λk e h=>h.2.2.2.1) (λk e hk ⟨s3,s5,s18,s19,s4⟩ hv=>?_) ⟨by simp[aC],by simp[bd],by simp[eI],by simp,by simp[e0]⟩ (by simp)) (λe ⟨s3,s5,s18,s19,s4⟩=>?_)
 ·obtain⟨kd,hkd,_⟩:=bo (l:=([1,2,3]:List Int)) hk;have ik:=oW hkd;have lms:dp (aY w.mail)=some (.int .i64 (w.mail.length:Nat)):=qL;have hnext:((([1,2,3]:List Int).take (k+1)).flatMap (oJ w)).filter (nw b w)=((([1,2,3]:List Int).take k).flatMap (oJ w)).filter (nw b w)++(oJ w kd).filter (nw b w):=by
   rw[eY hkd,List.flatMap_append,List.filter_append];simp
  obtain⟨e1,r1,r3,r5,r18,r19,r20,r4⟩:∃e1,aI C V (.seq (.st [.asg [] [(8,(.ld none (.ia 1 (.v 18) (.v 20)) 0))],.asg [] [(27,(N 0)),(26,(.len (.ld none (.v 3) 1))),(25,(.ld none (.v 3) 1))]]) (.block 2 (.loop g9))) e=some (.norm e1)/\(e1 3=.lptr (aC w)/\e1 5=.lptr (bd (fK b w))/\e1 18=eI [1,2,3]/\e1 19=.int .i64 3/\e1 20=.int .i64 (k:Nat)/\e1 4=.lptr [aE (((([1,2,3]:List Int).take k).flatMap (oJ w)).filter (nw b w)++(oJ w kd).filter (nw b w))]):=by
   have s3':=s3;simp only[aC]at s3';have st:aI C V (.st [.asg [] [(8,(.ld none (.ia 1 (.v 18) (.v 20)) 0))],.asg [] [(27,(N 0)),(26,(.len (.ld none (.v 3) 1))),(25,(.ld none (.v 3) 1))]]) e=some (.norm ((((e.set 8 (.int .i64 kd)).set 27 (.int .i64 0)).set 26 (.int .i64 (w.mail.length:Nat))).set 25 (aY w.mail))):=by simp only[wd,↓reduceIte,Nat.reduceEqDiff,s18,hv,ik,s3',lms]
   obtain⟨e1,q1,q2⟩:=rM kd _ (fM (([1,2,3]:List Int).take k) (lK k (by omega))) ((((e.set 8 (.int .i64 kd)).set 27 (.int .i64 0)).set 26 (.int .i64 (w.mail.length:Nat))).set 25 (aY w.mail)) (by simp[s3]) (by simp[s4]) (by simp[s5]) (by simp) (eI [1,2,3]) (.int .i64 3) (.int .i64 (k:Nat)) (by simp[s18]) (by simp[s19]) (by simp[hv]) (by simp) (by simp) (by simp);exact⟨e1,nx st q1,q2⟩
  rw[hnext];exact⟨e1,bw r1,⟨r3,r5,r18,r19,r4⟩,r20⟩
 ·rw[show(([1,2,3]:List Int).take 3)=[1,2,3]from rfl]at s4;rw[rU];refine nx (by simp only[wd,↓reduceIte];rfl) ?_;rw[nZ];have f0:=fM [1,2,3] (by simp);generalize h0:(([1,2,3]:List Int).flatMap (oJ w)).filter (nw b w)=o0 at*;have fA:∀ks:List Int,ks.length<=2->((ks.flatMap (oV w)).filter (nw b w)).length<10000000:=λks hk=>by
   have:(ks.flatMap (oV w)).length=ks.length*w.actors.length:=by
    induction ks with
    |nil=>simp
    |cons x ks ih=>simp only[ON,NR,oV,Ob,List.length_range]at ih⊢;rw[ih (by simp at hk;omega),NW,Nat.succ_mul];omega
   have h2:=O4 (nw b w) (ks.flatMap (oV w));have h3:ks.length*w.actors.length<=2*1000000:=Nat.mul_le_mul hk (by omega);omega
  have f1:o0.length<=3*1000000:=by
   rw[<-h0];refine OW (O4 _ _) ?_;simp only[ON,List.flatMap_nil,NR,N9,oJ,Ob];omega
  refine lC (gk (vi:=41) (vn:=40) (n:=2) (by omega) (λk e=>e 3=.lptr (aC w)/\e 5=.lptr (bd (fK b w))/\e 39=eI [4,5]/\e 40=.int .i64 2/\e 4=.lptr [aE (o0++((([4,5]:List Int).take k).flatMap (oV w)).filter (nw b w))]) (λk e v h=>by simpa using h) (λk e h=>h.2.2.2.1) (λk e hk ⟨s3,s5,s39,s40,s4⟩ hv=>?_) ⟨by simp[s3],by simp[s5],by simp[eI],by simp,by simp[s4]⟩ (by simp)) (λe ⟨s3,s5,s39,s40,s4⟩=>?_)
  ·obtain⟨kd,hkd,_⟩:=bo (l:=([4,5]:List Int)) hk;have ik:=oW hkd;have lms:dp (bS w.actors)=some (.int .i64 (w.actors.length:Nat)):=fF;have lK:(([4,5]:List Int).take k).length<=2:=by rw[NP];simp;omega
   have fk:=fA _ lK;have hnext:o0++((([4,5]:List Int).take (k+1)).flatMap (oV w)).filter (nw b w)=(o0++((([4,5]:List Int).take k).flatMap (oV w)).filter (nw b w))++(oV w kd).filter (nw b w):=by
    rw[eY hkd,List.flatMap_append,List.filter_append];simp
   have s3':=s3;simp only[aC]at s3';have st:aI C V (.st [.asg [] [(12,(.ld none (.ia 1 (.v 39) (.v 41)) 0))],.asg [] [(48,(N 0)),(47,(.len (.ld none (.v 3) 0)))]]) e=some (.norm (((e.set 12 (.int .i64 kd)).set 48 (.int .i64 0)).set 47 (.int .i64 (w.actors.length:Nat)))):=by simp only[wd,↓reduceIte,Nat.reduceEqDiff,s39,hv,ik,s3',lms]
   obtain⟨e1,q1,r3,r5,r39,r40,r41,r4⟩:=rA kd (o0++((([4,5]:List Int).take k).flatMap (oV w)).filter (nw b w)) (by rw[NR];omega) (((e.set 12 (.int .i64 kd)).set 48 (.int .i64 0)).set 47 (.int .i64 (w.actors.length:Nat))) (by simp[s3]) (by simp[s4]) (by simp[s5]) (by simp) (eI [4,5]) (.int .i64 2) (.int .i64 (k:Nat)) (by simp[s39]) (by simp[s40]) (by simp[hv]) (by simp) (by simp);rw[hnext];exact⟨e1,bw (nx st q1),⟨r3,r5,r39,r40,r4⟩,r41⟩
  ·rw[show(([4,5]:List Int).take 2)=[4,5]from rfl]at s4;refine nx (by simp only[wd];rfl) ?_;have ha:r6 b w=o0++(([4,5]:List Int).flatMap (oV w)).filter (nw b w):=by
    unfold r6;rw[List.filter_append,h0]
   rw[ha];simp only[wd,↓reduceIte,s4,u4]
theorem qR(a b:SID):cW a b=true↔a.frm<b.frm∨(a.frm=b.frm/\(a.n<b.n∨(a.n=b.n/\a.copy<b.copy))):=by
 unfold cW;split
 ·rename_i h;simp only[NU];omega
 ·rename_i h;split
  ·rename_i h2;simp only[NU];omega
  ·rename_i h2;simp only[NU];omega
theorem qQ{l:List bv}(h:gZ l=true):∀(d i:Nat)(x y:bv),l[i]?=some x->l[i+d+1]?=some y->cW x.id y.id=true
 |0,i,x,y,hx,hy=>by
  have:=OJ h i (List.getElem?_eq_some_iff.1 hx).1;unfold mN at this;rw[hx,hy]at this;exact this
 |d+1,i,x,y,hx,hy=>by
  have hlt:=(List.getElem?_eq_some_iff.1 hy).1;obtain⟨z,hz,_⟩:=bo (l:=l) (k:=i+d+1) (by omega);have h1:=qQ h d i x z hx hz;have h2:=OJ h (i+d+1) (by omega);unfold mN at h2;rw[hz,show i+d+1+1=i+(d+1)+1 by omega,hy]at h2;have h2':cW z.id y.id=true:=h2;rw[qR]at h1 h2'⊢;omega
def RE(x y:SEvent):Prop:=¬AL y x<0
theorem ta{a b:Int}(h:b<a):jd a b=1:=by unfold jd;rw[Nw (by omega),Nt h]
theorem nS(a:Int):jd a a=0:=by unfold jd;rw[Nw (by omega),Nw (by omega)]
theorem RE.kind{x y:SEvent}(h:x.kind<y.kind):RE x y:=by
 unfold RE AL zx;rw[ta h];simp
theorem RE.id{x y:SEvent}(hk:x.kind=y.kind)(h:cW x.id y.id=true):RE x y:=by
 have:CB y.id x.id=1:=by
  unfold CB zx;rw[qR]at h;rcases h with h|⟨h,h2|⟨h2,h3⟩⟩
  ·rw[ta h];simp
  ·rw[h,nS,ta h2];simp
  ·rw[h,h2,nS,nS,ta h3];simp
 unfold RE AL zx;rw[hk,nS,this];simp
theorem RE.who{x y:SEvent}(hk:x.kind=y.kind)(hi:x.id=y.id)(h:x.who<y.who):RE x y:=by
 have:CB y.id x.id=0:=by
  unfold CB zx;rw[hi,nS,nS,nS];simp
 unfold RE AL zx;rw[hk,nS,this,ta h];simp
theorem zU{w:ax}(h:gZ w.mail=true)(k:Int):(oJ w k).Pairwise RE:=by
 unfold oJ;rw[List.pairwise_map,O5];intro i j hi hj hij;refine RE.id rfl (qQ h (j-i-1) i _ _ (Ns hi) ?_);rw[show i+(j-i-1)+1=j by omega];exact Ns hj
theorem EC(w:ax)(k:Int):(oV w k).Pairwise RE:=by
 unfold oV;rw[List.pairwise_map,O5];intro i j hi hj hij;refine RE.who rfl rfl ?_;simp only[List.getElem_range];omega
theorem dZ{w:ax}{k:Int}{x:SEvent}(h:x∈oJ w k):x.kind=k:=by
 obtain⟨_,_,rfl⟩:=List.mem_map.1 h;rfl
theorem jf{w:ax}{k:Int}{x:SEvent}(h:x∈oV w k):x.kind=k:=by
 obtain⟨_,_,rfl⟩:=List.mem_map.1 h;rfl
theorem Fh{b:SBudget}{w:ax}(h:gZ w.mail=true):wK (r6 b w):=by
 have pw:(r6 b w).Pairwise RE:=by
  unfold r6;refine List.Pairwise.filter _ ?_;simp only[ON,List.flatMap_nil,NT];refine List.pairwise_append.2 ⟨List.pairwise_append.2 ⟨zU h 1,List.pairwise_append.2 ⟨zU h 2,zU h 3,λx hx y hy=>?_⟩,λx hx y hy=>?_⟩,List.pairwise_append.2 ⟨EC w 4,EC w 5,λx hx y hy=>?_⟩,λx hx y hy=>?_⟩
  ·exact RE.kind (by rw[dZ hx,dZ hy];decide)
  ·rcases List.mem_append.1 hy with hy|hy<;>exact RE.kind (by rw[dZ hx,dZ hy];decide)
  ·exact RE.kind (by rw[jf hx,jf hy];decide)
  ·rcases List.mem_append.1 hx with hx|hx
   ·rcases List.mem_append.1 hy with hy|hy<;>exact RE.kind (by rw[dZ hx,jf hy];decide)
   ·rcases List.mem_append.1 hx with hx|hx<;>rcases List.mem_append.1 hy with hy|hy<;>exact RE.kind (by rw[dZ hx,jf hy];decide)
 intro i j x y hij hx hy;obtain⟨hi,rfl⟩:=List.getElem?_eq_some_iff.1 hx;obtain⟨hj,rfl⟩:=List.getElem?_eq_some_iff.1 hy;exact List.pairwise_iff_getElem.1 pw i j hi hj hij
theorem yn(b:SBudget)(w:ax):(r6 b w).length<=3*w.mail.length+2*w.actors.length:=by
 refine OW (O4 _ _) ?_;simp only[ON,List.flatMap_nil,NR,N9,oJ,oV,Ob,List.length_range];omega
noncomputable def Cj (p:SProg) (b:SBudget) (w:ax):List SEvent:=if lF p w=true/\w9 b=true then r6 b w else[]
theorem uG{p:SProg}{w:ax}(hc:lF p w=true):xi w/\gZ w.mail=true/\w.actors.length<=8:=by
 unfold lF kD at hc;simp only[Np,NU,Og]at hc;obtain⟨h0,h1,h2,h3,h4,h5⟩:=hc;have ok:=(wA h0).1;refine⟨λx hx=>?_,h2,by have:=ok.as;omega⟩;have:=h5 x hx;unfold jq at this;rw[NU]at this;have h:=this.1;unfold oX at h;rw[h1];split at h
 ·omega
 ·split at h
  ·omega
  ·omega
theorem v7{m:Nat}(p:SProg)(hp:pC p)(b:SBudget)(w:ax)(hw:lE w)(hm:w.mail.length<=60):aj aK (m+11) 121 [aJ p,bL b,cq w]=some (aE (Cj p b w),[]):=by
 refine aq (F:=fP) rfl rfl rfl ?_ (.inl rfl);have ck:=xS (m:=m+3) p hp w hw;have my:=Dz (m:=m+9) b;have al:=λht ha=>Lw (m:=m+4) b w hw ht (by omega) ha;have so:=λh1 h2=>Jd (m:=m) (r6 b w) h1 h2;generalize aj aK (m+10)=C at*;generalize bi aK=V;have e0:aE []=.lst [] false:=rfl;simp only[aJ,aB,bL,bd,cq,aC]at ck my al;simp only[aJ,aB,bL,bd,cq,aC,fP,Cj];refine nx (by simp only[wd,↓reduceIte,Nat.reduceAdd,Nq];rfl) ?_;cases hc:lF p w with
 |false=>
  rw[hc]at ck;simp only[NL,Pp,Oc,e0];refine an ?_;simp only[wd,↓reduceIte,Nat.reduceEqDiff,reduceCtorEq,Int.reduceNeg,un,ck]
 | true=>
  rw[hc]at ck;cases hb:w9 b with
  |false=>
   rw[hb]at my;simp only[NL,Pq,Oc,e0];refine an ?_;simp only[wd,↓reduceIte,Nat.reduceEqDiff,Int.reduceNeg,Nq,un,ck,my]
  |true=>
   rw[hb]at my;obtain⟨t1,t2,t3⟩:=uG hc;have al:=al t1 (by omega);have so:=so (by have:=yn b w;omega) (Fh t2);simp only[and_self,Oa];refine nx (by simp only[wd,↓reduceIte,Nat.reduceEqDiff,Int.reduceNeg,Nq,un,ck,my];rfl) ?_;have hf:Hm 135 (.tup [])=some (.fn 135 []):=rfl;refine nx (by simp only[wd,↓reduceIte,Nat.reduceEqDiff,al,hf,so];rfl) ?_;simp only[wd,↓reduceIte]
def we(w:ax):Prop:=∀l∈w.actors,l.regs.length<1000000000
theorem zJ{w:ax}(h:we w)(k:Nat):we (nr w k):=by
 unfold nr;split
 ·rename_i l hl;intro y hy;simp only at hy;rcases O6 hy with hy|rfl
  ·exact h y hy
  ·exact h l (ND hl)
 ·exact h
theorem Aw{p:SProg}{w:ax}(h:we w)(x:bv):we (kQ p w x):=by
 unfold kQ;split
 ·exact h
 ·exact zJ h _
theorem uw{p:SProg}{frm first:Int}:∀(l:List SNote)(i:Nat){w:ax},we w->we (iu p frm first l i w)
 |[],_,_,h=>h
 |n::l,i,w,h=>by
  unfold iu;refine uw l (i+1) ?_;split
  ·exact Aw h _
  ·exact h
theorem td(w:ax)(k:Nat):(nr w k).used=w.used/\(nr w k).mail=w.mail:=by
 unfold nr;split<;>exact⟨rfl,rfl⟩
theorem Ay(p:SProg)(w:ax)(x:bv):(kQ p w x).used=w.used/\(kQ p w x).mail.length<=w.mail.length+1:=by
 unfold kQ;split
 ·exact⟨rfl,by simp only[BP];omega⟩
 ·rw[(td _ _).1,(td _ _).2];exact⟨rfl,by omega⟩
theorem uL{p:SProg}{frm first:Int}:∀(l:List SNote)(i:Nat)(w:ax),(iu p frm first l i w).used=w.used/\(iu p frm first l i w).mail.length<=w.mail.length+l.length
 |[],_,w=>⟨rfl,Ny _⟩
 | n::l,i,w=>by
  unfold iu;obtain⟨a,b⟩:=uL (p:=p) (frm:=frm) (first:=first) l (i+1) (if 0<=n.to/\n.to<min (p.actors.length:Int) w.actors.length then kQ p w ⟨⟨frm,first+i,0⟩,n⟩else w);rw[a];simp only[NW];split at b
  ·rename_i h;rw[Nt h]at a⊢;obtain⟨c,d⟩:=Ay p w ⟨⟨frm,first+i,0⟩,n⟩;exact⟨c,by omega⟩
  ·rename_i h;rw[Nw h];exact⟨rfl,by omega⟩
theorem zj{p:SProg}(h:nD p=0):lE (gb p)/\(gb p).mail.length<=16:=by
 obtain⟨ok,_⟩:=wA h;have hs:=ok.as;have hns:=ok.ns;obtain⟨a,b⟩:=uL (p:=p) (frm:= -1) (first:=0) p.boot 0 (ri p);have P1:=PostOk.take (p:=p) (frm:= -1) (first:=0) (BY ok) (vQ ok) _ (Ny _);rw[OX]at P1;refine⟨⟨?_,P1.sml,uw _ _ λy hy=>?_⟩,?_⟩
 ·unfold gb;rw[qV];simp only[ri,Ob];omega
 ·simp only[ri,List.mem_map]at hy;obtain⟨x,hx,rfl⟩:=hy;have:=ok.regs x hx;simp only[pS];omega
 ·have e1:(ri p).mail.length=0:=rfl;unfold gb;omega
def AI(a b:SEvent):Bool:=if a.kind≠b.kind then decide (a.kind<b.kind)else if a.id≠b.id then cW a.id b.id else decide (a.who<b.who)
theorem DU{m:Nat}(a b:SEvent):aj aK (m+2) 123 [bp a,bp b]=some (.bool (AI a b),[]):=by
 refine aq (F:=iR) rfl rfl rfl ?_ (.inr rfl);have le:=G1 (m:=m) a.id b.id;generalize aj aK (m+1)=C at*;generalize bi aK=V;have q:=LI a.id b.id;have ne:∀x y:Int,a9 .neq .i64 x .i64 y=some (.bool (!decide (x=y))):=λx y=>by by_cases h:x=y<;>simp[a9,h,bne]
 have ls:∀x y:Int,a9 .lss .i64 x .i64 y=some (.bool (decide (x<y))):=λx y=>by simp[a9]
 simp only[xD,zy]at le;simp only[bp,dL,iR];refine nx (by simp only[wd,↓reduceIte,Nat.reduceAdd,Nq];rfl) ?_;unfold AI;by_cases h1:a.kind=b.kind
 ·rw[Nw (by simpa using h1)];by_cases h2:a.id=b.id
  ·rw[Nw (by simpa using h2)];rw[Oh h2]at q;refine nx (bw (nx (by simp only[wd,↓reduceIte,Nat.reduceEqDiff,ne,h1];rfl) (by simp only[wd,↓reduceIte,Nat.reduceEqDiff,ne,q];rfl))) ?_;simp only[wd,↓reduceIte,Nat.reduceEqDiff,ls]
  ·rw[Nt h2];rw[N3 h2]at q;refine an (aU (nx (by simp only[wd,↓reduceIte,Nat.reduceEqDiff,ne,h1];rfl) ?_));simp only[wd,↓reduceIte,Nat.reduceEqDiff,ne,q,le]
 ·rw[Nt h1];refine an (aU (nx (by simp only[wd,↓reduceIte,Nat.reduceEqDiff,ne,h1];rfl) ?_));simp only[wd,↓reduceIte,Nat.reduceEqDiff,ne,h1,ls]
theorem DF{a b:SID}(h:cW a b=true):a≠b:=λe=>by subst e;rw[qR]at h;omega
def BE(x y:SEvent):Prop:=AI x y=true
theorem BE.kind{x y:SEvent}(h:x.kind<y.kind):BE x y:=by
 unfold BE AI;rw[Nt (by omega)];exact Oh h
theorem BE.id{x y:SEvent}(hk:x.kind=y.kind)(h:cW x.id y.id=true):BE x y:=by
 unfold BE AI;rw[Nw (by simpa using hk),Nt (DF h)];exact h
theorem BE.who{x y:SEvent}(hk:x.kind=y.kind)(hi:x.id=y.id)(h:x.who<y.who):BE x y:=by
 unfold BE AI;rw[Nw (by simpa using hk),Nw (by simpa using hi)];exact Oh h
theorem zC{w:ax}(h:gZ w.mail=true)(k:Int):(oJ w k).Pairwise BE:=by
 unfold oJ;rw[List.pairwise_map,O5];intro i j hi hj hij;refine BE.id rfl (qQ h (j-i-1) i _ _ (Ns hi) ?_);rw[show i+(j-i-1)+1=j by omega];exact Ns hj
theorem Fj(w:ax)(k:Int):(oV w k).Pairwise BE:=by
 unfold oV;rw[List.pairwise_map,O5];intro i j hi hj hij;refine BE.who rfl rfl ?_;simp only[List.getElem_range];omega
theorem F7{b:SBudget}{w:ax}(h:gZ w.mail=true):(r6 b w).Pairwise BE:=by
 unfold r6;refine List.Pairwise.filter _ ?_;simp only[ON,List.flatMap_nil,NT];refine List.pairwise_append.2 ⟨List.pairwise_append.2 ⟨zC h 1,List.pairwise_append.2 ⟨zC h 2,zC h 3,λx hx y hy=>?_⟩,λx hx y hy=>?_⟩,List.pairwise_append.2 ⟨Fj w 4,Fj w 5,λx hx y hy=>?_⟩,λx hx y hy=>?_⟩
 ·exact BE.kind (by rw[dZ hx,dZ hy];decide)
 ·rcases List.mem_append.1 hy with hy|hy<;>exact BE.kind (by rw[dZ hx,dZ hy];decide)
 ·exact BE.kind (by rw[jf hx,jf hy];decide)
 ·rcases List.mem_append.1 hx with hx|hx
  ·rcases List.mem_append.1 hy with hy|hy<;>exact BE.kind (by rw[dZ hx,jf hy];decide)
  ·rcases List.mem_append.1 hx with hx|hx<;>rcases List.mem_append.1 hy with hy|hy<;>exact BE.kind (by rw[dZ hx,jf hy];decide)
theorem IZ{p:SProg}{b:SBudget}{w:ax}:(Cj p b w).Pairwise BE:=by
 unfold Cj;split
 ·rename_i h;exact F7 (uG h.1).2.1
 ·exact List.Pairwise.nil
theorem DM{w:ax}{e:SEvent}(h:oS w e=true):e∈([1,2,3].flatMap (oJ w))++[4,5].flatMap (oV w):=by
 obtain⟨k,i,o⟩:=e;unfold oS at h;split at h
 ·rename_i hk;simp only at hk;unfold Ip at h;simp only[Np,NV,NU,N4]at h;obtain⟨h1,h2,_⟩:=h;obtain⟨j,x,f1,_,f3,f4⟩:=yq h2;have hx:=ND f3;have key:∀n,(⟨n,i,o⟩:SEvent)∈oJ w n:=λn=>List.mem_map.2 ⟨x,hx,by rw[f4,h1]⟩;refine List.mem_append.2 (.inl (List.mem_flatMap.2 ⟨k,?_,key k⟩));rcases hk with rfl|rfl|rfl<;>decide
 ·split at h
  ·rename_i hk;simp only at hk;unfold Iw at h;simp only[Np,NU]at h;obtain⟨h1,h2,h3,_⟩:=h;obtain⟨j,rfl⟩:=OK h2;have key:∀n,(⟨n,i,(j:Int)⟩:SEvent)∈oV w n:=λn=>List.mem_map.2 ⟨j,List.mem_range.2 (by omega),by rw[h1]⟩;refine List.mem_append.2 (.inr (List.mem_flatMap.2 ⟨k,?_,key k⟩));rcases hk with rfl|rfl<;>decide
  ·cases h
theorem GU{p:SProg}{b:SBudget}{w:ax}(e:SEvent):L7 p b w e=decide (e∈Cj p b w):=by
 rw[Bool.eq_iff_iff,NU];unfold L7 Cj;simp only[Np];split
 ·rename_i h;unfold r6;rw[List.mem_filter];unfold nw;rw[Np];exact⟨λ⟨_,_,h1,h2⟩=>⟨DM h1,h2,h1⟩,λ⟨_,h2,h1⟩=>⟨h.1,h.2,h1,h2⟩⟩
 ·rename_i h;exact⟨λ⟨h1,h2,_⟩=>absurd ⟨h1,h2⟩ h,λh=>by cases h⟩
theorem CO{p:SProg}(h:Hx p=true):pC p:=by
 unfold Hx at h;simp only[Np,NU]at h;obtain⟨⟨a1,a2,a3⟩,a4,a5,a6⟩:=h;exact⟨by omega,by omega,by omega,λx hx=>by have:=a4 x hx;omega,λx hx=>by have:=a5 x hx;omega,λx hx=>by have:=a6 x hx;omega⟩
theorem GZ(x y:SEvent):pR false [false,false,false,false,false] (.agg [.int .i64 x.kind,.int .i64 x.id.frm,.int .i64 x.id.n,.int .i64 x.id.copy,.int .i64 x.who]) (.agg [.int .i64 y.kind,.int .i64 y.id.frm,.int .i64 y.id.n,.int .i64 y.id.copy,.int .i64 y.who])=some (.bool (decide (x=y))):=by
 simp only[pR,aH,ne_eq,OB,Oc,No,PV.bool.injEq];obtain⟨a,⟨b,c,d⟩,e⟩:=x;obtain⟨a',⟨b',c',d'⟩,e'⟩:=y;rw[Bool.eq_iff_iff];simp[and_assoc]
theorem Dd{l:List SEvent}{k:Nat}{y:SEvent}(h:l[k]?=some y)(x:SEvent):decide (x∈l.take (k+1))=(decide (x∈l.take k)||decide (y=x)):=by
 rw[eY h,Bool.eq_iff_iff];simp only[OT,NJ,NU,OH];exact⟨λh=>h.imp_right Eq.symm,λh=>h.imp_right Eq.symm⟩
theorem xj{m:Nat}(aw:aj aK (m+11) 120 []=some (.bool true,[]))(p:SProg)(b:SBudget)(more:List SEvent):aj aK (m+12) 111 [aJ p,bL b,aE more]=some (.bool true,[]):=by
 refine aq (F:=bF) rfl rfl rfl ?_ (.inr rfl);have sp:=Ek (m:=m+10) (p:=p);have lm:=zD (l:=more);cases h1:Hx p with
 |false=>
  rw[h1]at sp;generalize aj aK (m+11)=C at*;generalize bi aK=V;simp only[aJ,aB]at sp;simp only[aJ,aB,bL,bd,bF];refine nx (by simp only[wd,↓reduceIte,Nat.reduceAdd,Nq];rfl) ?_;refine an ?_;simp only[wd,↓reduceIte,Nat.reduceEqDiff,reduceCtorEq,Int.reduceNeg,un,sp,aw]
 | true=>
  rw[h1]at sp;by_cases h2:more.length<=40
  rotate_left
  ·have h2':(40:Int)<(more.length:Int):=by omega
   generalize aj aK (m+11)=C at*;generalize bi aK=V;simp only[aJ,aB]at sp;simp only[aJ,aB,bL,bd,bF];refine nx (by simp only[wd,↓reduceIte,Nat.reduceAdd,Nq];rfl) ?_;refine an ?_;simp only[wd,↓reduceIte,Nat.reduceEqDiff,Int.reduceNeg,un,sp,aw,lm,h2']
  have h2':¬(40:Int)<(more.length:Int):=by omega
  have hp:=CO h1;have st:=Gq (m:=m+1) p hp;have my:=Dz (m:=m+10) b;by_cases h0:nD p=0
  rotate_left
  ·
   have hz:Cj p b zW=[]:=by
    unfold Cj lF;rw[N3 h0,Ow];simp
   have en:=v7 (m:=m) p hp b zW ⟨by simp[zW],⟨by simp[zW],λx hx=>by cases hx⟩,λx hx=>by cases hx⟩ (by simp[zW]);rw[hz]at en;have l0:dp (aE [])=some (.int .i64 0):=rfl;have e0:aY []=.lst [] false:=rfl;have e1:bS []=.lst [] false:=rfl;generalize aj aK (m+11)=C at*;generalize bi aK=V;simp only[aJ,aB,bL,bd,cq,aC,zW,e0,e1]at sp en;simp only[aJ,aB,h0,Oc,cq,aC,zW,e0,e1]at st;simp only[aJ,aB,bL,bd,bF];refine nx (by simp only[wd,↓reduceIte,Nat.reduceAdd,Nq];rfl) ?_;refine nx (by simp only[wd,↓reduceIte,Nat.reduceEqDiff,Int.reduceNeg,un,sp,lm,h2'];rfl) ?_;refine nx (by simp only[wd,↓reduceIte,Nat.reduceEqDiff,Nat.reduceAdd,Nq,st];rfl) ?_;refine an ?_;simp only[wd,↓reduceIte,Nat.reduceEqDiff,Nq,h0,en,l0,aw]
  obtain⟨hs,hm⟩:=zj h0;have en:=v7 (m:=m) p hp b (gb p) hs (by omega);have is:=λe=>MO (m:=m+3) p hp b (gb p) hs e;have bf:=λx y=>DU (m:=m+9) x y;have pw:=IZ (p:=p) (b:=b) (w:=gb p);have hmay:w9 b=true∨Cj p b (gb p)=[]:=by
   unfold Cj;cases h:w9 b<;>simp
  have me:=λe=>GU (p:=p) (b:=b) (w:=gb p) e;have hln:(Cj p b (gb p)).length<1000000:=by
   unfold Cj;split
   ·rename_i h;have:=yn b (gb p);have:=(uG h.1).2.2;omega
   ·simp
  simp only[me]at is;simp only[aJ,aB,h0,Oa,cq]at st;generalize Cj p b (gb p)=l at*;generalize gb p=w at*;have ll:=zD (l:=l);generalize aj aK (m+11)=C at*;generalize bi aK=V;simp only[aJ,aB,bL,bd,cq,aC,bp,dL]at sp st my en is bf;simp only[aJ,aB,bL,bd,bF];refine nx (by simp only[wd,↓reduceIte,Nat.reduceAdd,Nq];rfl) ?_;refine nx (by simp only[wd,↓reduceIte,Nat.reduceEqDiff,Int.reduceNeg,un,sp,lm,h2'];rfl) ?_;refine nx (by simp only[wd,↓reduceIte,Nat.reduceEqDiff,Nat.reduceAdd,Nq,st];rfl) ?_;refine nx (by simp only[wd,↓reduceIte,Nat.reduceEqDiff];rfl) ?_;refine nx (by simp only[wd,↓reduceIte,Nat.reduceEqDiff,en];rfl) ?_
  let P3:PV:=.lptr [mD p.handlers,nn p.actors,mi p.boot,.int .i64 p.fuel]
  let P4:PV:=.lptr [.int .i64 b.drop,.int .i64 b.dup,.int .i64 b.time,.int .i64 b.crash]
  let P7:PV:=.lptr [bS w.actors,aY w.mail,.int .i64 w.used.drop,.int .i64 w.used.dup,.int .i64 w.used.time,.int .i64 w.used.crash]
  rw[rU];refine nx (by simp only[wd,↓reduceIte];rfl) ?_;rw[iq];refine lC (kk (n:=l.length) (by omega) (λk e=>e 9=aE l/\e 2=aE more/\e 3=P3/\e 4=P4/\e 7=P7/\e 10=.int .i64 (k:Nat)) (λe=>e 9=aE l/\e 2=aE more/\e 3=P3/\e 4=P4/\e 7=P7) (λk e hk ⟨s9,s2,s3,s4,s7,s10⟩=>?_) (λe ⟨s9,s2,s3,s4,s7,s10⟩=>?_) ⟨by simp,by simp[Env.ofArgs_at],by simp[P3],by simp[P4],by simp[P7],by simp⟩) (λe ⟨s9,s2,s3,s4,s7⟩=>?_)
  ·obtain⟨x,hx,hxm⟩:=bo hk;have ix:=oZ hx;have i:=is x;rw[Oh hxm]at i;have ad:=ey (k:=k) (by omega);have lt:(k:Int)<(l.length:Nat):=by omega
   simp only[dL]at ix;simp only[P3]at s3;simp only[P4]at s4;simp only[P7]at s7;cases k with
   |zero=>
    have g:¬(0:Int)<((0:Nat):Int):=by omega
    exact⟨_,_,by simp only[wd,↓reduceIte,s9,s10,ll,lt];rfl,nx (bw (nx (by simp only[wd,↓reduceIte,Nat.reduceEqDiff,Nat.reduceAdd,Int.reduceNeg,Nq,un,s9,s10,ix,s3,s4,s7,i,g];rfl) (by simp only[wd,↓reduceIte,Nat.reduceEqDiff,Int.reduceNeg,un,s10,g];rfl))) (by simp only[wd,↓reduceIte,Nat.reduceEqDiff,Nat.reduceAdd,s10,ad];rfl),by simp[s9],by simp[s2],by simp[s3,P3],by simp[s4,P4],by simp[s7,P7],by simp only[wd,↓reduceIte,Nat.reduceAdd]⟩
   | succ k=>
    obtain⟨y,hy,_⟩:=bo (l:=l) (k:=k) (by omega);have iy:=oZ hy;have g:(0:Int)<((k+1:Nat):Int):=by omega
    have sb:=oI (k:=k+1) (by omega) (by omega);rw[show k+1-1=k by omega]at sb;have f:=bf y x;have hb:AI y x=true:=by
     obtain⟨ha,rfl⟩:=List.getElem?_eq_some_iff.1 hy;obtain⟨hc,rfl⟩:=List.getElem?_eq_some_iff.1 hx;exact List.pairwise_iff_getElem.1 pw k (k+1) ha hc (by omega)
    rw[hb]at f;simp only[dL]at iy;exact⟨_,_,by simp only[wd,↓reduceIte,s9,s10,ll,lt];rfl,nx (bw (nx (by simp only[wd,↓reduceIte,Nat.reduceEqDiff,Nat.reduceAdd,Int.reduceNeg,Nq,un,s9,s10,ix,iy,sb,s3,s4,s7,i,g,f];rfl) (by simp only[wd,↓reduceIte,Nat.reduceEqDiff,Int.reduceNeg,un,s10,g];rfl))) (by simp only[wd,↓reduceIte,Nat.reduceEqDiff,s10,ad];rfl),by simp[s9],by simp[s2],by simp[s3,P3],by simp[s4,P4],by simp[s7,P7],by simp only[wd,↓reduceIte]⟩
  ·exact⟨e,by simp only[wd,↓reduceIte,s9,s10,ll,Int.lt_irrefl],s9,s2,s3,s4,s7⟩
  rw[rU];refine nx (by simp only[wd,↓reduceIte];rfl) ?_;rw[ir];refine lC (kk (n:=more.length) (by omega) (λk e=>e 9=aE l/\e 2=aE more/\e 3=P3/\e 4=P4/\e 7=P7/\e 11=.int .i64 (k:Nat)) (λe=>e 9=aE l/\e 4=P4) (λk e hk ⟨s9,s2,s3,s4,s7,s11⟩=>?_) (λe ⟨s9,s2,s3,s4,s7,s11⟩=>?_) ⟨by simp[s9],by simp[s2],by simp[s3],by simp[s4],by simp[s7],by simp⟩) (λe ⟨s9,s4⟩=>?_)
  ·obtain⟨x,hx,_⟩:=bo hk;have ix:=oZ hx;have i:=is x;have ad:=ey (k:=k) (by omega);have lt:(k:Int)<(more.length:Nat):=by omega
   simp only[dL]at ix;obtain⟨e1,q0,q9,q2,q3,q4,q7,q11,q12⟩:∃e1,aI C V (.seq (.st [.asg [] [(13,(N 0))]]) (.block 4 (.loop eo))) (e.set 12 (.bool false))=some (.norm e1)/\e1 9=aE l/\e1 2=aE more/\e1 3=P3/\e1 4=P4/\e1 7=P7/\e1 11=.int .i64 (k:Nat)/\e1 12=.bool (decide (x∈l)):=by
    have w0:=kk (C:=C) (V:=V) (n:=l.length) (b:=4) (HD:=.seq (.st [.asg [(.bin .lss (.v 13) (.len (.v 9)))] []]) (.cond (.bin .lss (.v 13) (.len (.v 9))) .skip (.exit 4))) (BD:=.seq (.block 5 (.st [.asg [(.gd (.v 12) false (.ia 5 (.v 9) (.v 13))),(.gd (.v 12) false (.ld (some 5) (.ia 5 (.v 9) (.v 13)) 0)),(.gd (.v 12) false (.ia 5 (.v 2) (.v 11))),(.gd (.v 12) false (.ld (some 5) (.ia 5 (.v 2) (.v 11)) 0)),(.gd (.v 12) false .nl),(.gd (.v 12) false (.eqs false [false,false,false,false,false] (.ld (some 5) (.ia 5 (.v 9) (.v 13)) 0) (.ld (some 5) (.ia 5 (.v 2) (.v 11)) 0)))] [(12,(.ite (.v 12) (.boo true) (.eqs false [false,false,false,false,false] (.ld (some 5) (.ia 5 (.v 9) (.v 13)) 0) (.ld (some 5) (.ia 5 (.v 2) (.v 11)) 0))))]])) (.st [.asg [] [(13,(.bin .add (.v 13) (N 1)))]])) (by omega)
     (λj e=>e 9=aE l/\e 2=aE more/\e 3=P3/\e 4=P4/\e 7=P7/\e 11=.int .i64 (k:Nat)/\e 13=.int .i64 (j:Nat)/\e 12=.bool (decide (x∈l.take j)))
     (λe1=>e1 9=aE l/\e1 2=aE more/\e1 3=P3/\e1 4=P4/\e1 7=P7/\e1 11=.int .i64 (k:Nat)/\e1 12=.bool (decide (x∈l)))
     (λj e hj ⟨t9,t2,t3,t4,t7,t11,t13,t12⟩=>by
      obtain⟨y,hy,_⟩:=bo hj;have iy:=oZ hy;have ad:=ey (k:=j) (by omega);have q:=GZ y x;have lt:(j:Int)<(l.length:Nat):=by omega
      simp only[dL]at iy;rw[Dd hy x];cases hd:decide (x∈l.take j)with
      |true=>
       rw[hd]at t12;exact⟨_,_,by simp only[wd,↓reduceIte,t9,t13,ll,lt];rfl,nx (bw (by simp only[wd,↓reduceIte,reduceCtorEq,t12];rfl)) (by simp only[wd,↓reduceIte,Nat.reduceEqDiff,t13,ad];rfl),by simp[t9],by simp[t2],by simp[t3],by simp[t4],by simp[t7],by simp[t11],by simp only[wd,↓reduceIte],by simp⟩
      |false=>
       rw[hd]at t12;exact⟨_,_,by simp only[wd,↓reduceIte,t9,t13,ll,lt];rfl,nx (bw (by simp only[wd,↓reduceIte,Nat.reduceAdd,Nq,t12,t9,t13,t2,t11,ix,iy,q];rfl)) (by simp only[wd,↓reduceIte,Nat.reduceEqDiff,t13,ad];rfl),by simp[t9],by simp[t2],by simp[t3],by simp[t4],by simp[t7],by simp[t11],by simp only[wd,↓reduceIte],by simp⟩)
     (λe ⟨t9,t2,t3,t4,t7,t11,t13,t12⟩=>⟨e,by simp only[wd,↓reduceIte,t9,t13,ll,Int.lt_irrefl],t9,t2,t3,t4,t7,t11,by rw[t12,OX]⟩)
     (env:=(e.set 12 (.bool false)).set 13 (.int .i64 0)) ⟨by simp[s9],by simp[s2],by simp[s3],by simp[s4],by simp[s7],by simp[s11],by simp,by simp⟩
    obtain⟨e1,r0,r⟩:=w0;exact⟨e1,nx (by simp only[wd,↓reduceIte];rfl) (by rw[eo];exact r0),r⟩
   simp only[P3]at q3;simp only[P4]at q4;simp only[P7]at q7;have ev:∀x:Bool,Gv.eqb true (.bool x) (.bool x)=some (.bool false):=λx=>by cases x<;>rfl
   exact⟨_,_,by simp only[wd,↓reduceIte,s2,s11,lm,lt];rfl,nx (bw (nx (by simp only[wd,↓reduceIte]) (nx q0 (nx (by simp only[wd,↓reduceIte,Nat.reduceEqDiff,Nat.reduceAdd,Nq,q2,q11,ix,q3,q4,q7,i,q12,ev];rfl) (by simp only[wd,↓reduceIte,Nat.reduceEqDiff,q12,ev];rfl))))) (by simp only[wd,↓reduceIte,Nat.reduceEqDiff,q11,ad];rfl),by simp[q9],by simp[q2],by simp[q3,P3],by simp[q4,P4],by simp[q7,P7],by simp only[wd,↓reduceIte]⟩
  ·exact⟨e,by simp only[wd,↓reduceIte,s2,s11,lm,Int.lt_irrefl],s9,s4⟩
  simp only[P4]at s4;rcases hmay with hb|hl0
  ·rw[hb]at my;refine nx (by simp only[wd,↓reduceIte,Nat.reduceEqDiff,reduceCtorEq,Nq,s4,my,aw];rfl) ?_;simp only[wd,↓reduceIte]
  ·subst hl0;have l0:dp (aE [])=some (.int .i64 0):=rfl;cases hb:w9 b with
   |true=>
    rw[hb]at my;refine nx (by simp only[wd,↓reduceIte,Nat.reduceEqDiff,reduceCtorEq,Nq,s4,my,aw];rfl) ?_;simp only[wd,↓reduceIte]
   |false=>
    rw[hb]at my;refine nx (by simp only[wd,↓reduceIte,Nat.reduceEqDiff,Nq,s4,s9,l0,my,aw];rfl) ?_;simp only[wd,↓reduceIte]
theorem FX(m:Nat):aj aK (m+16) 120 []=some (.bool true,[]):=by kernel_rfl
end Gv
