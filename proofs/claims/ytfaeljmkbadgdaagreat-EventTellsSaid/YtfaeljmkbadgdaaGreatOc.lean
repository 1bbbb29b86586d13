/- A part of the proof that the law is true of all its inputs, by an interpreter that is proved sound. -/
import Derived.Test.YtfaeljmkbadgdaaGreatNb
import Derived.KernelRfl
namespace Gv
open Go
def DJ(a b:SID):Int:=A1 (jC a.frm b.frm) (jC a.n b.n) (jC a.copy b.copy)
def Bb(a b:SEvent):Int:=A1 (jC a.kind b.kind) (DJ a.id b.id) (jC a.who b.who)
theorem wj{m:Nat}(a b:SEvent):ak aI (m+4) 135 [ba a,ba b]=some (.int .i64 (Bb a b),[]):=by
 refine an (F:=jo) rfl rfl rfl ?_ (.inr rfl);have c1:=λx y=>Cf (m:=m+1) x y;have o1:=Dn (m:=m) a.id b.id;have o3:=λx y z=>Li (m:=m+2) x y z;generalize ak aI (m+3)=C at*;generalize bc aI=V;simp only[y9,A2]at o1;simp only[ba,dC,jo];refine nx (by simp only[wd,↓reduceIte,Nat.reduceEqDiff,Nat.reduceAdd,O7,c1,o1,o3];rfl) ?_;simp only[wd,↓reduceIte,Bb,DJ]
def x6(l:List SEvent):Prop:=∀(i j:Nat)(x y:SEvent),i<j->l[i]?=some x->l[j]?=some y->¬Bb y x<0
theorem Fj{C:bK}{V:Nat->List PV->List PV->Bool}{c:VC}{i:Nat}{env e:Env}(h:aF C V c env=some (.exit i e)):aF C V (.loop c) env=some (.exit i e):=by
 refine Ac 1099511627775 1 ?_ (by rw[pR]);simp only[dS,h]
theorem CM{C:bK}{V:Nat->List PV->List PV->Bool}{c:VC}{v:PV}{os:List PV}{env:Env}(h:aF C V c env=some (.ret v os)):aF C V (.loop c) env=some (.ret v os):=by
 refine Ac 1099511627775 1 ?_ (by rw[pR]);simp only[dS,h]
theorem FB{l:List SEvent}:cB (aH l)=some (.int .i64 l.length):=lS
theorem vF{k:Nat}{l:List SEvent}{x:SEvent}(h:l[k]?=some x):au 5 (aH l) (.int .i64 (k:Nat))=some (.lptr (dC x)):=Nq h
theorem JS{m:Nat}(l:List SEvent)(hl:l.length<1000000)(hA:x6 l)(hV:∀x y:SEvent,bc aI 135 [ba x,ba y] []=true):ak aI (m+5) 165 [aH l,.int .i64 0,.int .i64 (l.length:Nat),.fn 135 []]=some (.tup [],[]):=by
 refine an (F:=bj) rfl rfl rfl ?_ (.inr rfl);have oc:=λx y=>wj (m:=m) x y;generalize ak aI (m+4)=C at*;generalize bc aI=V at*;simp only[bj];rw[oR];refine nx (by simp only[wd,↓reduceIte];rfl) ?_;rw[cD];refine sJ (gM (n:=l.length-1) (by omega) (λk e=>e 0=aH l/\e 1=.int .i64 0/\e 2=.int .i64 (l.length:Nat)/\e 3=.fn 135 []/\e 8=.int .i64 ((k+1:Nat):Int)) (λe=>True) (λk e hk ⟨h0,h1,h2,h3,h8⟩=>?_) (λe ⟨h0,h1,h2,h3,h8⟩=>?_) ⟨by simp[Env.ofArgs_at],by simp[Env.ofArgs_at],by simp[Env.ofArgs_at],by simp[Env.ofArgs_at],by simp;rfl⟩) (λe _=>?_)
 ·obtain⟨x,hx,_⟩:=aP (l:=l) (k:=k) (by omega);obtain⟨y,hy,_⟩:=aP (l:=l) (k:=k+1) (by omega);have ix:=vF hx;have iy:=vF hy;have lt:=hA k (k+1) x y (by omega) hx hy;have sb:=nR (k:=k+1) (by omega) (by omega);rw[show k+1-1=k by omega]at sb;have o:=oc y x;have v:=hV y x;have ad:=bV (k:=k+1) (by omega);simp only[ba,dC]at o v ix iy;obtain⟨e',hb,f0,f1,f2,f3,f8⟩:∃e',aF C V (.block 1 (.seq (.st [.asg [] [(9,(.v 8))]]) (.block 2 (.loop bC)))) e=some (.norm e')/\e' 0=e 0/\e' 1=e 1/\e' 2=e 2/\e' 3=e 3/\e' 8=e 8:=
   ⟨_,bd (nx (by simp only[wd,↓reduceIte,h8];rfl) (fD (Fj (by
    rw[bC];exact nJ (by simp only[wd,↓reduceIte,Nat.reduceEqDiff,reduceCtorEq,Nat.reduceAdd,O7,h0,h1,h3,ix,iy,sb,o,v,lt,show(0:Int)<((k+1:Nat):Int)by omega,PB];rfl))))),by simp,by simp,by simp,by simp,by simp⟩
  exact⟨_,_,by simp only[wd,↓reduceIte,h2,h8,show((k+1:Nat):Int)<(l.length:Nat)by omega],nx hb (by simp only[wd,↓reduceIte,f8,h8,ad];rfl),by simp[f0,h0],by simp[f1,h1],by simp[f2,h2],by simp[f3,h3],by simp only[wd,↓reduceIte]⟩
 ·refine⟨e,by simp only[wd,↓reduceIte,h2,h8,show¬((l.length-1+1:Nat):Int)<(l.length:Nat)by omega],trivial⟩
 ·simp only[wd]
theorem JZ{m:Nat}(l:List SEvent)(h13:1<=l.length)(hl:l.length<1000000)(hA:x6 l)(hV:∀x y:SEvent,bc aI 135 [ba x,ba y] []=true):ak aI (m+5) 170 [aH l,.int .i64 0,.int .i64 (l.length:Nat),.fn 135 []]=some (.bool true,[]):=by
 refine an (F:=aN) rfl rfl rfl ?_ (.inr rfl);have oc:=λx y=>wj (m:=m) x y;generalize ak aI (m+4)=C at*;generalize bc aI=V at*;simp only[aN];refine nx (by simp only[wd,↓reduceIte];rfl) ?_;rw[oR];refine nx (by simp only[wd,↓reduceIte];rfl) ?_;refine ai (aM (CM ?_));rw[bN];refine nx (by simp only[wd,↓reduceIte,Int.reduceLT];rfl) ?_;refine aM ?_;rw[bO];refine sJ (gM (n:=l.length-1) (by omega) (λk e=>e 0=aH l/\e 1=.int .i64 0/\e 2=.int .i64 (l.length:Nat)/\e 3=.fn 135 []/\e 9=.int .i64 ((k+1:Nat):Int)) (λe=>e 2=.int .i64 (l.length:Nat)/\e 9=.int .i64 (l.length:Nat)) (λk e hk ⟨h0,h1,h2,h3,h9⟩=>?_) (λe ⟨h0,h1,h2,h3,h9⟩=>?_) ⟨by simp[Env.ofArgs_at],by simp[Env.ofArgs_at],by simp[Env.ofArgs_at],by simp[Env.ofArgs_at],by simp;rfl⟩) (λe ⟨h2,h9⟩=>?_)
 ·obtain⟨x,hx,_⟩:=aP (l:=l) (k:=k) (by omega);obtain⟨y,hy,_⟩:=aP (l:=l) (k:=k+1) (by omega);have ix:=vF hx;have iy:=vF hy;have lt:=hA k (k+1) x y (by omega) hx hy;have sb:=nR (k:=k+1) (by omega) (by omega);rw[show k+1-1=k by omega]at sb;have o:=oc y x;have v:=hV y x;have ad:=bV (k:=k+1) (by omega);simp only[ba,dC]at o v ix iy;refine⟨_,_,by simp only[wd,↓reduceIte,Nat.reduceEqDiff,Nat.reduceAdd,Int.reduceNeg,O7,un,h0,h2,h3,h9,ix,iy,sb,o,v,lt,show((k+1:Nat):Int)<(l.length:Nat)by omega,PB];rfl,by simp only[wd,↓reduceIte,Nat.reduceEqDiff,h9,ad];rfl,?_⟩;exact⟨by simp[h0],by simp[h1],by simp[h2],by simp[h3],by simp only[wd,↓reduceIte]⟩
 ·have h9':e 9=.int .i64 (l.length:Nat):=by rw[h9,show l.length-1+1=l.length by omega]
  refine⟨_,by simp only[wd,↓reduceIte,Nat.reduceEqDiff,Int.reduceNeg,un,h2,h9',Int.lt_irrefl];rfl,by simp only[wd,↓reduceIte,Nat.reduceEqDiff,h2],by simp only[wd,↓reduceIte,Nat.reduceEqDiff,h9']⟩
 ·refine ai ?_;simp only[wd,↓reduceIte,h2,h9]
theorem Ab{m:Nat}(l:List SEvent)(hA:x6 l)(hV:∀x y:SEvent,bc aI 135 [ba x,ba y] []=true)(i j:Nat)(hij:i<j)(hj:j<l.length)(s:Int):
  ak aI (m+5) 193 [aH l,.int .i64 (i:Nat),.int .i64 (j:Nat),.lptr [.int .i64 s],.fn 135 []]=some (.tup [.int .i64 (i:Nat),.int .i64 (j:Nat)],[.lptr [.int .i64 s]]):=by
 refine an (F:=bI) rfl rfl rfl ?_ (.inr rfl);have oc:=λx y=>wj (m:=m) x y;generalize ak aI (m+4)=C at*;generalize bc aI=V at*;obtain⟨x,hx,_⟩:=aP (l:=l) (k:=i) (by omega);obtain⟨y,hy,_⟩:=aP (l:=l) (k:=j) hj;have ix:=vF hx;have iy:=vF hy;have lt:=hA i j x y hij hx hy;have o:=oc y x;have v:=hV y x;simp only[ba,dC]at o v ix iy;simp only[bI];refine nx (by simp only[wd,↓reduceIte];rfl) ?_;refine nx (by simp only[wd,↓reduceIte,Nat.reduceEqDiff,reduceCtorEq,Nat.reduceAdd,O7,ix,iy,o,v,lt,PB];rfl) ?_;simp only[wd,↓reduceIte,Nat.reduceEqDiff]
theorem z9{m:Nat}(l:List SEvent)(hA:x6 l)(hV:∀x y:SEvent,bc aI 135 [ba x,ba y] []=true)(i j k:Nat)(hij:i<j)(hjk:j<k)(hk:k<l.length)(s:Int):
  ak aI (m+6) 183 [aH l,.int .i64 (i:Nat),.int .i64 (j:Nat),.int .i64 (k:Nat),.lptr [.int .i64 s],.fn 135 []]=some (.int .i64 (j:Nat),[.lptr [.int .i64 s]]):=by
 refine an (F:=bJ) rfl rfl rfl ?_ (.inr rfl);have o1:=Ab (m:=m) l hA hV i j hij (by omega) s;have o2:=Ab (m:=m) l hA hV j k hjk hk s;generalize ak aI (m+5)=C at*;generalize bc aI=V at*;simp only[bJ];refine nx (by simp only[wd,↓reduceIte,Nat.reduceEqDiff,reduceCtorEq,Nat.reduceAdd,o1,o2];rfl) ?_;simp only[wd,↓reduceIte,Nat.reduceEqDiff]
theorem EH{m:Nat}(l:List SEvent)(hl:l.length<1000000)(hA:x6 l)(hV:∀x y:SEvent,bc aI 135 [ba x,ba y] []=true)(i:Nat)(hi:1<=i)(hk:i+1<l.length)(s:Int):
  ak aI (m+7) 182 [aH l,.int .i64 (i:Nat),.lptr [.int .i64 s],.fn 135 []]=some (.int .i64 (i:Nat),[.lptr [.int .i64 s]]):=by
 refine an (F:=bg) rfl rfl rfl ?_ (.inr rfl);have o1:=z9 (m:=m) l hA hV (i-1) i (i+1) (by omega) (by omega) hk s;have sb:=nR (k:=i) hi (by omega);have ad:=bV (k:=i) (by omega);generalize ak aI (m+6)=C at*;generalize bc aI=V at*;simp only[bg];refine nx (by simp only[wd,↓reduceIte,Nat.reduceEqDiff,reduceCtorEq,Nat.reduceAdd,o1,sb,ad];rfl) ?_;simp only[wd,↓reduceIte,Nat.reduceEqDiff]
theorem Oz(a:Nat)(ha:a<1000000):aY .quo .i64 (a:Int) .i64 4=some (.int .i64 ((a/4:Nat):Int)):=by
 simp only[aY];rw[Pd (by decide),Pd (by omega)];have:(4:Int)=((4:Nat):Int):=rfl;rw[this,<-Int.ofNat_tdiv];generalize hq:a/4=q at*;rw[sA (by omega) (by omega)]
theorem Fw(a b:Nat)(ha:a<1000000)(hb:b<100):aY .mul .i64 (a:Int) .i64 (b:Int)=some (.int .i64 ((a*b:Nat):Int)):=by
 have h:a*b<=1000000*100:=Re (by omega) (by omega);simp only[aY];rw[Pd (by decide),<-Int.natCast_mul];generalize a*b=q at*;rw[sA (by omega) (by omega)]
theorem ER{m:Nat}(l:List SEvent)(h13:13<=l.length)(hl:l.length<1000000)(hA:x6 l)(hV:∀x y:SEvent,bc aI 135 [ba x,ba y] []=true):
  ak aI (m+8) 168 [aH l,.int .i64 0,.int .i64 (l.length:Nat),.fn 135 []]=some (.tup [.int .i64 ((l.length/4*2:Nat):Int),.int .i64 1],[]):=by
 refine an (F:=bo) rfl rfl rfl ?_ (.inr rfl);have hq:3<=l.length/4:=by omega
 have a1:=λi hi hk=>EH (m:=m) l hl hA hV i hi hk 0;have m1:=z9 (m:=m+1) l hA hV (l.length/4) (l.length/4*2) (l.length/4*3) (by omega) (by omega) (by omega) 0;have q4:=Oz l.length hl;have x1:=Fw (l.length/4) 1 (by omega) (by omega);have x2:=Fw (l.length/4) 2 (by omega) (by omega);have x3:=Fw (l.length/4) 3 (by omega) (by omega);have s0:aY .sub .i64 (l.length:Nat) .i64 0=some (.int .i64 (l.length:Nat)):=by rw[Ck (by omega) (by omega)];simp
 have ad:=λ(k:Nat)(hk:k<4000000)=>(show aY .add .i64 0 .i64 (k:Int)=some (.int .i64 (k:Int))by rw[zW (by omega) (by omega)];simp);have d1:=ad (l.length/4) (by omega);have d2:=ad (l.length/4*2) (by omega);have d3:=ad (l.length/4*3) (by omega);rw[Nat.mul_one]at x1;have b1:=a1 (l.length/4) (by omega) (by omega);generalize ak aI (m+7)=C at*;generalize bc aI=V at*;simp only[bo];have e1:((1:Nat):Int)=1:=rfl;have e2:((2:Nat):Int)=2:=rfl;have e3:((3:Nat):Int)=3:=rfl;rw[e1]at x1;rw[e2]at x2;rw[e3]at x3;refine nx (by simp only[wd,↓reduceIte,Nat.reduceEqDiff,s0,q4,x1,x2,x3,d1,d2,d3];rfl) ?_;have g8:(8:Int)<=(l.length:Nat):=by omega
 by_cases h50:50<=l.length
 ·have b1:=a1 (l.length/4) (by omega) (by omega);have b2:=a1 (l.length/4*2) (by omega) (by omega);have b3:=a1 (l.length/4*3) (by omega) (by omega);have g50:(50:Int)<=(l.length:Nat):=by omega
  refine nx (by simp only[wd,↓reduceIte,Nat.reduceEqDiff,reduceCtorEq,Nat.reduceAdd,g8,g50,b1,b2,b3,m1];rfl) ?_;refine nx (by simp only[wd,↓reduceIte,Nat.reduceEqDiff];rfl) ?_;refine aM ?_;refine nx (by simp only[wd,↓reduceIte];rfl) ?_;simp only[wd,↓reduceIte,Nat.reduceEqDiff]
 ·have g50:¬(50:Int)<=(l.length:Nat):=by omega
  refine nx (by simp only[wd,↓reduceIte,Nat.reduceEqDiff,reduceCtorEq,Nat.reduceAdd,g8,g50,m1];rfl) ?_;refine nx (by simp only[wd,↓reduceIte,Nat.reduceEqDiff];rfl) ?_;refine aM ?_;refine nx (by simp only[wd,↓reduceIte];rfl) ?_;simp only[wd,↓reduceIte,Nat.reduceEqDiff]
theorem Ll{m:Nat}(l:List SEvent)(hl:l.length<1000000)(hA:x6 l)(hV:∀x y:SEvent,bc aI 135 [ba x,ba y] []=true)(z:Int)(hz:12<l.length->z≠0):
  ak aI (m+9) 147 [aH l,.int .i64 0,.int .i64 (l.length:Nat),.int .i64 z,.fn 135 []]=some (.tup [],[]):=by
 refine an (F:=bE) rfl rfl rfl ?_ (.inr rfl);have i1:=JS (m:=m+3) l hl hA hV;have p1:=λh=>JZ (m:=m+3) l h hl hA hV;have c1:=λh=>ER (m:=m) l h hl hA hV;have s0:aY .sub .i64 (l.length:Nat) .i64 0=some (.int .i64 (l.length:Nat)):=by rw[Ck (by omega) (by omega)];simp
 generalize ak aI (m+8)=C at*;generalize bc aI=V at*;simp only[bE];refine nx (by simp only[wd,↓reduceIte];rfl) ?_;refine aM (CM ?_);rw[dq];refine aM ?_;refine nx (by simp only[wd,↓reduceIte,Nat.reduceEqDiff,s0];rfl) ?_;by_cases h12:l.length<=12
 ·have g:(l.length:Int)<=12:=by omega
  refine ai ?_;simp only[wd,↓reduceIte,Nat.reduceEqDiff,reduceCtorEq,g,i1]
 ·have g:¬(l.length:Int)<=12:=by omega
  have hz:=hz (by omega);have p1:=p1 (by omega);have c1:=c1 (by omega);refine nx (by simp only[wd,↓reduceIte,g];rfl) ?_;refine nx (by simp only[wd,↓reduceIte,Nat.reduceEqDiff,hz];rfl) ?_;refine nx (by simp only[wd,↓reduceIte,Nat.reduceEqDiff,Int.reduceNeg,un];rfl) ?_;refine nx (by simp only[wd,↓reduceIte,Nat.reduceEqDiff,reduceCtorEq,c1];rfl) ?_;refine nx (by simp only[wd,↓reduceIte,Nat.reduceEqDiff,Int.reduceEq];rfl) ?_;refine ai ?_;simp only[wd,↓reduceIte,Nat.reduceEqDiff,reduceCtorEq,p1]
theorem Af{n:Nat}(h:0<n):∀f k,0<f∨0<k->uz f k n≠0
 |0,k,hf=>by simp only[uz];omega
 | f+1,k,hf=>by
  simp only[uz];split
  ·rename_i hk;cases k with
   |zero=>simp at hk;omega
   |succ k=>omega
  ·exact Af h f (k+1) (.inr (by omega))
theorem H8{m:Nat}(n:Nat)(h:n<256):ak aI (m+1) 174 [.int .u64 (n:Nat)]=some (.int .i64 (uz 8 0 n:Nat),[]):=by
 refine an (F:=zj) rfl rfl rfl ?_ (.inr rfl);generalize ak aI m=C;generalize bc aI=V;have e:=yJ (env:=Env.ofArgs [.int .u64 (n:Nat)]) (n:=n) (by simp[Env.ofArgs]) 8 0;have h1:aY .lss .u64 (n:Int) .u64 256=some (.bool true):=by simp[aY];omega
 have h2:aY .geq .u64 (n:Int) .u64 0=some (.bool true):=by simp[aY]
 simp only[zj];simp only[wd,h1,h2,e]
theorem KY{m:Nat}(n:Nat)(h:n<256):ak aI (m+2) 148 [.int .u64 (n:Nat)]=some (.int .i64 (uz 8 0 n:Nat),[]):=by
 refine an (F:=gz) rfl rfl rfl ?_ (.inr rfl);have e:=H8 (m:=m) n h;generalize ak aI (m+1)=C at*;generalize bc aI=V;simp only[gz];refine nx (by simp only[wd];rfl) ?_;refine nx (by simp only[wd];rfl) ?_;simp only[wd,↓reduceIte,e]
theorem Jz{m:Nat}(l:List SEvent)(hl:l.length<256)(hA:x6 l):ak aI (m+10) 134 [aH l,.fn 135 []]=some (.tup [],[]):=by
 refine an (F:=bn) rfl rfl rfl ?_ (.inr rfl);have p:=Ll (m:=m) l (by omega) hA (λx y=>rfl) (uz 8 0 l.length:Nat) (λh=>by have:=Af (n:=l.length) (by omega) 8 0 (.inl (by omega));omega);have e:=KY (m:=m+7) l.length hl;generalize ak aI (m+9)=C at*;generalize bc aI=V;have le:=FB (l:=l);have tu:kR .u64 (.int .i64 (l.length:Nat))=some (.int .u64 (l.length:Nat)):=by
  simp only[kR,O5,PV.int.injEq,true_and];rw[IntKind.wrap_u64];omega
 simp only[bn];refine nx (by simp only[wd,↓reduceIte,Nat.reduceEqDiff,reduceCtorEq,le,tu,e,p];rfl) ?_;simp only[wd]
def gZ(b:SBudget)(w:ay)(e:SEvent):Bool:=fe (dQ b w) e.kind&&nA w e
def mA(w:ay)(k:Int):List SEvent:=w.mail.map λm=>⟨k,m.id,0⟩
def mT(w:ay)(k:Int):List SEvent:=(List.range w.actors.length).map λj=>⟨k,tU,(j:Nat)⟩
def tT(b:SBudget)(w:ay):List SEvent:=(([1,2,3].flatMap (mA w))++[4,5].flatMap (mT w)).filter (gZ b w)
theorem yF{l:List SEvent}{x:SEvent}(h:l.length<1000000000):nE 5 (aH l) (.lst [ba x] false)=some (aH (l++[x])):=by
 simp only[aH,nE];rw[O9 ⟨rfl,by simp only[PU,PJ,PT,bG];omega⟩,QR];rfl
theorem wD(l:List SEvent):(aH l).fits none=true:=rfl
theorem xS(l:List SEvent):(aH l).isCell=true:=rfl
theorem EA{m:Nat}(lb:SBudget)(w:ay)(hw:eW w)(ht:rR w)(e:SEvent)(out:List SEvent)(hl:out.length<1000000000):
  ak aI (m+5) 146 [ba e,.lptr (aE lb),.lptr (aD w),.lptr [aH out]]=some (.tup [],[.lptr [aH (if(fe lb e.kind&&nA w e)=true then out++[e]else out)]]):=by
 refine an (F:=jh) rfl rfl rfl ?_ (.inr rfl);have p1:=Gx (m:=m+3) lb e.kind;have c1:=IK (m:=m) w hw ht e;generalize ak aI (m+4)=C at*;generalize bc aI=V;have ap:=yF (x:=e) hl;simp only[aT,aE,aX,aD,ba,dC]at p1 c1 ap;simp only[aE,aD,ba,dC,jh];cases hp:fe lb e.kind with
 |false=>
  rw[hp]at p1;simp only[PX,Ps,PS];refine nx (nx (by simp only[wd,↓reduceIte,Nat.reduceEqDiff,Nat.reduceAdd,O7,p1,wD,xS];rfl) (by simp only[wd,↓reduceIte,Nat.reduceEqDiff];rfl)) ?_;simp only[wd,↓reduceIte,Nat.reduceEqDiff,wD,xS]
 | true=>
  rw[hp]at p1;cases hc:nA w e with
  |false=>
   rw[hc]at c1;simp only[Q4,Ps,PS];refine nx (nx (by simp only[wd,↓reduceIte,Nat.reduceEqDiff,Nat.reduceAdd,O7,p1,c1,wD,xS];rfl) (by simp only[wd,↓reduceIte,Nat.reduceEqDiff];rfl)) ?_;simp only[wd,↓reduceIte,Nat.reduceEqDiff,wD,xS]
  |true=>
   rw[hc]at c1;simp only[PE,PQ];refine nx (nx (by simp only[wd,↓reduceIte,Nat.reduceEqDiff,Nat.reduceAdd,O7,p1,c1,wD,xS];rfl) (by simp only[wd,↓reduceIte,Nat.reduceEqDiff,Nat.reduceAdd,O7,ap,wD,xS];rfl)) ?_;simp only[wd,↓reduceIte,wD,xS]
theorem oA{α:Type}{l:List α}{k:Nat}{x:α}{p:α->Bool}(h:l[k]?=some x):(l.take (k+1)).filter p=if p x=true then(l.take k).filter p++[x]else(l.take k).filter p:=by
 rw[pS h,QX];by_cases hp:p x=true<;>simp[List.filter,hp]
theorem FO{m:Nat}(b:SBudget)(w:ay)(hw:eW w)(ht:rR w)(hm:w.mail.length<1000000)(kind:Int)(out:List SEvent)(hl:out.length<100000000){e:Env}(h3:e 3=.lptr (aD w))(h4:e 4=.lptr [aH out])(h5:e 5=.lptr (aE (dQ b w)))(h8:e 8=.int .i64 kind){L:PV}{z y:PV}(h18:e 18=L)(h19:e 19=z)(h20:e 20=y)(h25:e 25=cg w.mail)(h26:e 26=.int .i64 (w.mail.length:Nat))(h27:e 27=.int .i64 0):
  ∃e',aF (ak aI (m+5)) (bc aI) (.block 2 (.loop iA)) e=some (.norm e')/\(e' 3=.lptr (aD w)/\e' 5=.lptr (aE (dQ b w))/\e' 18=L/\e' 19=z/\e' 20=y/\e' 4=.lptr [aH (out++(mA w kind).filter (gZ b w))]):=by
 have pv:=λe out hl=>EA (m:=m) (dQ b w) w hw ht e out hl;generalize ak aI (m+5)=C at*;generalize bc aI=V at*;rw[iA];have lM:(mA w kind).length=w.mail.length:=by simp[mA]
 have fin:(mA w kind).take w.mail.length=mA w kind:=by rw[<-lM,List.take_length]
 rw[<-fin];refine pn (vi:=27) (vn:=26) (n:=w.mail.length) (by omega) (λk e=>e 25=cg w.mail/\e 26=.int .i64 (w.mail.length:Nat)/\e 8=.int .i64 kind/\(e 3=.lptr (aD w)/\e 5=.lptr (aE (dQ b w))/\e 18=L/\e 19=z/\e 20=y/\e 4=.lptr [aH (out++((mA w kind).take k).filter (gZ b w))])) (λk e v h=>by simpa using h) (λk e h=>h.2.1) (λk e hk ⟨s25,s26,s8,s3,s5,s18,s19,s20,s4⟩ hv=>?_) ⟨h25,h26,h8,h3,h5,h18,h19,h20,by simp[h4]⟩ h27|>.imp λe' h=>⟨h.1,h.2.2.2.2⟩;obtain⟨x,hx,_⟩:=aP hk;have ix:=iS hx;have hE:(mA w kind)[k]?=some ⟨kind,x.id,0⟩:=by simp[mA,hx]
 have hfl:(((mA w kind).take k).filter (gZ b w)).length<=k:=Qs (Qq _ _) (by rw[Pw];omega);have p:=pv ⟨kind,x.id,0⟩ (out++((mA w kind).take k).filter (gZ b w)) (by rw[Pu];omega);have hq:(if(fe (dQ b w) kind&&nA w ⟨kind,x.id,0⟩)=true then out++((mA w kind).take k).filter (gZ b w)++[⟨kind,x.id,0⟩]else out++((mA w kind).take k).filter (gZ b w))=out++((mA w kind).take (k+1)).filter (gZ b w):=by
  rw[oA hE];by_cases h:gZ b w ⟨kind,x.id,0⟩=true
  ·rw[O9 (show(fe (dQ b w) kind&&nA w ⟨kind,x.id,0⟩)=true from h),O9 h,P6]
  ·rw[Pd (show¬(fe (dQ b w) kind&&nA w ⟨kind,x.id,0⟩)=true from h),Pd h]
 simp only at p;rw[hq]at p;simp only[ba,dC,aE,aD,mG]at p ix s3 s5;refine⟨_,bd (by simp only[wd,↓reduceIte,Nat.reduceEqDiff,Nat.reduceAdd,O7,s25,hv,ix,s8,s3,s5,s4,p,wD,xS];rfl),?_,by simp[hv]⟩;refine⟨by simp[s25],by simp[s26],by simp[s8],by simp[s3,aD],by simp[s5,aE],by simp[s18],by simp[s19],by simp[s20],by simp only[wd,↓reduceIte]⟩
theorem FU{m:Nat}(b:SBudget)(w:ay)(hw:eW w)(ht:rR w)(hm:w.actors.length<1000000)(kind:Int)(out:List SEvent)(hl:out.length<100000000){e:Env}(h3:e 3=.lptr (aD w))(h4:e 4=.lptr [aH out])(h5:e 5=.lptr (aE (dQ b w)))(h12:e 12=.int .i64 kind){L:PV}{z y:PV}(h39:e 39=L)(h40:e 40=z)(h41:e 41=y)(h47:e 47=.int .i64 (w.actors.length:Nat))(h48:e 48=.int .i64 0):
  ∃e',aF (ak aI (m+5)) (bc aI) (.block 6 (.loop lE)) e=some (.norm e')/\(e' 3=.lptr (aD w)/\e' 5=.lptr (aE (dQ b w))/\e' 39=L/\e' 40=z/\e' 41=y/\e' 4=.lptr [aH (out++(mT w kind).filter (gZ b w))]):=by
 have pv:=λe out hl=>EA (m:=m) (dQ b w) w hw ht e out hl;generalize ak aI (m+5)=C at*;generalize bc aI=V at*;rw[lE];have lM:(mT w kind).length=w.actors.length:=by simp[mT]
 have fin:(mT w kind).take w.actors.length=mT w kind:=by rw[<-lM,List.take_length]
 rw[<-fin];refine pn (vi:=48) (vn:=47) (n:=w.actors.length) (by omega) (λk e=>e 47=.int .i64 (w.actors.length:Nat)/\e 12=.int .i64 kind/\(e 3=.lptr (aD w)/\e 5=.lptr (aE (dQ b w))/\e 39=L/\e 40=z/\e 41=y/\e 4=.lptr [aH (out++((mT w kind).take k).filter (gZ b w))])) (λk e v h=>by simpa using h) (λk e h=>h.1) (λk e hk ⟨s47,s12,s3,s5,s39,s40,s41,s4⟩ hv=>?_) ⟨h47,h12,h3,h5,h39,h40,h41,by simp[h4]⟩ h48|>.imp λe' h=>⟨h.1,h.2.2.2⟩;have hE:(mT w kind)[k]?=some ⟨kind,tU,(k:Nat)⟩:=by simp[mT,hk]
 have hfl:(((mT w kind).take k).filter (gZ b w)).length<=k:=Qs (Qq _ _) (by rw[Pw];omega);have p:=pv ⟨kind,tU,(k:Nat)⟩ (out++((mT w kind).take k).filter (gZ b w)) (by rw[Pu];omega);have hq:(if(fe (dQ b w) kind&&nA w ⟨kind,tU,(k:Nat)⟩)=true then out++((mT w kind).take k).filter (gZ b w)++[⟨kind,tU,(k:Nat)⟩]else out++((mT w kind).take k).filter (gZ b w))=out++((mT w kind).take (k+1)).filter (gZ b w):=by
  rw[oA hE];by_cases h:gZ b w ⟨kind,tU,(k:Nat)⟩=true
  ·rw[O9 (show(fe (dQ b w) kind&&nA w ⟨kind,tU,(k:Nat)⟩)=true from h),O9 h,P6]
  ·rw[Pd (show¬(fe (dQ b w) kind&&nA w ⟨kind,tU,(k:Nat)⟩)=true from h),Pd h]
 simp only at p;rw[hq]at p;simp only[ba,dC,aE,aD,tU]at p s3 s5;refine⟨_,bd (by simp only[wd,↓reduceIte,Nat.reduceEqDiff,Nat.reduceAdd,hv,s12,s3,s5,s4,p,wD,xS];rfl),?_,by simp[hv]⟩;refine⟨by simp[s47],by simp[s12],by simp[s3,aD],by simp[s5,aE],by simp[s39],by simp[s40],by simp[s41],by simp only[wd,↓reduceIte]⟩
theorem K0{m:Nat}(b:SBudget)(w:ay)(hw:eW w)(ht:rR w)(hm:w.mail.length<1000000)(ha:w.actors.length<1000000):ak aI (m+6) 133 [aT b,aX w]=some (aH (tT b w),[]):=by
 refine an (F:=lT) rfl rfl rfl ?_ (.inl rfl);have l1:=A3 (m:=m+3) b w;have rM:=λkind out hl e h3 h4 h5 h8 L z y h18 h19 h20 h25 h26 h27=>FO (m:=m) b w hw ht hm kind out hl (e:=e) h3 h4 h5 h8 (L:=L) (z:=z) (y:=y) h18 h19 h20 h25 h26 h27;have rA:=λkind out hl e h3 h4 h5 h12 L z y h39 h40 h41 h47 h48=>FU (m:=m) b w hw ht ha kind out hl (e:=e) h3 h4 h5 h12 (L:=L) (z:=z) (y:=y) h39 h40 h41 h47 h48;generalize ak aI (m+5)=C at*;generalize bc aI=V at*;have fb:∀b:SBudget,(PV.agg [.int .i64 b.drop,.int .i64 b.dup,.int .i64 b.time,.int .i64 b.crash]).fits (some 4)=true:=λ_=>rfl;have e0:aH []=.lst [] false:=rfl;simp only[aT,aE,aX,aD]at l1;simp only[aT,aX,lT];refine nx (by simp only[wd,↓reduceIte,Nat.reduceEqDiff,Nat.reduceAdd,O7,aE,aD,l1];rfl) ?_;rw[oR];refine nx (by simp only[wd,↓reduceIte];rfl) ?_;rw[ow];have lK:∀k,k<=3->(([1,2,3]:List Int).take k).length<=3:=λk hk=>by rw[Pw];simp;omega
 have fM:∀ks:List Int,ks.length<=3->((ks.flatMap (mA w)).filter (gZ b w)).length<100000000:=λks hk=>by
  have:(ks.flatMap (mA w)).length=ks.length*w.mail.length:=by
   induction ks with
   |nil=>simp
   |cons x ks ih=>simp only[QI,Pu,mA,PU]at ih⊢;rw[ih (by simp at hk;omega),PJ,Nat.succ_mul];omega
  have h2:=Qq (gZ b w) (ks.flatMap (mA w));have h3:ks.length*w.mail.length<=3*1000000:=Re hk (by omega);omega
 refine sJ (pn (vi:=20) (vn:=19) (n:=3) (by omega) (λk e=>e 3=.lptr (aD w)/\e 5=.lptr (aE (dQ b w))/\e 18=eI [1,2,3]/\e 19=.int .i64 3/\e 4=.lptr [aH (((([1,2,3]:List Int).take k).flatMap (mA w)).filter (gZ b w))]) (λk e v h=>by simpa using h) (λk e h=>h.2.2.2.1) (λk e hk ⟨s3,s5,s18,s19,s4⟩ hv=>?_) ⟨by simp[aD],by simp[aE],by simp[eI],by simp,by simp[e0]⟩ (by simp)) (λe ⟨s3,s5,s18,s19,s4⟩=>?_)
 ·obtain⟨kd,hkd,_⟩:=aP (l:=([1,2,3]:List Int)) hk;have ik:=jt hkd;have lms:cB (cg w.mail)=some (.int .i64 (w.mail.length:Nat)):=pa;have hnext:((([1,2,3]:List Int).take (k+1)).flatMap (mA w)).filter (gZ b w)=((([1,2,3]:List Int).take k).flatMap (mA w)).filter (gZ b w)++(mA w kd).filter (gZ b w):=by
   rw[pS hkd,List.flatMap_append,QX];simp
  obtain⟨e1,r1,r3,r5,r18,r19,r20,r4⟩:∃e1,aF C V (.seq (.st [.asg [] [(8,(.ld none (.ia 1 (.v 18) (.v 20)) 0))],.asg [] [(27,(N 0)),(26,(.len (.ld none (.v 3) 1))),(25,(.ld none (.v 3) 1))]]) (.block 2 (.loop iA))) e=some (.norm e1)/\(e1 3=.lptr (aD w)/\e1 5=.lptr (aE (dQ b w))/\e1 18=eI [1,2,3]/\e1 19=.int .i64 3/\e1 20=.int .i64 (k:Nat)/\e1 4=.lptr [aH (((([1,2,3]:List Int).take k).flatMap (mA w)).filter (gZ b w)++(mA w kd).filter (gZ b w))]):=by
   have s3':=s3;simp only[aD]at s3';have st:aF C V (.st [.asg [] [(8,(.ld none (.ia 1 (.v 18) (.v 20)) 0))],.asg [] [(27,(N 0)),(26,(.len (.ld none (.v 3) 1))),(25,(.ld none (.v 3) 1))]]) e=some (.norm ((((e.set 8 (.int .i64 kd)).set 27 (.int .i64 0)).set 26 (.int .i64 (w.mail.length:Nat))).set 25 (cg w.mail))):=by simp only[wd,↓reduceIte,Nat.reduceEqDiff,s18,hv,ik,s3',lms]
   obtain⟨e1,q1,q2⟩:=rM kd _ (fM (([1,2,3]:List Int).take k) (lK k (by omega))) ((((e.set 8 (.int .i64 kd)).set 27 (.int .i64 0)).set 26 (.int .i64 (w.mail.length:Nat))).set 25 (cg w.mail)) (by simp[s3]) (by simp[s4]) (by simp[s5]) (by simp) (eI [1,2,3]) (.int .i64 3) (.int .i64 (k:Nat)) (by simp[s18]) (by simp[s19]) (by simp[hv]) (by simp) (by simp) (by simp);exact⟨e1,nx st q1,q2⟩
  rw[hnext];exact⟨e1,bd r1,⟨r3,r5,r18,r19,r4⟩,r20⟩
 ·rw[show(([1,2,3]:List Int).take 3)=[1,2,3]from rfl]at s4;rw[oR];refine nx (by simp only[wd,↓reduceIte];rfl) ?_;rw[pf];have f0:=fM [1,2,3] (by simp);generalize h0:(([1,2,3]:List Int).flatMap (mA w)).filter (gZ b w)=o0 at*;have fA:∀ks:List Int,ks.length<=2->((ks.flatMap (mT w)).filter (gZ b w)).length<10000000:=λks hk=>by
   have:(ks.flatMap (mT w)).length=ks.length*w.actors.length:=by
    induction ks with
    |nil=>simp
    |cons x ks ih=>simp only[QI,Pu,mT,PU,List.length_range]at ih⊢;rw[ih (by simp at hk;omega),PJ,Nat.succ_mul];omega
   have h2:=Qq (gZ b w) (ks.flatMap (mT w));have h3:ks.length*w.actors.length<=2*1000000:=Re hk (by omega);omega
  have f1:o0.length<=3*1000000:=by
   rw[<-h0];refine Qs (Qq _ _) ?_;simp only[QI,List.flatMap_nil,Pu,PT,mA,PU];omega
  refine sJ (pn (vi:=41) (vn:=40) (n:=2) (by omega) (λk e=>e 3=.lptr (aD w)/\e 5=.lptr (aE (dQ b w))/\e 39=eI [4,5]/\e 40=.int .i64 2/\e 4=.lptr [aH (o0++((([4,5]:List Int).take k).flatMap (mT w)).filter (gZ b w))]) (λk e v h=>by simpa using h) (λk e h=>h.2.2.2.1) (λk e hk ⟨s3,s5,s39,s40,s4⟩ hv=>?_) ⟨by simp[s3],by simp[s5],by simp[eI],by simp,by simp[s4]⟩ (by simp)) (λe ⟨s3,s5,s39,s40,s4⟩=>?_)
  ·obtain⟨kd,hkd,_⟩:=aP (l:=([4,5]:List Int)) hk;have ik:=jt hkd;have lms:cB (dB w.actors)=some (.int .i64 (w.actors.length:Nat)):=bw;have lK:(([4,5]:List Int).take k).length<=2:=by rw[Pw];simp;omega
   have fk:=fA _ lK;have hnext:o0++((([4,5]:List Int).take (k+1)).flatMap (mT w)).filter (gZ b w)=(o0++((([4,5]:List Int).take k).flatMap (mT w)).filter (gZ b w))++(mT w kd).filter (gZ b w):=by
    rw[pS hkd,List.flatMap_append,QX];simp
   have s3':=s3;simp only[aD]at s3';have st:aF C V (.st [.asg [] [(12,(.ld none (.ia 1 (.v 39) (.v 41)) 0))],.asg [] [(48,(N 0)),(47,(.len (.ld none (.v 3) 0)))]]) e=some (.norm (((e.set 12 (.int .i64 kd)).set 48 (.int .i64 0)).set 47 (.int .i64 (w.actors.length:Nat)))):=by simp only[wd,↓reduceIte,Nat.reduceEqDiff,s39,hv,ik,s3',lms]
   obtain⟨e1,q1,r3,r5,r39,r40,r41,r4⟩:=rA kd (o0++((([4,5]:List Int).take k).flatMap (mT w)).filter (gZ b w)) (by rw[Pu];omega) (((e.set 12 (.int .i64 kd)).set 48 (.int .i64 0)).set 47 (.int .i64 (w.actors.length:Nat))) (by simp[s3]) (by simp[s4]) (by simp[s5]) (by simp) (eI [4,5]) (.int .i64 2) (.int .i64 (k:Nat)) (by simp[s39]) (by simp[s40]) (by simp[hv]) (by simp) (by simp);rw[hnext];exact⟨e1,bd (nx st q1),⟨r3,r5,r39,r40,r4⟩,r41⟩
  ·rw[show(([4,5]:List Int).take 2)=[4,5]from rfl]at s4;refine nx (by simp only[wd];rfl) ?_;have ha:tT b w=o0++(([4,5]:List Int).flatMap (mT w)).filter (gZ b w):=by
    unfold tT;rw[QX,h0]
   rw[ha];simp only[wd,↓reduceIte,s4,wD]
theorem xE(a b:SID):gg a b=true↔a.frm<b.frm∨(a.frm=b.frm/\(a.n<b.n∨(a.n=b.n/\a.copy<b.copy))):=by
 unfold gg;split
 ·rename_i h;simp only[PG];omega
 ·rename_i h;split
  ·rename_i h2;simp only[PG];omega
  ·rename_i h2;simp only[PG];omega
theorem xg{l:List b6}(h:iB l=true):∀(d i:Nat)(x y:b6),l[i]?=some x->l[i+d+1]?=some y->gg x.id y.id=true
 |0,i,x,y,hx,hy=>by
  have:=Qb h i (List.getElem?_eq_some_iff.1 hx).1;unfold mF at this;rw[hx,hy]at this;exact this
 |d+1,i,x,y,hx,hy=>by
  have hlt:=(List.getElem?_eq_some_iff.1 hy).1;obtain⟨z,hz,_⟩:=aP (l:=l) (k:=i+d+1) (by omega);have h1:=xg h d i x z hx hz;have h2:=Qb h (i+d+1) (by omega);unfold mF at h2;rw[hz,show i+d+1+1=i+(d+1)+1 by omega,hy]at h2;have h2':gg z.id y.id=true:=h2;rw[xE]at h1 h2'⊢;omega
def RE(x y:SEvent):Prop:=¬Bb y x<0
theorem vA{a b:Int}(h:b<a):jC a b=1:=by unfold jC;rw[Pd (by omega),O9 h]
theorem oO(a:Int):jC a a=0:=by unfold jC;rw[Pd (by omega),Pd (by omega)]
theorem RE.kind{x y:SEvent}(h:x.kind<y.kind):RE x y:=by
 unfold RE Bb A1;rw[vA h];simp
theorem RE.id{x y:SEvent}(hk:x.kind=y.kind)(h:gg x.id y.id=true):RE x y:=by
 have:DJ y.id x.id=1:=by
  unfold DJ A1;rw[xE]at h;rcases h with h|⟨h,h2|⟨h2,h3⟩⟩
  ·rw[vA h];simp
  ·rw[h,oO,vA h2];simp
  ·rw[h,h2,oO,oO,vA h3];simp
 unfold RE Bb A1;rw[hk,oO,this];simp
theorem RE.who{x y:SEvent}(hk:x.kind=y.kind)(hi:x.id=y.id)(h:x.who<y.who):RE x y:=by
 have:DJ y.id x.id=0:=by
  unfold DJ A1;rw[hi,oO,oO,oO];simp
 unfold RE Bb A1;rw[hk,oO,this,vA h];simp
theorem BT{w:ay}(h:iB w.mail=true)(k:Int):(mA w k).Pairwise RE:=by
 unfold mA;rw[List.pairwise_map,List.pairwise_iff_getElem];intro i j hi hj hij;refine RE.id rfl (xg h (j-i-1) i _ _ (Pa hi) ?_);rw[show i+(j-i-1)+1=j by omega];exact Pa hj
theorem GF(w:ay)(k:Int):(mT w k).Pairwise RE:=by
 unfold mT;rw[List.pairwise_map,List.pairwise_iff_getElem];intro i j hi hj hij;refine RE.who rfl rfl ?_;simp only[List.getElem_range];omega
theorem mN{w:ay}{k:Int}{x:SEvent}(h:x∈mA w k):x.kind=k:=by
 obtain⟨_,_,rfl⟩:=List.mem_map.1 h;rfl
theorem qR{w:ay}{k:Int}{x:SEvent}(h:x∈mT w k):x.kind=k:=by
 obtain⟨_,_,rfl⟩:=List.mem_map.1 h;rfl
theorem Fm{b:SBudget}{w:ay}(h:iB w.mail=true):x6 (tT b w):=by
 have pw:(tT b w).Pairwise RE:=by
  unfold tT;refine List.Pairwise.filter _ ?_;simp only[QI,List.flatMap_nil,PB];refine List.pairwise_append.2 ⟨List.pairwise_append.2 ⟨BT h 1,List.pairwise_append.2 ⟨BT h 2,BT h 3,λx hx y hy=>?_⟩,λx hx y hy=>?_⟩,List.pairwise_append.2 ⟨GF w 4,GF w 5,λx hx y hy=>?_⟩,λx hx y hy=>?_⟩
  ·exact RE.kind (by rw[mN hx,mN hy];decide)
  ·rcases List.mem_append.1 hy with hy|hy<;>exact RE.kind (by rw[mN hx,mN hy];decide)
  ·exact RE.kind (by rw[qR hx,qR hy];decide)
  ·rcases List.mem_append.1 hx with hx|hx
   ·rcases List.mem_append.1 hy with hy|hy<;>exact RE.kind (by rw[mN hx,qR hy];decide)
   ·rcases List.mem_append.1 hx with hx|hx<;>rcases List.mem_append.1 hy with hy|hy<;>exact RE.kind (by rw[mN hx,qR hy];decide)
 intro i j x y hij hx hy;obtain⟨hi,rfl⟩:=List.getElem?_eq_some_iff.1 hx;obtain⟨hj,rfl⟩:=List.getElem?_eq_some_iff.1 hy;exact List.pairwise_iff_getElem.1 pw i j hi hj hij
theorem z7(b:SBudget)(w:ay):(tT b w).length<=3*w.mail.length+2*w.actors.length:=by
 refine Qs (Qq _ _) ?_;simp only[QI,List.flatMap_nil,Pu,PT,mA,mT,PU,List.length_range];omega
noncomputable def IC (p:SProg) (b:SBudget) (w:ay):List SEvent:=if iu p w=true/\tS b=true then tT b w else[]
theorem zh{p:SProg}{w:ay}(hc:iu p w=true):rR w/\iB w.mail=true/\w.actors.length<=8:=by
 unfold iu fi at hc;simp only[O6,PG,P4]at hc;obtain⟨h0,h1,h2,h3,h4,h5⟩:=hc;have ok:=(HL h0).1;refine⟨λx hx=>?_,h2,by have:=ok.as;omega⟩;have:=h5 x hx;unfold iH at this;rw[PG]at this;have h:=this.1;unfold jU at h;rw[h1];split at h
 ·omega
 ·split at h
  ·omega
  ·omega
theorem DO{m:Nat}(p:SProg)(hp:kZ p)(b:SBudget)(w:ay)(hw:eW w)(hm:w.mail.length<=60):ak aI (m+11) 121 [aJ p,aT b,aX w]=some (aH (IC p b w),[]):=by
 refine an (F:=gC) rfl rfl rfl ?_ (.inl rfl);have ck:=zP (m:=m+3) p hp w hw;have my:=EL (m:=m+9) b;have al:=λht ha=>K0 (m:=m+4) b w hw ht (by omega) ha;have so:=λh1 h2=>Jz (m:=m) (tT b w) h1 h2;generalize ak aI (m+10)=C at*;generalize bc aI=V;have e0:aH []=.lst [] false:=rfl;simp only[aJ,aC,aT,aE,aX,aD]at ck my al;simp only[aJ,aC,aT,aE,aX,aD,gC,IC];refine nx (by simp only[wd,↓reduceIte,Nat.reduceAdd,O7];rfl) ?_;cases hc:iu p w with
 |false=>
  rw[hc]at ck;simp only[Ps,QC,PS,e0];refine ai ?_;simp only[wd,↓reduceIte,Nat.reduceEqDiff,reduceCtorEq,Int.reduceNeg,un,ck]
 | true=>
  rw[hc]at ck;cases hb:tS b with
  |false=>
   rw[hb]at my;simp only[Ps,QE,PS,e0];refine ai ?_;simp only[wd,↓reduceIte,Nat.reduceEqDiff,Int.reduceNeg,O7,un,ck,my]
  |true=>
   rw[hb]at my;obtain⟨t1,t2,t3⟩:=zh hc;have al:=al t1 (by omega);have so:=so (by have:=z7 b w;omega) (Fm t2);simp only[and_self,PQ];refine nx (by simp only[wd,↓reduceIte,Nat.reduceEqDiff,Int.reduceNeg,O7,un,ck,my];rfl) ?_;have hf:JX 135 (.tup [])=some (.fn 135 []):=rfl;refine nx (by simp only[wd,↓reduceIte,Nat.reduceEqDiff,al,hf,so];rfl) ?_;simp only[wd,↓reduceIte]
theorem Iy(x:SEvent):ou true [false,false,false,false,false] (.agg [.int .i64 x.kind,.int .i64 x.id.frm,.int .i64 x.id.n,.int .i64 x.id.copy,.int .i64 x.who]) (.agg [.int .i64 x.kind,.int .i64 x.id.frm,.int .i64 x.id.n,.int .i64 x.id.copy,.int .i64 x.who])=some (.bool false):=by
 simp[ou,aK]
theorem Fg{m:Nat}(l:List SEvent)(hl:l.length<1000000):ak aI (m+1) 28 [aH l,aH l]=some (.bool true,[]):=by
 refine an (F:=iN) rfl rfl rfl ?_ (.inr rfl);generalize ak aI m=C;generalize bc aI=V;have le:=FB (l:=l);have ne:aY .neq .i64 (l.length:Nat) .i64 (l.length:Nat)=some (.bool false):=by simp[aY]
 simp only[iN];refine nx (by simp only[wd];rfl) ?_;refine nx (by simp only[wd,↓reduceIte,le];rfl) ?_;rw[oR];refine nx (by simp only[wd,↓reduceIte];rfl) ?_;rw[lN];refine sJ (gM (n:=l.length) (by omega) (λk e=>e 0=aH l/\e 1=aH l/\e 5=.int .i64 (k:Nat)) (λe=>True) (λk e hk ⟨h0,h1,h5⟩=>?_) (λe ⟨h0,h1,h5⟩=>?_) ⟨by simp[Env.ofArgs_at],by simp[Env.ofArgs_at],by simp⟩) (λe _=>?_)
 ·obtain⟨x,hx,_⟩:=aP hk;have ix:=vF hx;have ad:=bV (k:=k) (by omega);have q:=Iy x;simp only[dC]at ix;refine⟨_,_,by simp only[wd,↓reduceIte,h0,h5,le,show(k:Int)<(l.length:Nat)by omega];rfl,nx (bd (nx (by simp only[wd,↓reduceIte,Nat.reduceAdd,O7,h0,h1,h5,ix,q];rfl) (by simp only[wd,↓reduceIte,Nat.reduceAdd,O7,h0,h1,h5,ix,q];rfl))) (by simp only[wd,↓reduceIte,h5,ad];rfl),by simp[h0],by simp[h1],by simp only[wd,↓reduceIte]⟩
 ·exact⟨e,by simp only[wd,↓reduceIte,h0,h5,le,Int.lt_irrefl],trivial⟩
 ·refine nx (by simp only[wd,↓reduceIte];rfl) ?_;simp only[wd,↓reduceIte]
def jE(w:ay)(k:Nat):List SEvent:=if k<3 then mA w ((k+1:Nat):Int)else mT w ((k+1:Nat):Int)
theorem GH(b:SBudget)(w:ay):((List.range 5).flatMap (jE w)).filter (gZ b w)=tT b w:=by
 unfold tT;congr 1;simp[List.range_succ,jE]
theorem Dz(w:ay)(k n:Nat)(h1:w.mail.length<=n)(h2:w.actors.length<=n):(jE w k).length<=n:=by
 unfold jE;split
 ·simpa[mA]using h1
 ·simpa[mT]using h2
theorem C0(b:SBudget)(w:ay)(n:Nat)(h1:w.mail.length<=n)(h2:w.actors.length<=n):∀k,(((List.range k).flatMap (jE w)).filter (gZ b w)).length<=k*n
 |0=>by simp
 |k+1=>by
  rw[List.range_succ,List.flatMap_append,QX,Pu];have a:=C0 b w n h1 h2 k;have c:=Qs (Qq (gZ b w) ([k].flatMap (jE w))) (show([k].flatMap (jE w)).length<=n by simpa using Dz w k n h1 h2);rw[Nat.succ_mul];omega
theorem A0{b:SBudget}{w:ay}{l out:List SEvent}{k:Nat}{x:SEvent}(h:l[k]?=some x):out++(l.take (k+1)).filter (gZ b w)=if gZ b w x=true then(out++(l.take k).filter (gZ b w))++[x]else out++(l.take k).filter (gZ b w):=by
 rw[oA h];split
 ·rw[P6]
 ·rfl
theorem Kw{m:Nat}(b:SBudget)(w:ay)(hw:eW w)(ht:rR w)(hm:w.mail.length<1000000)(kind:Int)(out:List SEvent)(hl:out.length<100000000){e:Env}(h2:e 2=.lptr (aE b))(h3:e 3=.lptr (aD w))(h5:e 5=aH out)(h6:e 6=.int .i64 kind)(h7:e 7=.int .i64 0):
  ∃e',aF (ak aI (m+3)) (bc aI) (.block 2 (.loop eL)) e=some (.norm e')/\(e' 2=.lptr (aE b)/\e' 3=.lptr (aD w)/\e' 6=.int .i64 kind/\e' 5=aH (out++(mA w kind).filter (gZ b w))):=by
 have iv:=λe=>E0 (m:=m) b w hw ht e;generalize ak aI (m+3)=C at*;generalize bc aI=V at*;have lms:cB (cg w.mail)=some (.int .i64 (w.mail.length:Nat)):=pa;rw[eL];have lM:(mA w kind).length=w.mail.length:=by simp[mA]
 have fin:(mA w kind).take w.mail.length=mA w kind:=by rw[<-lM,List.take_length]
 rw[<-fin];refine gM (n:=w.mail.length) (by omega) (λk e=>e 2=.lptr (aE b)/\e 3=.lptr (aD w)/\e 6=.int .i64 kind/\e 7=.int .i64 (k:Nat)/\e 5=aH (out++((mA w kind).take k).filter (gZ b w))) _ (λk e hk ⟨s2,s3,s6,s7,s5⟩=>?_) (λe ⟨s2,s3,s6,s7,s5⟩=>?_) ⟨h2,h3,h6,h7,by simp[h5]⟩
 ·obtain⟨x,hx,_⟩:=aP hk;have ix:=iS hx;have hE:(mA w kind)[k]?=some ⟨kind,x.id,0⟩:=by simp[mA,hx]
  have ad:=bV (k:=k) (by omega);have hfl:(((mA w kind).take k).filter (gZ b w)).length<=k:=Qs (Qq _ _) (by rw[Pw];omega);have ap:=yF (l:=out++((mA w kind).take k).filter (gZ b w)) (x:=⟨kind,x.id,0⟩) (by rw[Pu];omega);have i:=iv ⟨kind,x.id,0⟩;have hok:(nA w ⟨kind,x.id,0⟩&&fe (dQ b w) kind)=gZ b w ⟨kind,x.id,0⟩:=Bool.and_comm _ _;simp only at i;rw[hok]at i;rw[A0 hE];simp only[aE]at s2;simp only[aD]at s3;simp only[aT,aE,aX,aD,ba,dC,mG]at i ix ap;have lt:(k:Int)<(w.mail.length:Nat):=by omega
  by_cases h:gZ b w ⟨kind,x.id,0⟩=true
  ·rw[h]at i;rw[O9 h];refine⟨_,_,by simp only[wd,↓reduceIte,s3,s7,lms,lt];rfl,nx (bd (nx (by simp only[wd,↓reduceIte,Nat.reduceEqDiff,Nat.reduceAdd,Nat.reduceLeDiff,O7,s2,s3,s6,s7,ix,i];rfl) (by simp only[wd,↓reduceIte,Nat.reduceEqDiff,Nat.reduceAdd,O7,s5,ap];rfl))) (by simp only[wd,↓reduceIte,Nat.reduceEqDiff,s7,ad];rfl),by simp[s2,aE],by simp[s3,aD],by simp[s6],by simp only[wd,↓reduceIte],by simp only[wd,↓reduceIte,Nat.reduceEqDiff]⟩
  ·rw[Rh]at h;rw[h]at i;rw[Pd (by rw[h];decide)];refine⟨_,_,by simp only[wd,↓reduceIte,s3,s7,lms,lt];rfl,nx (bd (nx (by simp only[wd,↓reduceIte,Nat.reduceEqDiff,Nat.reduceAdd,Nat.reduceLeDiff,O7,s2,s3,s6,s7,ix,i];rfl) (by simp only[wd,↓reduceIte];rfl))) (by simp only[wd,↓reduceIte,Nat.reduceEqDiff,s7,ad];rfl),by simp[s2,aE],by simp[s3,aD],by simp[s6],by simp only[wd,↓reduceIte],by simp[s5]⟩
 ·have s3':=s3;simp only[aD]at s3';exact⟨e,by simp only[wd,↓reduceIte,s3',s7,lms,Int.lt_irrefl],s2,s3,s6,s5⟩
theorem Jg{m:Nat}(b:SBudget)(w:ay)(hw:eW w)(ht:rR w)(hm:w.actors.length<1000000)(kind:Int)(out:List SEvent)(hl:out.length<100000000){e:Env}(h2:e 2=.lptr (aE b))(h3:e 3=.lptr (aD w))(h5:e 5=aH out)(h6:e 6=.int .i64 kind)(h9:e 9=.int .i64 0):
  ∃e',aF (ak aI (m+3)) (bc aI) (.block 4 (.loop iw)) e=some (.norm e')/\(e' 2=.lptr (aE b)/\e' 3=.lptr (aD w)/\e' 6=.int .i64 kind/\e' 5=aH (out++(mT w kind).filter (gZ b w))):=by
 have iv:=λe=>E0 (m:=m) b w hw ht e;generalize ak aI (m+3)=C at*;generalize bc aI=V at*;have lms:cB (dB w.actors)=some (.int .i64 (w.actors.length:Nat)):=bw;rw[iw];have lM:(mT w kind).length=w.actors.length:=by simp[mT]
 have fin:(mT w kind).take w.actors.length=mT w kind:=by rw[<-lM,List.take_length]
 rw[<-fin];refine gM (n:=w.actors.length) (by omega) (λk e=>e 2=.lptr (aE b)/\e 3=.lptr (aD w)/\e 6=.int .i64 kind/\e 9=.int .i64 (k:Nat)/\e 5=aH (out++((mT w kind).take k).filter (gZ b w))) _ (λk e hk ⟨s2,s3,s6,s9,s5⟩=>?_) (λe ⟨s2,s3,s6,s9,s5⟩=>?_) ⟨h2,h3,h6,h9,by simp[h5]⟩
 ·have hE:(mT w kind)[k]?=some ⟨kind,tU,(k:Nat)⟩:=by simp[mT,hk]
  have ad:=bV (k:=k) (by omega);have hfl:(((mT w kind).take k).filter (gZ b w)).length<=k:=Qs (Qq _ _) (by rw[Pw];omega);have ap:=yF (l:=out++((mT w kind).take k).filter (gZ b w)) (x:=⟨kind,tU,(k:Nat)⟩) (by rw[Pu];omega);have i:=iv ⟨kind,tU,(k:Nat)⟩;have hok:(nA w ⟨kind,tU,(k:Nat)⟩&&fe (dQ b w) kind)=gZ b w ⟨kind,tU,(k:Nat)⟩:=Bool.and_comm _ _;simp only at i;rw[hok]at i;rw[A0 hE];simp only[aE]at s2;simp only[aD]at s3;simp only[aT,aE,aX,aD,ba,dC]at i ap;have lt:(k:Int)<(w.actors.length:Nat):=by omega
  by_cases h:gZ b w ⟨kind,tU,(k:Nat)⟩=true
  ·rw[h]at i;rw[O9 h];simp only[tU]at i ap;refine⟨_,_,by simp only[wd,↓reduceIte,s3,s9,lms,lt];rfl,nx (bd (nx (by simp only[wd,↓reduceIte,Nat.reduceEqDiff,s2,s3,s6,s9,i];rfl) (by simp only[wd,↓reduceIte,Nat.reduceEqDiff,Nat.reduceAdd,O7,s5,ap];rfl))) (by simp only[wd,↓reduceIte,Nat.reduceEqDiff,s9,ad];rfl),by simp[s2,aE],by simp[s3,aD],by simp[s6],by simp only[wd,↓reduceIte],by simp only[wd,↓reduceIte,Nat.reduceEqDiff,tU]⟩
  ·rw[Rh]at h;rw[h]at i;rw[Pd (by rw[h];decide)];simp only[tU]at i ap;refine⟨_,_,by simp only[wd,↓reduceIte,s3,s9,lms,lt];rfl,nx (bd (nx (by simp only[wd,↓reduceIte,Nat.reduceEqDiff,s2,s3,s6,s9,i];rfl) (by simp only[wd,↓reduceIte];rfl))) (by simp only[wd,↓reduceIte,Nat.reduceEqDiff,s9,ad];rfl),by simp[s2,aE],by simp[s3,aD],by simp[s6],by simp only[wd,↓reduceIte],by simp[s5]⟩
 ·have s3':=s3;simp only[aD]at s3';exact⟨e,by simp only[wd,↓reduceIte,s3',s9,lms,Int.lt_irrefl],s2,s3,s6,s5⟩
theorem BI{C:bK}{V:Nat->List PV->List PV->Bool}{c:X}{a b:VC}{env:Env}{r:Option ti}(hc:c.ev env=some (.bool true))(h:aF C V a env=r):aF C V (.cond c a b) env=r:=by
 simp only[aF,hc];exact h
theorem BJ{m:Nat}(b:SBudget)(w:ay)(hw:eW w)(ht:rR w)(hm:w.mail.length<1000000)(ha:w.actors.length<1000000):ak aI (m+4) 233 [aT b,aX w]=some (aH (tT b w),[]):=by
 refine an (F:=hO) rfl rfl rfl ?_ (.inl rfl);have rM:=λkind out hl e h2 h3 h5 h6 h7=>Kw (m:=m) b w hw ht hm kind out hl (e:=e) h2 h3 h5 h6 h7;have rA:=λkind out hl e h2 h3 h5 h6 h9=>Jg (m:=m) b w hw ht ha kind out hl (e:=e) h2 h3 h5 h6 h9;generalize ak aI (m+3)=C at*;generalize bc aI=V at*;have e0:aH []=.lst [] false:=rfl;rw[<-GH];simp only[aT,aX,hO];refine nx (by simp only[wd,↓reduceIte,Nat.reduceAdd,O7,aE,aD];rfl) ?_;rw[oR];refine nx (by simp only[wd,↓reduceIte];rfl) ?_;rw[lI];refine sJ (gM (n:=5) (by omega) (λk e=>e 2=.lptr (aE b)/\e 3=.lptr (aD w)/\e 6=.int .i64 ((k+1:Nat):Int)/\e 5=aH (((List.range k).flatMap (jE w)).filter (gZ b w))) (λe=>e 5=aH (((List.range 5).flatMap (jE w)).filter (gZ b w))) (λk e hk ⟨s2,s3,s6,s5⟩=>?_) (λe ⟨s2,s3,s6,s5⟩=>?_) ⟨by simp[aE],by simp[aD],by simp,by simp[e0]⟩) (λe h5=>?_)
 ·have hp:(((List.range k).flatMap (jE w)).filter (gZ b w)).length<100000000:=by
   have:=C0 b w 1000000 (by omega) (by omega) k;have h2:k*1000000<=4*1000000:=Re (by omega) (Pf _);omega
  have hn:((List.range (k+1)).flatMap (jE w)).filter (gZ b w)=((List.range k).flatMap (jE w)).filter (gZ b w)++(jE w k).filter (gZ b w):=by
   rw[List.range_succ,List.flatMap_append,QX];simp
  have ad:=bV (k:=k+1) (by omega);have h5:((k+1:Nat):Int)<=5:=by omega
  rw[hn];by_cases h3:k<3
  ·have h3':((k+1:Nat):Int)<=3:=by omega
   have hc:jE w k=mA w ((k+1:Nat):Int):=by unfold jE;rw[O9 h3]
   rw[hc];obtain⟨e1,q1,q2,q3,q6,q5⟩:=rM ((k+1:Nat):Int) _ hp (e.set 7 (.int .i64 0)) (by simp[s2]) (by simp[s3]) (by simp[s5]) (by simp[s6]) (by simp);have hX:aF C V (.seq (.seq (.st [.asg [] [(7,(N 0))]]) (.block 2 (.loop eL))) (.exit 1)) e=some (.exit 1 e1):=nx (nx (by simp only[wd,↓reduceIte]) q1) (by simp only[wd]);exact⟨e,_,by simp only[wd,↓reduceIte,s6,h5],nx (fD (nJ (nx (by simp only[wd,↓reduceIte,s6]) (BI (by simp only[wd,s6,h3']) hX)))) (by simp only[wd,↓reduceIte,q6,ad];rfl),by simp[q2],by simp[q3],by simp only[wd,↓reduceIte],by simp[q5]⟩
  ·have h3':¬((k+1:Nat):Int)<=3:=by omega
   have hc:jE w k=mT w ((k+1:Nat):Int):=by unfold jE;rw[Pd h3]
   rw[hc];obtain⟨e1,q1,q2,q3,q6,q5⟩:=rA ((k+1:Nat):Int) _ hp (e.set 9 (.int .i64 0)) (by simp[s2]) (by simp[s3]) (by simp[s5]) (by simp[s6]) (by simp);exact⟨e,_,by simp only[wd,↓reduceIte,s6,h5],nx (bd (nx (e:=e) (by simp only[wd,↓reduceIte,s6,h3']) (nx (by simp only[wd,↓reduceIte]) q1))) (by simp only[wd,↓reduceIte,q6,ad];rfl),by simp[q2],by simp[q3],by simp only[wd,↓reduceIte],by simp[q5]⟩
 ·exact⟨e,by simp only[wd,↓reduceIte,Nat.reduceAdd,s6,show¬((6:Nat):Int)<=5 by omega],s5⟩
 ·refine nx (by simp only[wd,↓reduceIte,h5];rfl) ?_;simp only[wd,↓reduceIte]
theorem BE{m:Nat}(p:SProg)(hp:kZ p)(b:SBudget)(w:ay)(hw:eW w)(hm:w.mail.length<=60):ak aI (m+6) 214 [aJ p,aT b,aX w]=some (aH (IC p b w),[]):=by
 refine an (F:=iE) rfl rfl rfl ?_ (.inl rfl);have ck:=xb (m:=m) p hp w hw;have my:=BR (m:=m+4) b;have al:=λht ha=>BJ (m:=m+1) b w hw ht (by omega) ha;generalize ak aI (m+5)=C at*;generalize bc aI=V;have e0:aH []=.lst [] false:=rfl;simp only[aJ,aC,aT,aE,aX,aD]at ck my al;simp only[aJ,aC,aT,aE,aX,aD,iE,IC];refine nx (by simp only[wd,↓reduceIte,Nat.reduceAdd,O7];rfl) ?_;cases hc:iu p w with
 |false=>
  rw[hc]at ck;simp only[Ps,QC,PS,e0];refine ai ?_;simp only[wd,↓reduceIte,Nat.reduceEqDiff,reduceCtorEq,Int.reduceNeg,un,ck]
 | true=>
  rw[hc]at ck;cases hb:tS b with
  |false=>
   rw[hb]at my;simp only[Ps,QE,PS,e0];refine ai ?_;simp only[wd,↓reduceIte,Nat.reduceEqDiff,Int.reduceNeg,O7,un,ck,my]
  |true=>
   rw[hb]at my;obtain⟨t1,t2,t3⟩:=zh hc;have al:=al t1 (by omega);simp only[and_self,PQ];refine nx (by simp only[wd,↓reduceIte,Nat.reduceEqDiff,Int.reduceNeg,O7,un,ck,my];rfl) ?_;refine nx (by simp only[wd,↓reduceIte,Nat.reduceEqDiff,al];rfl) ?_;simp only[wd,↓reduceIte]
theorem GD{m:Nat}(l:List SEvent)(hl:l.length<1000000):ak aI (m+2) 213 [aH l,aH l]=some (.bool true,[]):=by
 refine an (F:=kj) rfl rfl rfl ?_ (.inr rfl);have r:=Fg (m:=m) l hl;generalize ak aI (m+1)=C at*;generalize bc aI=V;simp only[kj];refine nx (by simp only[wd,↓reduceIte,r];rfl) ?_;simp only[wd,↓reduceIte]
theorem M4(b:SBudget):ou false [false,false,false,false] (.agg [.int .i64 b.drop,.int .i64 b.dup,.int .i64 b.time,.int .i64 b.crash]) (.agg [.int .i64 b.drop,.int .i64 b.dup,.int .i64 b.time,.int .i64 b.crash])=some (.bool true):=by
 simp[ou,aK]
theorem If{p:SProg}{b:SBudget}{w:ay}(hm:w.mail.length<=60)(ha:w.actors.length<=60):(IC p b w).length<1000000:=by
 unfold IC;split
 ·have:=z7 b w;omega
 ·simp
theorem xO{m:Nat}(aw:ak aI (m+11) 120 []=some (.bool true,[]))(p:SProg)(b:SBudget)(w:ay)(e:SEvent):ak aI (m+12) 200 [aJ p,aT b,aX w,ba e]=some (.bool true,[]):=by
 refine an (F:=bZ) rfl rfl rfl ?_ (.inr rfl);have sp:=FG (m:=m+10) (p:=p);have sw:=GG (m:=m+9) w;cases h1:IH p with
 |false=>
  rw[h1]at sp;generalize ak aI (m+11)=C at*;generalize bc aI=V;simp only[aJ,aC]at sp;simp only[aJ,aC,aT,aE,aX,aD,ba,dC,bZ];refine nx (by simp only[wd,↓reduceIte,Nat.reduceAdd,O7];rfl) ?_;refine ai ?_;simp only[wd,↓reduceIte,Nat.reduceEqDiff,reduceCtorEq,Int.reduceNeg,un,sp,aw]
 | true=>
  cases h2:vp w with
  |false=>
   rw[h1]at sp;rw[h2]at sw;generalize ak aI (m+11)=C at*;generalize bc aI=V;simp only[aJ,aC]at sp;simp only[aX,aD]at sw;simp only[aJ,aC,aT,aE,aX,aD,ba,dC,bZ];refine nx (by simp only[wd,↓reduceIte,Nat.reduceAdd,O7];rfl) ?_;refine ai ?_;simp only[wd,↓reduceIte,Nat.reduceEqDiff,Int.reduceNeg,O7,un,sp,sw,aw]
  |true=>
   have hp:=DG h1;obtain⟨w1,w2,w3,w4⟩:=yo h2;have hs:eW w:=⟨by omega,⟨by omega,λx hx=>by have:=w3 x hx;omega⟩,λx hx=>by have:=w4 x hx;omega⟩;have i1:=OA (m:=m+3) p hp b w hs e;have i2:=LH (m:=m+5) p hp b w hs e;have n1:=DO (m:=m) p hp b w hs (by omega);have n2:=BE (m:=m+5) p hp b w hs (by omega);have sm:=GD (m:=m+9) (IC p b w) (If (by omega) (by omega));have l1:=A3 (m:=m+9) b w;have l2:=Cq (m:=m+9) b w;have y1:=EL (m:=m+10) b;have y2:=BR (m:=m+10) b;have ev:∀x:Bool,Gv.eqb false (.bool x) (.bool x)=some (.bool true):=λx=>by cases x<;>rfl
   have e4:=M4 (dQ b w);rw[h1]at sp;rw[h2]at sw;generalize LW p b w e=z1 at*;generalize IC p b w=z2 at*;generalize dQ b w=z3 at*;generalize tS b=z4 at*;generalize ak aI (m+11)=C at*;generalize bc aI=V;simp only[aJ,aC,aT,aE,aX,aD,ba,dC]at sp sw i1 i2 n1 n2 l1 l2 y1 y2 e4;simp only[aJ,aC,aT,aE,aX,aD,ba,dC,bZ];refine nx (by simp only[wd,↓reduceIte,Nat.reduceAdd,O7];rfl) ?_;refine nx (by simp only[wd,↓reduceIte,Nat.reduceEqDiff,Int.reduceNeg,O7,un,sp,sw];rfl) ?_;simp only[wd,↓reduceIte,Nat.reduceEqDiff,O7,i1,i2,ev,n1,n2,sm,l1,l2,e4,y1,y2,aw]
theorem DE(m:Nat):ak aI (m+16) 120 []=some (.bool true,[]):=by kernel_rfl
end Gv
