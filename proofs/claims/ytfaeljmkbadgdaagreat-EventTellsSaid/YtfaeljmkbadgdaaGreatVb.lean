/- A part of the proof that the law is true of all its inputs, by an interpreter that is proved sound. -/
import Derived.Test.YtfaeljmkbadgdaaGreatVa
namespace Gv
open Go (IntKind BinOp UnOp)
def J6(sz:Nat):AV->Option (List Nat×X)
 |.N e=>some ([],e)
 |.O fs _ true s e=>if s=sz then some (fs,e)else none
 |_=>none
def Ky(st:Nat->Nat)(sz:Nat):AV->Option (X×List Nat×List Nat)
 |.L fs s cs=>if s=sz then af (EE st cs) λp=>some (.lst p.1,fs.map (sn st),p.2)else none
 |.O fs _ _ _ e=>some (e,fs.map (sn st),[])
 |a=>af (fx a) λe=>some (e,[],[])
def uN(st:Nat->Nat)(kp:List Nat)(ns:Nat)(a:Abs)(d:Nat)(sz:Nat)(x y:PO)(s:Nat):Option uk:=
 af (a.po x) λxv=>af (J6 sz xv) λpx=>af (a.po y) λyv=>af (Ky st sz yv) λpy=>
  if s<ns/\NB st py.2.2 [xv]/\nU kp ([2*st s]++(px.1++py.2.2))then
   some ⟨.O (2*s::px.1) d true sz (.app sz px.2 py.1),a.kill st [2*st s] (px.1++py.2.2) (some d),[.app sz px.2 py.1],
    py.2.1++(2*st s::px.1.map (sn st)++py.2.2.map (sn st)),2*st s::px.1.map (sn st)++py.2.2.map (sn st)⟩else none
section
variable{I:Inv}{c:Cx}{a:Abs}{env:Env}{σ:St}
theorem Dk{sz:Nat}{xv:AV}{px:List Nat×X}{v:PV}{h:Heap}(H:J6 sz xv=some px)(R:Rel c h env xv v):∃xs,MM c h px.1 sz v xs/\px.2.ev env=some (.lst xs false):=by
 unfold J6 at H;split at H
 ·cases H;exact⟨[],⟨.inl ⟨R.1,rfl⟩,.inl R.1⟩,R.2⟩
 ·split at H
  ·rename_i hs;subst hs;cases H;obtain⟨_,x,T,he,hw⟩:=R;obtain⟨xs,rfl⟩:∃xs,x=.lst xs false:=by
    rcases T with⟨_,hx⟩|⟨_,_,_,_,_,_,_,_,_,_,_,_,_,_,_,hx⟩
    ·exact⟨_,hx⟩
    ·exact⟨_,hx⟩
   exact⟨xs,⟨T,hw rfl⟩,he⟩
  ·cases H
 ·cases H
theorem xl{sz:Nat}{xs:List PV}{y z:PV}{es:List PV}(hy:y=.lst (aB es) false∨∃s:List UInt8,y=.str s/\es=s.map λb=>PV.int .u8 b.toNat)(h:nE sz (.lst xs false) y=some z):
  cC sz es=true/\xs.length+es.length<bG/\z=.lst (xs++aB es) false:=by
 have hsz:∀l:List PV,cC sz (aB l)=cC sz l:=by
  intro l;induction l with
  |nil=>rfl
  |cons x l ih=>simp only[aB,cC,gm,ih]
 rcases hy with rfl|⟨s,rfl,rfl⟩
 ·simp only[nE]at h;split at h
  ·rename_i hc;cases h;rw[hsz,aQ]at hc;exact⟨hc.1,hc.2,rfl⟩
  ·cases h
 ·simp only[nE]at h;split at h
  ·rename_i hc;cases h;obtain⟨rfl,hc⟩:=hc;refine⟨?_,by simpa using hc,?_⟩
   ·clear hc hsz;induction s with
    |nil=>rfl
    |cons b s ih=>simp only[PM,cC,PV.cells,PJ,PT,O7,PY];exact ih
   ·congr 2;rw[gh,List.map_map];rfl
  ·cases h
theorem H7(N:Nm I c){sz:Nat}{yv:AV}{py:X×List Nat×List Nat}{v:PV}{h:Heap}(H:Ky I.st sz yv=some py)(R:Rel c h env yv v)(xs:List PV){z:PV}(hz:af (py.1.ev env) (nE sz (.lst xs false))=some z):
  ∃vs0 R1 vs h' R2 W2,(elems v).runT h=some (vs0,h,R1,[])/\cC sz vs0=true/\(HM.mapM (bp 9) vs0).runT h=some (vs,h',R2,W2)/\cZ I py.2.1 R1/\Took I c py.2.2 h h' R2 W2/\
   bX vs=true/\(∀x∈vs,x.cells.length=sz)/\xs.length+vs.length<bG/\z=.lst (xs++aB vs) false:=by
 have fin:∀{es:List PV}{R1:List aq}{S:List Nat}{y:PV},(elems v).runT h=some (es,h,R1,[])->cZ I S R1->bX es=true->(y=.lst (aB es) false∨∃s:List UInt8,y=.str s/\es=s.map λb=>PV.int .u8 b.toNat)->nE sz (.lst xs false) y=some z->
   ∃vs0 R1 vs h' R2 W2,(elems v).runT h=some (vs0,h,R1,[])/\cC sz vs0=true/\(HM.mapM (bp 9) vs0).runT h=some (vs,h',R2,W2)/\cZ I S R1/\Took I c [] h h' R2 W2/\
   bX vs=true/\(∀x∈vs,x.cells.length=sz)/\xs.length+vs.length<bG/\z=.lst (xs++aB vs) false:=by
  intro es R1 S y h1 h2 h3 h4 h5;obtain⟨k1,k2,k3⟩:=xl h4 h5;exact⟨es,R1,es,h,[],[],h1,k1,by rw[qJ h3 7];rfl,h2,Took.refl ..,h3,pB k1,k2,k3⟩
 simp only[ab]at hz;obtain⟨y,hy,hz⟩:=hz;unfold Ky at H;split at H
 ·rename_i fs s cs;split at H
  ·rename_i hs;subst hs;simp only[ab]at H;obtain⟨p,h1,h2⟩:=H;cases h2;obtain⟨r,ver,vs0,hv,hnm,hget,hsz,hR⟩:=R;obtain⟨vs,h',R2,W2,k1,k2,k3,k4,k5,k6⟩:=xN N 5 hR h1;simp only[X.ev,k3,ac,bT]at hy;cases hy;obtain⟨q1,q2,q3⟩:=xl (es:=vs) (.inl rfl) hz;have hnd:=bB hget;refine⟨vs0,if vs0.length=0 then[]else[r],vs,h',R2,W2,?_,hsz,k1,?_,k4,k2,pB q1,q2,q3⟩
   ·rw[hv];simp only[elems];split
    ·rename_i h0;have:vs0=[]:=P9 h0;subst this;rfl
    ·refine HM.runT_bind_of (R:=[r]) (R2:=[]) (W:=[]) (W2:=[]) (aW hget) ?_;rw[O9 ⟨by simp,rfl⟩];simp[HM.runT]
   ·intro q hq;have:q=r:=by
     split at hq
     ·cases hq
     ·simpa using hq
    subst this;exact⟨hnd,by rw[<-iC N hnd];exact P0 hnm⟩
  ·cases H
 ·rename_i fs w wr s e;cases H;obtain⟨_,x,T,he,_⟩:=R;obtain⟨es,R1,k1,k2,k3,_,k4⟩:=T.elems;rw[he]at hy;cases hy;exact fin k1 (λr hr=>⟨(k4 r hr).1,by rw[<-iC N (k4 r hr).1];exact P0 (k4 r hr).2⟩) k2 (.inl k3) hz
 ·simp only[ab]at H;obtain⟨e,h1,h2⟩:=H;cases h2;have hx:=lJ R h1;rw[hx.2]at hy;cases hy;have hnil:cZ I [] []:=λ_ h=>by cases h
  cases hn:aO v<;>rw[hn]at hz<;>try(simp[nE]at hz;done)
  ·have:=pq hn;subst this;exact fin (R1:=[]) rfl hnil (it.2 λy hy=>by obtain⟨b,_,rfl⟩:=List.mem_map.1 hy;rfl) (.inr ⟨_,hn,rfl⟩) (by rw[hn];exact hz)
  ·obtain⟨hc,⟨rfl,rfl⟩|⟨l,c0,rfl,rfl⟩⟩:=rH hn
   ·subst hc;exact fin (es:=[]) (R1:=[]) rfl hnil rfl (.inl rfl) hz
   ·subst hc;exact fin (es:=l) (R1:=[]) rfl hnil (by simpa[pl]using hx.1) (.inl rfl) hz
theorem BN(S:Sim I c a env σ)(hodd:∀k∈I.kp,k %2=1){d sz:Nat}{x y:PO}{s:Nat}{r:uk}
  (H:uN I.st I.kp I.ns a d sz x y s=some r)(hg:ao env r.ns=true):jP I c a env σ (some d) (jy sz (x.ev σ.fr) (y.ev σ.fr) s) r:=by
 simp only[uN,ab]at H;obtain⟨xv,h1,px,h2,yv,h3,py,h4,H⟩:=H;split at H
 ·rename_i hc;cases H;obtain⟨hs,hox,hkp⟩:=hc;have S':Sim I c a env ⟨σ.fr,σ.h⟩:=S;simp only[ao,P2]at hg;obtain⟨z,hz⟩:=Option.isSome_iff_exists.1 hg;have hz':=hz;obtain⟨xs,A,hex⟩:=Dk h2 (Abs.po_ok S h1);simp only[X.ev,hex,ac]at hz;obtain⟨vs0,R1,vs,h',R2,W2,k1,k2,k3,k4,k5,k6,k7,k8,k9⟩:=H7 S.nm h4 (Abs.po_ok S h3) xs hz;have hx':RelL c h' env [xv] [x.ev σ.fr]:=uc k5 hox ⟨Abs.po_ok S h1,trivial⟩;obtain⟨xs',A',hex'⟩:=Dk h2 hx'.1;rw[hex]at hex';cases hex';obtain⟨v',h'',R3,W3,c',B⟩:=BY (env:=env) (d:=d) S.nm A' hs (by rw[k5.ll];exact S.hl) k6 k7 k8;have M:Mut I.st [2*I.st s] (px.1++py.2.2) (some d) c c' σ.h h'' env:=by
   refine⟨λq hq=>?_,B.mu.i,λ_ _=>rfl⟩;obtain⟨hq1,hq2⟩:=eD.1 hq;rw[QS,not_or]at hq2;have m1:=B.mu.n q (eD.2 ⟨hq1,hq2.1⟩);exact⟨by rw[m1.1];exact k5.same q hq2.2,m1.2⟩
  refine⟨v',h'',R1++(R2++R3),[]++(W2++W3),c',?_,S'.mutate M B.nm (by rw[B.ll,k5.ll]) (by rw[B.la,k5.la]) hodd hkp (k5.fl.trans B.fl),⟨B.nu.symm,_,B.t,by rw[hz',k9],λ_=>B.w⟩,?_,?_,B.al,B.be,k5.fl.trans B.fl⟩
  ·rw[zw];refine HM.runT_bind_of k1 ?_;rw[O9 k2];exact HM.runT_bind_of k3 B.run
  ·refine kS (fE k4 λ_ h=>Pc _ h) (kS (fE k5.rd λ_ h=>O8 _ (O8 _ h)) (fE B.rd λ_ h=>O8 _ (Pc _ h)))
  ·rw[Pi];exact kS (fE k5.wr λ_ h=>O8 _ h) (fE B.wr λ_ h=>Pc _ h)
 ·cases H
def Ff(st:Nat->Nat)(fl:Nat->Bool)(kp:List Nat)(ns:Nat)(a:Abs)(d:Option Nat)(op:IOp):Option uk:=
 match op with
 | .store sz x y=>af (a.po x) λxv=>match xv with
   |.P b o=>vm st fl kp a sz b o y
   |.EP fs w true s e i o=>wn st kp a sz fs w s e i o y
   |_=>none
 |op=>af d λd=>match op with
  |.box sz x s=>Gu st kp ns a d sz x s
  |.buildSlice sz ps s=>(match nC st kp ns a d sz ps s with|some r=>some r|none=>vT st kp ns a d sz ps s)
  |.s2b x s=>E5 st kp ns a d x s
  |.mkslice sz z n s=>r9 st kp ns a d sz z n s
  |.append sz x y s=>uN st kp ns a d sz x y s
  | .slice sz x lo hi mx=>af (a.po x) λxv=>match xv with
    |.O fs _ wr s e=>u9 st a d sz fs wr s e lo hi mx
    |_=>none
  |_=>none
def JR(st:Nat->Nat)(fl:Nat->Bool)(kp:List Nat)(ns:Nat)(a:Abs)(d:Option Nat)(op:IOp):Option uk:=
 match cJ a op with
 |some r=>some ⟨r.1,a,r.2.1,r.2.2.map (sn st),[]⟩
 |none=>Ff st fl kp ns a d op
theorem J1(RO:Nat->List Bool)(C:cG)(S:Sim I c a env σ)(hodd:∀k∈I.kp,k %2=1){d:Option Nat}{op:IOp}{r:uk}
  (H:JR I.st I.fl I.kp I.ns a d op=some r)(hg:ao env r.ns=true):jP I c a env σ d (iQ RO C (PO.ev σ.fr) op) r:=by
 unfold JR at H;split at H
 ·rename_i p hp;cases H;obtain⟨v,R,k1,k2,k3⟩:=yq RO C S hp hg;exact⟨v,σ.h,R,[],c,k1,S,k2,λq hq=>⟨(k3 q hq).1,by rw[<-iC S.nm (k3 q hq).1];exact P0 (k3 q hq).2⟩,λ_ h=>(by cases h),λ_=>rfl,λ_ _=>rfl,.refl _ _⟩
 ·unfold Ff at H;split at H
  ·simp only[ab]at H;obtain⟨xv,h1,H⟩:=H;split at H
   ·exact BG S hodd (Abs.po_ok S h1) H hg
   ·exact Ce S hodd (Abs.po_ok S h1) H hg
   ·cases H
  ·simp only[ab]at H;obtain⟨d',rfl,H⟩:=H;split at H
   ·exact HS S hodd H hg
   ·split at H
    ·rename_i r' hr';cases H;exact u6 S hodd hr' hg
    ·exact BS S hodd H hg
   ·exact Hr S hodd H hg
   ·exact zk S hodd H hg
   ·exact BN S hodd H hg
   ·simp only[ab]at H;obtain⟨xv,h1,H⟩:=H;split at H
    ·exact B0 S hodd (Abs.po_ok S h1) H hg
    ·cases H
   ·cases H
end
mutual
def K.n:K->Nat
 |.F=>0
 |.O _ _=>1
 |.Q=>1
 |.B _ ks=>K.nL ks+1
 |.A ks=>K.nL ks
 |.T ks=>K.nL ks
def K.nL:List K->Nat
 |[]=>0
 |k::ks=>k.n+K.nL ks
end
mutual
def K.w:K->Nat
 |.F=>0
 |.O _ _=>1
 |.Q=>9
 |.B _ ks=>K.wL ks+1
 |.A ks=>K.wL ks
 |.T ks=>K.wL ks
def K.wL:List K->Nat
 |[]=>0
 |k::ks=>k.w+K.wL ks
end
mutual
def KR(h:Heap)(P:Nat->aq->Prop):K->Nat->PV->PV->Prop
 |.F,_,v,x=>pl v=true/\x=aO v
 |.O sz wf,j,v,x=>TokOk (P j) h sz v x/\(wf=true->WrOk h v)
 |.Q,j,v,x=>∃f vs xs,v=.fn f vs/\x=.fn f xs/\QL (P j) h vs xs/\vs.length<=9/\(dJ vs).Nodup
 |.B ro ks,j,v,x=>∃r ver n e ro' xs,v=.ptr r ver 0 0/\P j r/\h.get r=some ⟨ver,some ⟨n,[e],ro'⟩⟩/\(ro=false->ro'=false)/\aj e.cells=true/\x=.lptr xs/\KRs h P ks (j+1) e.cells xs
 |.A ks,j,v,x=>∃vs xs,v=.agg vs/\aj vs=true/\x=.agg xs/\KRs h P ks j vs xs
 |.T ks,j,v,x=>∃vs xs,v=.tup vs/\x=.tup xs/\KRs h P ks j vs xs
def KRs(h:Heap)(P:Nat->aq->Prop):List K->Nat->List PV->List PV->Prop
 |[],_,[],[]=>True
 |k::ks,j,v::vs,x::xs=>KR h P k j v x/\KRs h P ks (j+k.n) vs xs
 |_,_,_,_=>False
end
theorem TokOk.mono{Pr Pr':aq->Prop}{h:Heap}{sz:Nat}{v x:PV}(hp:∀r,Pr r->Pr' r)(T:TokOk Pr h sz v x):TokOk Pr' h sz v x:=by
 rcases T with T|⟨r,ver,off,len,room,c0,b,hT,hnm,T⟩
 ·exact .inl T
 ·exact .inr ⟨r,ver,off,len,room,c0,b,hT,hp r hnm,T⟩
theorem QL.mono{Pr Pr':aq->Prop}{h:Heap}(hp:∀r,Pr r->Pr' r):∀{vs xs:List PV},QL Pr h vs xs->QL Pr' h vs xs
 |[],[],_=>trivial
 |v::vs,x::xs,H=>by
  refine⟨?_,QL.mono hp H.2⟩;rcases H.1 with H1|⟨r,ver,n,e,ro,h1,h2,h3⟩
  ·exact .inl H1
  ·exact .inr ⟨r,ver,n,e,ro,h1,hp r h2,h3⟩
 |[],_::_,H=>by cases H
 |_::_,[],H=>by cases H
section
variable{h:Heap}{P P':Nat->aq->Prop}
mutual
theorem KR.mono:∀{k:K}{j:Nat}{v x:PV},(∀i r,j<=i->i<j+k.n->P i r->P' i r)->KR h P k j v x->KR h P' k j v x
 |.F,j,v,x,_,H=>H
 |.O sz wf,j,v,x,hp,H=>⟨H.1.mono λr=>hp j r (Pf _) (by simp[K.n]),H.2⟩
 |.Q,j,v,x,hp,H=>by
  obtain⟨f,vs,xs,h1,h2,h3,h4⟩:=H;exact⟨f,vs,xs,h1,h2,h3.mono λr=>hp j r (Pf _) (by simp[K.n]),h4⟩
 |.B ro ks,j,v,x,hp,H=>by
  obtain⟨r,ver,n,e,ro',xs,h1,h2,h3,h4,h5,h6,h7⟩:=H;exact⟨r,ver,n,e,ro',xs,h1,hp j r (Pf _) (by simp[K.n]) h2,h3,h4,h5,h6,KRs.mono (λi r h1 h2=>hp i r (by omega) (by simp only[K.n];omega)) h7⟩
 |.A ks,j,v,x,hp,H=>by
  obtain⟨vs,xs,h1,h2,h3,h4⟩:=H;exact⟨vs,xs,h1,h2,h3,KRs.mono (λi r h1 h2=>hp i r h1 (by simpa only[K.n]using h2)) h4⟩
 |.T ks,j,v,x,hp,H=>by
  obtain⟨vs,xs,h1,h3,h4⟩:=H;exact⟨vs,xs,h1,h3,KRs.mono (λi r h1 h2=>hp i r h1 (by simpa only[K.n]using h2)) h4⟩
theorem KRs.mono:∀{ks:List K}{j:Nat}{vs xs:List PV},(∀i r,j<=i->i<j+K.nL ks->P i r->P' i r)->KRs h P ks j vs xs->KRs h P' ks j vs xs
 |[],j,[],[],_,_=>trivial
 |k::ks,j,v::vs,x::xs,hp,H=>⟨KR.mono (λi r h1 h2=>hp i r h1 (by simp only[K.nL];omega)) H.1,KRs.mono (λi r h1 h2=>hp i r (by omega) (by simp only[K.nL];omega)) H.2⟩
 |[],_,_::_,_,_,H=>by simp[KRs]at H
 |[],_,[],_::_,_,H=>by simp[KRs]at H
 |_::_,_,[],_,_,H=>by simp[KRs]at H
 |_::_,_,_::_,[],_,H=>by simp[KRs]at H
end
end
theorem KRs.lens{h:Heap}{P:Nat->aq->Prop}:∀{ks:List K}{j:Nat}{vs xs:List PV},KRs h P ks j vs xs->ks.length=vs.length/\xs.length=vs.length
 |[],j,[],[],_=>⟨rfl,rfl⟩
 |k::ks,j,v::vs,x::xs,H=>by have:=KRs.lens H.2;simp[this]
 |[],_,_::_,_,H=>by simp[KRs]at H
 |[],_,[],_::_,H=>by simp[KRs]at H
 |_::_,_,[],_,H=>by simp[KRs]at H
 |_::_,_,_::_,[],H=>by simp[KRs]at H
theorem KR.cell{h:Heap}{P:Nat->aq->Prop}{k:K}{j:Nat}{v x:PV}(H:KR h P k j v x)(hc:v.isCell=true):x.fits none=true:=by
 have key:∀y:PV,y.isCell=true->y.fits none=true:=by intro y hy;cases y<;>simp_all [PV.isCell,PV.fits]
 cases k with
 |F=>obtain⟨_,rfl⟩:=H;rw[oS];exact key v hc
 |O sz wf=>
  rcases H.1 with⟨_,rfl⟩|⟨_,_,_,_,_,_,_,_,_,_,_,_,_,_,_,rfl⟩<;>rfl
 |Q=>obtain⟨f,vs,xs,_,rfl,_⟩:=H;rfl
 |B ro ks=>obtain⟨_,_,_,_,_,_,_,_,_,_,_,rfl,_⟩:=H;rfl
 |A ks=>obtain⟨_,_,rfl,_⟩:=H;simp[PV.isCell]at hc
 |T ks=>obtain⟨_,_,rfl,_⟩:=H;simp[PV.isCell]at hc
theorem KRs.get{h:Heap}{P:Nat->aq->Prop}:∀{ks:List K}{j:Nat}{vs xs:List PV},KRs h P ks j vs xs->aj vs=true->∀(i:Nat)(x:PV),xs[i]?=some x->x.fits none=true
 |[],j,[],[],_,_,i,x,hx=>by simp at hx
 |k::ks,j,v::vs,x::xs,H,hc,0,y,hy=>by
  simp only[aj,O6]at hc;simp only[Pg,O5]at hy;subst hy;exact H.1.cell hc.1
 |k::ks,j,v::vs,x::xs,H,hc,i+1,y,hy=>by
  simp only[aj,O6]at hc;exact KRs.get H.2 hc.2 i y (by simpa using hy)
 |[],_,_::_,_,H,_,_,_,_=>by simp[KRs]at H
 |[],_,[],_::_,H,_,_,_,_=>by simp[KRs]at H
 |_::_,_,[],_,H,_,_,_,_=>by simp[KRs]at H
 |_::_,_,_::_,[],H,_,_,_,_=>by simp[KRs]at H
mutual
def GL(nmf:Nat->List Nat)(idb:Nat):K->X->Nat->AV×List BX
 |.F,e,_=>(.F e,[])
 |.O sz wf,e,j=>(.O (nmf j) (idb+j) wf sz e,[])
 |.Q,e,j=>(.Q (nmf j) e,[])
 |.B ro ks,e,j=>(.P (idb+j) 0,⟨idb+j,ro,nmf j,(rq nmf idb (λi=>.ld none e i) ks 0 (j+1)).1⟩::(rq nmf idb (λi=>.ld none e i) ks 0 (j+1)).2)
 |.A ks,e,j=>(.A (rq nmf idb (λi=>.fld none e i) ks 0 j).1,(rq nmf idb (λi=>.fld none e i) ks 0 j).2)
 |.T ks,e,j=>(.T (rq nmf idb (λi=>.ext e i) ks 0 j).1,(rq nmf idb (λi=>.ext e i) ks 0 j).2)
def rq(nmf:Nat->List Nat)(idb:Nat)(f:Nat->X):List K->Nat->Nat->List AV×List BX
 |[],_,_=>([],[])
 |k::ks,i,j=>((GL nmf idb k (f i) j).1::(rq nmf idb f ks (i+1) (j+k.n)).1,(GL nmf idb k (f i) j).2++(rq nmf idb f ks (i+1) (j+k.n)).2)
end
mutual
def KId(c:Cx)(idb:Nat)(h:Heap):K->Nat->PV->Prop
 |.F,_,_=>True
 |.O _ _,j,v=>c.nu (idb+j)=v
 |.Q,_,_=>True
 |.B _ ks,j,v=>∃r ver n e ro,v=.ptr r ver 0 0/\h.get r=some ⟨ver,some ⟨n,[e],ro⟩⟩/\c.be (idb+j)=(r,ver)/\KIds c idb h ks (j+1) e.cells
 |.A ks,j,v=>KIds c idb h ks j v.cells
 |.T ks,j,v=>∀vs,v=.tup vs->KIds c idb h ks j vs
def KIds(c:Cx)(idb:Nat)(h:Heap):List K->Nat->List PV->Prop
 |[],_,_=>True
 |k::ks,j,v::vs=>KId c idb h k j v/\KIds c idb h ks (j+k.n) vs
 |_::_,_,[]=>False
end
section
variable{h:Heap}{c c':Cx}{idb:Nat}
mutual
theorem KId.frame:∀{k:K}{j:Nat}{v:PV},(∀w,idb+j<=w->w<idb+j+k.n->c'.nu w=c.nu w/\c'.be w=c.be w)->KId c idb h k j v->KId c' idb h k j v
 |.F,_,_,_,_=>trivial
 |.O _ _,j,v,hw,H=>by simp only[KId]at H⊢;rw[(hw (idb+j) (Pf _) (by simp[K.n])).1];exact H
 |.Q,_,_,_,_=>trivial
 |.B _ ks,j,v,hw,H=>by
  obtain⟨r,ver,n,e,ro,h1,h2,h3,h4⟩:=H;exact⟨r,ver,n,e,ro,h1,h2,by rw[(hw (idb+j) (Pf _) (by simp only[K.n];omega)).2];exact h3,KIds.frame (λw h1 h2=>hw w (by omega) (by simp only[K.n];omega)) h4⟩
 |.A ks,j,v,hw,H=>by simp only[KId]at H⊢;exact KIds.frame (λw h1 h2=>hw w h1 (by simpa only[K.n]using h2)) H
 |.T ks,j,v,hw,H=>by
  intro vs hv;exact KIds.frame (λw h1 h2=>hw w h1 (by simpa only[K.n]using h2)) (H vs hv)
theorem KIds.frame:∀{ks:List K}{j:Nat}{vs:List PV},(∀w,idb+j<=w->w<idb+j+K.nL ks->c'.nu w=c.nu w/\c'.be w=c.be w)->KIds c idb h ks j vs->KIds c' idb h ks j vs
 |[],_,_,_,_=>trivial
 |k::ks,j,v::vs,hw,H=>⟨KId.frame (λw h1 h2=>hw w h1 (by simp only[K.nL];omega)) H.1,KIds.frame (λw h1 h2=>hw w (by omega) (by simp only[K.nL];omega)) H.2⟩
 |_::_,_,[],_,H=>by cases H
end
def FS(c c':Cx)(lo hi:Nat):Prop:=c'.nm=c.nm/\∀w,¬(lo<=w/\w<hi)->c'.nu w=c.nu w/\c'.be w=c.be w
variable{P:Nat->aq->Prop}
mutual
theorem KId.exists:∀{k:K}{j:Nat}{v x:PV}(c:Cx),KR h P k j v x->∃c',FS c c' (idb+j) (idb+j+k.n)/\KId c' idb h k j v
 |.F,j,v,x,c,_=>⟨c,⟨rfl,λ_ _=>⟨rfl,rfl⟩⟩,trivial⟩
 |.Q,j,v,x,c,_=>⟨c,⟨rfl,λ_ _=>⟨rfl,rfl⟩⟩,trivial⟩
 |.O sz wf,j,v,x,c,_=>⟨⟨c.nm,λw=>if w=idb+j then v else c.nu w,c.be⟩,⟨rfl,λw hw=>⟨by simp only[K.n]at hw;simp only;rw[Pd (by omega)],rfl⟩⟩,by simp[KId]⟩
 |.B ro ks,j,v,x,c,H=>by
  obtain⟨r,ver,n,e,ro',xs,h1,h2,h3,h4,h5,h6,h7⟩:=H;obtain⟨c1,s1,k1⟩:=KIds.exists c h7;refine⟨⟨c1.nm,c1.nu,λw=>if w=idb+j then(r,ver)else c1.be w⟩,⟨s1.1,λw hw=>?_⟩,r,ver,n,e,ro',h1,h3,by simp,KIds.frame (c:=c1) (λw h1 h2=>⟨rfl,by simp only;rw[Pd (by omega)]⟩) k1⟩;simp only[K.n]at hw;have:=s1.2 w (by omega);exact⟨this.1,by simp only;rw[Pd (by omega)];exact this.2⟩
 |.A ks,j,v,x,c,H=>by
  obtain⟨vs,xs,rfl,h2,h3,h4⟩:=H;obtain⟨c1,s1,k1⟩:=KIds.exists c h4;exact⟨c1,⟨s1.1,λw hw=>s1.2 w (by simpa only[K.n]using hw)⟩,k1⟩
 |.T ks,j,v,x,c,H=>by
  obtain⟨vs,xs,rfl,h3,h4⟩:=H;obtain⟨c1,s1,k1⟩:=KIds.exists c h4;exact⟨c1,⟨s1.1,λw hw=>s1.2 w (by simpa only[K.n]using hw)⟩,λws hw=>by cases hw;exact k1⟩
theorem KIds.exists:∀{ks:List K}{j:Nat}{vs xs:List PV}(c:Cx),KRs h P ks j vs xs->∃c',FS c c' (idb+j) (idb+j+K.nL ks)/\KIds c' idb h ks j vs
 |[],j,[],[],c,_=>⟨c,⟨rfl,λ_ _=>⟨rfl,rfl⟩⟩,trivial⟩
 |k::ks,j,v::vs,x::xs,c,H=>by
  obtain⟨c1,s1,k1⟩:=KId.exists c H.1;obtain⟨c2,s2,k2⟩:=KIds.exists c1 H.2;refine⟨c2,⟨by rw[s2.1,s1.1],λw hw=>?_⟩,KId.frame (λw h1 h2=>s2.2 w (by omega)) k1,k2⟩;simp only[K.nL]at hw;have h1:=s1.2 w (by omega);have h2:=s2.2 w (by omega);exact⟨by rw[h2.1,h1.1],by rw[h2.2,h1.2]⟩
 |[],_,_::_,_,_,H=>by simp[KRs]at H
 |[],_,[],_::_,_,H=>by simp[KRs]at H
 |_::_,_,[],_,_,H=>by simp[KRs]at H
 |_::_,_,_::_,[],_,H=>by simp[KRs]at H
end
variable{env:Env}{nmf:Nat->List Nat}
mutual
theorem Bz:∀{k:K}{j:Nat}{v x:PV}{e:X},KR h P k j v x->KId c idb h k j v->e.ev env=some x->(∀i r,j<=i->i<j+k.n->P i r->c.nm r∈nmf i)->
  Rel c h env (GL nmf idb k e j).1 v/\∀bx∈(GL nmf idb k e j).2,BoxOk c h env bx
 |.F,j,v,x,e,H,_,he,_=>by
  obtain⟨h1,rfl⟩:=H;exact⟨⟨h1,he⟩,λ_ h=>by cases h⟩
 |.O sz wf,j,v,x,e,H,hi,he,hn=>⟨⟨hi.symm,x,H.1.mono λr=>hn j r (Pf _) (by simp[K.n]),he,H.2⟩,λ_ h=>by cases h⟩
 |.Q,j,v,x,e,H,hi,he,hn=>by
  obtain⟨f,vs,xs,h1,h2,h3,h4⟩:=H;subst h2;exact⟨⟨f,vs,xs,h1,h3.mono λr=>hn j r (Pf _) (by simp[K.n]),he,h4⟩,λ_ h=>by cases h⟩
 | .B ro ks,j,v,x,e,H,hi,he,hn=>by
  obtain⟨r,ver,n,el,ro',xs,h1,h2,h3,h4,h5,h6,h7⟩:=H;obtain⟨r',ver',n',el',ro'',h1',h3',hbe,hids⟩:=hi;rw[h1]at h1';cases h1';rw[h3]at h3';cases h3';subst h6;have:=pG (f:=λi=>X.ld none e i) (i0:=0) h7 hids (λi y hy=>by
   have hf:=h7.get h5 i y hy;simp only[X.ev,he,ac,Cw,mM,dD,PZ,hy,hf,PQ]) (λi r h1 h2=>hn i r (by omega) (by simp only[K.n];omega))
  refine⟨?_,λbx hb=>?_⟩
  ·simp only[GL,Rel,hbe,h1]
  ·simp only[GL,Qx]at hb;rcases hb with rfl|hb
   ·refine⟨n,el,ro',?_,?_,h4,h5,this.1⟩
    ·simp only[hbe];exact hn j r (Pf _) (by simp only[K.n];omega) h2
    ·simp only[hbe];exact h3
   ·exact this.2 bx hb
 | .A ks,j,v,x,e,H,hi,he,hn=>by
  obtain⟨vs,xs,rfl,h2,rfl,h4⟩:=H;have:=pG (f:=λi=>X.fld none e i) (i0:=0) h4 hi (λi y hy=>by
   have hf:=h4.get h2 i y hy;simp only[X.ev,he,ac,tV,mM,dD,PZ,hy,hf,PQ]) (λi r h1 h2=>hn i r h1 (by simpa only[K.n]using h2))
  exact⟨⟨vs,rfl,h2,this.1⟩,this.2⟩
 | .T ks,j,v,x,e,H,hi,he,hn=>by
  obtain⟨vs,xs,rfl,rfl,h4⟩:=H;have:=pG (f:=λi=>X.ext e i) (i0:=0) h4 (hi vs rfl) (λi y hy=>by
   simp only[X.ev,he,ac,Ef,PZ,hy]) (λi r h1 h2=>hn i r h1 (by simpa only[K.n]using h2))
  exact⟨⟨vs,rfl,this.1⟩,this.2⟩
theorem pG:∀{ks:List K}{j:Nat}{vs xs:List PV}{f:Nat->X}{i0:Nat},KRs h P ks j vs xs->KIds c idb h ks j vs->(∀i y,xs[i]?=some y->(f (i0+i)).ev env=some y)->(∀i r,j<=i->i<j+K.nL ks->P i r->c.nm r∈nmf i)->
  RelL c h env (rq nmf idb f ks i0 j).1 vs/\∀bx∈(rq nmf idb f ks i0 j).2,BoxOk c h env bx
 |[],j,[],[],f,i0,_,_,_,_=>⟨trivial,λ_ h=>by cases h⟩
 | k::ks,j,v::vs,x::xs,f,i0,H,hi,he,hn=>by
  have h1:=Bz (e:=f i0) H.1 hi.1 (he 0 x rfl) (λi r h1 h2=>hn i r h1 (by simp only[K.nL];omega));have h2:=pG (f:=f) (i0:=i0+1) H.2 hi.2 (λi y hy=>by
   have:=he (i+1) y (by simpa using hy);rw[show i0+1+i=i0+(i+1)by omega];exact this) (λi r h1 h2=>hn i r (by omega) (by simp only[K.nL];omega))
  refine⟨⟨h1.1,h2.1⟩,λbx hb=>?_⟩;simp only[rq,QS]at hb;rcases hb with hb|hb
  ·exact h1.2 bx hb
  ·exact h2.2 bx hb
 |[],_,_::_,_,_,_,H,_,_,_=>by simp[KRs]at H
 |[],_,[],_::_,_,_,H,_,_,_=>by simp[KRs]at H
 |_::_,_,[],_,_,_,H,_,_,_=>by simp[KRs]at H
 |_::_,_,_::_,[],_,_,H,_,_,_=>by simp[KRs]at H
end
end
def jR(a:Abs):List AV->Option (X×List Nat)
 |[]=>some (.nl,[])
 |.P b 0::cs=>af (a.box b) λbx=>af (Lu bx.cs) λl=>af (jR a cs) λr=>if bx.fs.all (λn=> !r.2.contains n)then some (.cn (.lp l) r.1,bx.fs++r.2)else none
 |_=>none
def NG(sz:Nat)(wf:Bool):AV->Option (X×List (List Nat))
 |.N e=>some (e,[[]])
 |.O fs _ wr s e=>if s=sz/\(wf=true->wr=true)then some (e,[fs])else none
 |_=>none
def Mm:X->Bool
 |.nl=>true
 |_=>false
def NN(a:Abs):AV->Option (X×List (List Nat))
 |.F e=>(match e with|.fn f l=>if Mm l then some (.fn f .nl,[[]])else none|_=>none)
 |.Q fs e=>some (e,[fs])
 |.C f cs=>if cs.length<=9 then af (jR a cs) λr=>some (.fn f r.1,[r.2])else none
 |_=>none
def ON(a:Abs):AV->Option BX
 |.P b o=>if o=0 then a.box b else none
 |_=>none
def OS:AV->Option (List AV)
 |.A cs=>some cs
 |_=>none
def OL:AV->Option (List AV)
 |.T cs=>some cs
 |_=>none
mutual
def GM(a:Abs):K->AV->Option (X×List (List Nat))
 |.F,av=>af (fx av) λe=>some (e,[])
 |.O sz wf,av=>NG sz wf av
 |.Q,av=>NN a av
 |.B ro ks,av=>af (ON a av) λbx=>if ro=true∨bx.ro=false then af (wE a ks bx.cs) λr=>some (.lp r.1,bx.fs::r.2)else none
 |.A ks,av=>af (OS av) λcs=>af (wE a ks cs) λr=>some (.agg r.1,r.2)
 |.T ks,av=>af (OL av) λcs=>af (wE a ks cs) λr=>some (.tup r.1,r.2)
def wE(a:Abs):List K->List AV->Option (X×List (List Nat))
 |[],[]=>some (.nl,[])
 |k::ks,av::as=>af (GM a k av) λp=>af (wE a ks as) λq=>some (.cn p.1 q.1,p.2++q.2)
 |_,_=>none
end
def Pn(c:Cx)(nms:List (List Nat))(i:Nat)(r:aq):Prop:=∃l,nms[i]?=some l/\c.nm r∈l
theorem Pn.shift{c:Cx}{nms:List (List Nat)}{i j:Nat}{r:aq}:Pn c nms (i-j) r↔∃l,nms[i-j]?=some l/\c.nm r∈l:=Iff.rfl
section
variable{I:Inv}{c:Cx}{a:Abs}{env:Env}{σ:St}
theorem As(S:Sim I c a env σ):∀{cs:List AV}{vs:List PV}{r:X×List Nat},RelL c σ.h env cs vs->jR a cs=some r->∃xs,r.1.ev env=some (.tup xs)/\QL (λq=>c.nm q∈r.2) σ.h vs xs/\(dJ vs).Nodup/\∀q∈dJ vs,c.nm q∈r.2
 |[],[],r,_,H=>by cases H;exact⟨[],rfl,trivial,List.nodup_nil,λ_ h=>(by cases h)⟩
 | .P b 0::cs,v::vs,r,R,H=>by
  simp only[jR,ab]at H;obtain⟨bx,h1,l,h2,r',h3,h4⟩:=H;split at h4
  rotate_left
  ·cases h4
  rename_i hdis;cases h4;obtain⟨hid,n,e,ro,hn,hget,hro,hok,hR⟩:=Abs.box_ok S h1;obtain⟨xs,k1,k2,k3,k4⟩:=As S R.2 h3;have hl:=A4 hR h2;have hv:=R.1;simp only[Rel]at hv;rw[hid]at hn hget;refine⟨.lptr (aB e.cells)::xs,?_,⟨.inr ⟨_,_,n,e,ro,hv,Pc _ hn,hget,hok,hl.1,rfl⟩,k2.mono λq hq=>O8 _ hq⟩,?_,?_⟩
  rotate_left
  ·rw[hv];simp only[dJ,Rb];refine⟨λhm=>?_,k3⟩;have h5:=k4 _ hm;have h6:=List.all_eq_true.1 hdis _ hn;simp at h6;exact h6 h5
  ·rw[hv];intro q hq;simp only[dJ,Qx]at hq;rcases hq with rfl|hq
   ·exact Pc _ hn
   ·exact O8 _ (k4 q hq)
  simp only[X.ev,hl.2,k1,ac,bT,dE,hok,PQ]
 |.P b (_+1)::_,_::_,_,_,H=>by simp[jR]at H
 |.D::_,_::_,_,_,H=>by simp[jR]at H
 |.F _::_,_::_,_,_,H=>by simp[jR]at H
 |.N _::_,_::_,_,_,H=>by simp[jR]at H
 |.O .. ::_,_::_,_,_,H=>by simp[jR]at H
 |.Q .. ::_,_::_,_,_,H=>by simp[jR]at H
 |.EP .. ::_,_::_,_,_,H=>by simp[jR]at H
 |.A .. ::_,_::_,_,_,H=>by simp[jR]at H
 |.L .. ::_,_::_,_,_,H=>by simp[jR]at H
 |.C .. ::_,_::_,_,_,H=>by simp[jR]at H
 |.T .. ::_,_::_,_,_,H=>by simp[jR]at H
 |.G .. ::_,_::_,_,_,H=>by simp[jR]at H
 |[],_::_,_,R,_=>by cases R
 |_::_,[],_,R,_=>by cases R
theorem KR.okIm{h:Heap}{P:Nat->aq->Prop}:∀{ks:List K}{j:Nat}{vs xs:List PV},KRs h P ks j vs xs->aj vs=true->aj xs=true
 |[],j,[],[],_,_=>rfl
 |k::ks,j,v::vs,x::xs,H,hc=>by
  simp only[aj,O6]at hc⊢;refine⟨?_,KR.okIm H.2 hc.2⟩;have:=H.1.cell hc.1;have hj:x≠ .junk:=by rintro rfl;simp[PV.fits]at this
  cases x<;>simp_all [PV.fits,PV.isCell]
 |[],_,_::_,_,H,_=>by simp[KRs]at H
 |[],_,[],_::_,H,_=>by simp[KRs]at H
 |_::_,_,[],_,H,_=>by simp[KRs]at H
 |_::_,_,_::_,[],H,_=>by simp[KRs]at H
theorem Fb{sz:Nat}{wf:Bool}{av:AV}{v:PV}{p:X×List (List Nat)}(j:Nat)(R:Rel c σ.h env av v)(H:NG sz wf av=some p):p.2.length=1/\∃x,p.1.ev env=some x/\KR σ.h (λi r=>Pn c p.2 (i-j) r) (.O sz wf) j v x:=by
 unfold NG at H;split at H
 ·cases H;exact⟨rfl,_,R.2,.inl ⟨R.1,rfl⟩,λ_=>.inl R.1⟩
 ·split at H
  ·rename_i hs;obtain⟨rfl,hs2⟩:=hs;cases H;obtain⟨hv,x,T,he,hw⟩:=R;exact⟨rfl,x,he,T.mono λr hr=>⟨_,by simp,hr⟩,λh=>hw (hs2 h)⟩
  ·cases H
 ·cases H
theorem FJ(S:Sim I c a env σ){av:AV}{v:PV}{p:X×List (List Nat)}(j:Nat)(R:Rel c σ.h env av v)(H:NN a av=some p):p.2.length=1/\∃x,p.1.ev env=some x/\KR σ.h (λi r=>Pn c p.2 (i-j) r) .Q j v x:=by
 unfold NN at H;split at H
 ·split at H
  ·split at H
   ·rename_i f l hl;cases H;obtain⟨h1,h2⟩:=R;have:l=.nl:=by cases l<;>first|rfl|(simp[Mm]at hl;done)
    subst this;simp only[X.ev,ac,JX,bT,Py,O5]at h2;obtain⟨l,rfl,hl⟩:=Bx h2.symm;have:l=[]:=by cases l<;>first|rfl|(simp[aB]at hl;done)
    subst this;exact⟨rfl,.fn f [],rfl,f,[],[],rfl,rfl,trivial,by simp,List.nodup_nil⟩
   ·cases H
  ·cases H
 ·cases H;obtain⟨f,vs,xs,h1,h2,h3,h4⟩:=R;exact⟨rfl,_,h3,f,vs,xs,h1,rfl,h2.mono λr hr=>⟨_,by simp,hr⟩,h4⟩
 ·split at H
  ·rename_i f cs hl;simp only[ab]at H;obtain⟨r,h1,h2⟩:=H;cases h2;obtain⟨vs,rfl,hR⟩:=R;obtain⟨xs,k1,k2,k3,_⟩:=As S hR h1;refine⟨rfl,.fn f xs,by simp only[X.ev,k1,ac,JX,bT,Py],f,vs,xs,rfl,rfl,k2.mono λq hq=>⟨r.2,by simp,hq⟩,by rw[<-hR.len];exact hl,k3⟩
  ·cases H
 ·cases H
mutual
theorem B9(S:Sim I c a env σ):∀{k:K}{av:AV}{v:PV}{p:X×List (List Nat)}(j:Nat),Rel c σ.h env av v->GM a k av=some p->p.2.length=k.n/\∃x,p.1.ev env=some x/\KR σ.h (λi r=>Pn c p.2 (i-j) r) k j v x
 |.F,av,v,p,j,R,H=>by
  simp only[GM,ab]at H;obtain⟨e,h1,h2⟩:=H;cases h2;have:=lJ R h1;exact⟨rfl,_,this.2,this.1,rfl⟩
 |.O sz wf,av,v,p,j,R,H=>Fb j R (by simpa only[GM]using H)
 |.Q,av,v,p,j,R,H=>FJ S j R (by simpa only[GM]using H)
 | .B ro ks,av,v,p,j,R,H=>by
  simp only[GM,ab]at H;obtain⟨bx,h1,H⟩:=H;obtain⟨b,rfl,h1⟩:∃b,av=.P b 0/\a.box b=some bx:=by
   unfold ON at h1;split at h1
   ·split at h1
    ·rename_i ho;subst ho;exact⟨_,rfl,h1⟩
    ·cases h1
   ·cases h1
  split at H
  ·rename_i hro;simp only[ab]at H;obtain⟨r,h2,h3⟩:=H;cases h3;obtain⟨hid,n,e,ro',hn,hget,hr,hok,hR⟩:=Abs.box_ok S h1;obtain⟨kl,xs,k1,k2⟩:=rc S (j+1) hR h2;simp only[Rel]at R;rw[hid]at hn hget;have hk:=KR.okIm k2 hok;refine⟨by simp[kl,K.n],.lptr xs,by simp only[X.ev,k1,ac,bT,hk,PQ],_,_,n,e,ro',xs,R,⟨bx.fs,by simp,hn⟩,hget,λh=>hr ?_,hok,rfl,?_⟩
   ·rcases hro with h'|h'
    ·rw[h]at h';cases h'
    ·exact h'
   ·refine KRs.mono (λi q h1 h2 hq=>?_) k2;obtain⟨l,hl,hq⟩:=hq;exact⟨l,by rw[show i-j=(i-(j+1))+1 by omega,Qc];exact hl,hq⟩
  ·cases H
 |.A ks,av,v,p,j,R,H=>by
  simp only[GM,ab]at H;obtain⟨cs,h1,r,h2,h3⟩:=H;cases h3;obtain rfl:av=.A cs:=by unfold OS at h1;split at h1<;>simp_all
  obtain⟨vs,rfl,hok,hR⟩:=R;obtain⟨kl,xs,k1,k2⟩:=rc S j hR h2;have hk:=KR.okIm k2 hok;exact⟨kl,.agg xs,by simp only[X.ev,k1,ac,bT,hk,PQ],vs,xs,rfl,hok,rfl,k2⟩
 |.T ks,av,v,p,j,R,H=>by
  simp only[GM,ab]at H;obtain⟨cs,h1,r,h2,h3⟩:=H;cases h3;obtain rfl:av=.T cs:=by unfold OL at h1;split at h1<;>simp_all
  obtain⟨vs,rfl,hR⟩:=R;obtain⟨kl,xs,k1,k2⟩:=rc S j hR h2;exact⟨kl,.tup xs,by simp only[X.ev,k1,ac,bT],vs,xs,rfl,rfl,k2⟩
theorem rc(S:Sim I c a env σ):∀{ks:List K}{as:List AV}{vs:List PV}{p:X×List (List Nat)}(j:Nat),RelL c σ.h env as vs->wE a ks as=some p->p.2.length=K.nL ks/\∃xs,p.1.ev env=some (.tup xs)/\KRs σ.h (λi r=>Pn c p.2 (i-j) r) ks j vs xs
 |[],[],[],p,j,_,H=>by simp only[wE,O5]at H;subst H;exact⟨rfl,[],rfl,trivial⟩
 | k::ks,av::as,v::vs,p,j,R,H=>by
  simp only[wE,ab]at H;obtain⟨p1,h1,q,h2,h3⟩:=H;cases h3;obtain⟨l1,x,e1,k1⟩:=B9 S j R.1 h1;obtain⟨l2,xs,e2,k2⟩:=rc S (j+k.n) R.2 h2;refine⟨by simp[l1,l2,K.nL],x::xs,by simp only[X.ev,e1,e2,ac],KR.mono (λi r h1 h2 hp=>?_) k1,KRs.mono (λi r h1 h2 hp=>?_) k2⟩
  ·obtain⟨l,hl,hq⟩:=hp;exact⟨l,by rw[Pz (by omega)];exact hl,hq⟩
  ·obtain⟨l,hl,hq⟩:=hp;exact⟨l,by rw[Pp (by omega),l1,show i-j-k.n=i-(j+k.n)by omega];exact hl,hq⟩
 |[],_::_,_,_,_,_,H=>by simp[wE]at H
 |_::_,[],_,_,_,_,H=>by simp[wE]at H
 |[],[],_::_,_,_,R,_=>by cases R
 |_::_,_::_,[],_,_,R,_=>by cases R
end
end
abbrev B3:=aq×Nat×Blk
def QB(h:Heap):List PV->List B3
 |[]=>[]
 |.ptr r ver _ _::vs=>(match h.get r with|some ⟨_,some b⟩=>[(r,ver,b)]|_=>[])++QB h vs
 |_::vs=>QB h vs
mutual
def KB(h:Heap):K->PV->List B3
 |.O _ _,v=>match v with|.tok r ver _ _ _ _ _=>(match h.get r with|some ⟨_,some b⟩=>[(r,ver,b)]|_=>[])|_=>[]
 |.Q,v=>match v with|.fn _ vs=>QB h vs|_=>[]
 |.B _ ks,v=>match v with|.ptr r ver _ _=>(match h.get r with|some ⟨_,some b⟩=>(r,ver,b)::(match b.es with|[e]=>jS h ks e.cells|_=>[])|_=>[])|_=>[]
 |.A ks,v=>match v with|.agg vs=>jS h ks vs|_=>[]
 |.T ks,v=>match v with|.tup vs=>jS h ks vs|_=>[]
 |.F,_=>[]
def jS(h:Heap):List K->List PV->List B3
 |k::ks,v::vs=>KB h k v++jS h ks vs
 |_,_=>[]
end
def inB(l:List B3)(q:aq×Nat):Prop:=∃b,(q.1,q.2,b)∈l
def oq(l:List B3):Nat:=(l.map λy=>(bi y.2.2.es).length).sum
theorem inB.mono{l m:List B3}{q:aq×Nat}(h:∀y∈l,y∈m)(k:inB l q):inB m q:=by obtain⟨b,hb⟩:=k;exact⟨b,h _ hb⟩
theorem vG(l m:List B3):oq (l++m)=oq l+oq m:=by simp[oq]
theorem jF(e:PV)(h:e.isCell=true∨∃cs,e=.agg cs):kt e=bi e.cells:=by
 rcases h with h|⟨cs,rfl⟩
 ·cases e<;>simp_all [PV.isCell,PV.cells,kt,bi]
 ·rfl
theorem dR{e:PV}(h:aj e.cells=true):e.isCell=true∨∃cs,e=.agg cs:=by
 cases e<;>simp_all [PV.cells,aj,PV.isCell]
structure KBok (h:Heap) (P:Nat->aq->Prop) (lo hi w:Nat) (ts:List (aq×Nat)) (l:List B3):Prop where
 t:∀q∈ts,inB l q
 b:∀y∈l,h.get y.1=some ⟨y.2.1,some y.2.2⟩/\(∃i,lo<=i/\i<hi/\P i y.1)/\∀q∈bi y.2.2.es,inB l q
 w:ts.length+oq l<=w
theorem KBok.app{h:Heap}{P:Nat->aq->Prop}{a b c w1 w2:Nat}{t1 t2:List (aq×Nat)}{l1 l2:List B3}(A:KBok h P a b w1 t1 l1)(B:KBok h P b c w2 t2 l2)(hab:a<=b)(hbc:b<=c):KBok h P a c (w1+w2) (t1++t2) (l1++l2) where
 t q hq:=by
  rcases List.mem_append.1 hq with hq|hq
  ·exact(A.t q hq).mono λy hy=>Pc _ hy
  ·exact(B.t q hq).mono λy hy=>O8 _ hy
 b y hy:=by
  rcases List.mem_append.1 hy with hy|hy
  ·obtain⟨h1,⟨i,h2,h3,h4⟩,h5⟩:=A.b y hy;exact⟨h1,⟨i,h2,by omega,h4⟩,λq hq=>(h5 q hq).mono λy hy=>Pc _ hy⟩
  ·obtain⟨h1,⟨i,h2,h3,h4⟩,h5⟩:=B.b y hy;exact⟨h1,⟨i,by omega,h3,h4⟩,λq hq=>(h5 q hq).mono λy hy=>O8 _ hy⟩
 w:=by rw[Pu,vG];have:=A.w;have:=B.w;omega
theorem yT{v:PV}(h:pl v=true):kt v=[]:=(nS h λ_ _=>none).2
theorem nc{l:List PV}(h:bX l=true):bi l=[]:=(fL h λ_ _=>none).2
section
variable{h:Heap}{P:Nat->aq->Prop}
theorem xk{j:Nat}:∀{vs xs:List PV},QL (P j) h vs xs->(∀q∈bi vs,inB (QB h vs) q)/\(∀y∈QB h vs,h.get y.1=some ⟨y.2.1,some y.2.2⟩/\P j y.1/\bi y.2.2.es=[])/\(bi vs).length<=vs.length/\oq (QB h vs)=0
 |[],[],_=>⟨λ_ h=>(by cases h),λ_ h=>(by cases h),Pf _,rfl⟩
 | v::vs,x::xs,H=>by
  obtain⟨k1,k2,k3,k4⟩:=xk H.2;rcases H.1 with⟨hp,hl,hx⟩|⟨r,ver,n,e,ro,rfl,hr,hg,ho,hpl,hx⟩
  ·have ht:=yT hp;have hq:QB h (v::vs)=QB h vs:=by cases v<;>first|rfl|(simp[pl]at hp;done)
   rw[hq];exact⟨λq hq=>k1 q (by simpa only[bi,ht,Pi]using hq),k2,by simp only[bi,ht,Pi,PJ];omega,k4⟩
  ·have hq:QB h (.ptr r ver 0 0::vs)=(r,ver,⟨n,[e],ro⟩)::QB h vs:=by simp only[QB,hg];rfl
   have hte:bi [e]=[]:=by
    simp only[bi,PB];rw[jF e (dR ho)];exact nc hpl
   rw[hq];refine⟨λq hq=>?_,λy hy=>?_,by simp only[bi,kt,Pu,PJ,PT];omega,by simp only[oq,PM,QG,hte,PT]at k4⊢;omega⟩
   ·simp only[bi,kt,Qu,Pi,Qx]at hq;rcases hq with rfl|hq
    ·exact⟨_,Pj ..⟩
    ·exact(k1 q hq).mono λy hy=>Pe _ hy
   ·rcases List.mem_cons.1 hy with rfl|hy
    ·exact⟨hg,hr,hte⟩
    ·exact k2 y hy
 |[],_::_,H=>by cases H
 |_::_,[],H=>by cases H
mutual
theorem xI:∀{k:K}{j:Nat}{v x:PV},KR h P k j v x->KBok h P j (j+k.n) k.w (kt v) (KB h k v)
 |.F,j,v,x,H=>⟨(by rw[yT H.1];intro _ h;cases h),λ_ h=>(by cases h),(by rw[yT H.1];exact Pf _)⟩
 | .O sz wf,j,v,x,H=>by
  rcases H.1 with⟨hn,_⟩|⟨r,ver,off,len,room,c0,b,rfl,hr,hg,hs,ho,hl,hpl,hc,hx⟩
  ·rcases hn with rfl|rfl<;>exact⟨λ_ h=>(by cases h),λ_ h=>(by cases h),by simp[kt,oq,KB,K.w]⟩
  ·have hq:KB h (.O sz wf) (.tok r ver sz off len room c0)=[(r,ver,b)]:=by simp only[KB,hg]
   rw[hq];refine⟨λq hq=>?_,λy hy=>?_,by simp[kt,oq,nc hpl,K.w]⟩
   ·simp only[kt,Px]at hq;subst hq;exact⟨b,by simp⟩
   ·simp only[Px]at hy;subst hy;exact⟨hg,⟨j,Pf _,by simp[K.n],hr⟩,(by rw[nc hpl];intro _ h;cases h)⟩
 | .Q,j,v,x,H=>by
  obtain⟨f,vs,xs,rfl,rfl,h3,h4⟩:=H;obtain⟨k1,k2,k3,k4⟩:=xk h3;refine⟨k1,λy hy=>?_,?_⟩
  ·obtain⟨q1,q2,q3⟩:=k2 y hy;exact⟨q1,⟨j,Pf _,by simp[K.n],q2⟩,(by rw[q3];intro _ h;cases h)⟩
  ·simp only[KB,k4,kt,K.w];have:=h4.1;omega
 | .B ro ks,j,v,x,H=>by
  obtain⟨r,ver,n,e,ro',xs,rfl,h2,h3,h4,h5,h6,h7⟩:=H;have ih:=ga h7;have hq:KB h (.B ro ks) (.ptr r ver 0 0)=(r,ver,⟨n,[e],ro'⟩)::jS h ks e.cells:=by simp only[KB,h3]
  have hte:bi [e]=bi e.cells:=by
   simp only[bi,PB];exact jF e (dR h5)
  rw[hq];refine⟨λq hq=>?_,λy hy=>?_,?_⟩
  ·simp only[kt,Px]at hq;subst hq;exact⟨_,Pj ..⟩
  ·rcases List.mem_cons.1 hy with rfl|hy
   ·refine⟨h3,⟨j,Pf _,by simp only[K.n];omega,h2⟩,λq hq=>?_⟩;simp only at hq;rw[hte]at hq;exact(ih.t q hq).mono λy hy=>Pe _ hy
   ·obtain⟨q1,⟨i,q2,q3,q4⟩,q5⟩:=ih.b y hy;exact⟨q1,⟨i,by omega,by simp only[K.n];omega,q4⟩,λq hq=>(q5 q hq).mono λy hy=>Pe _ hy⟩
  ·have:=ih.w;simp only[oq,PM,QG,hte,kt,PJ,PT,K.w]at this⊢;omega
 |.A ks,j,v,x,H=>by
  obtain⟨vs,xs,rfl,h2,h3,h4⟩:=H;exact ga h4
 |.T ks,j,v,x,H=>by
  obtain⟨vs,xs,rfl,h3,h4⟩:=H;exact ga h4
theorem ga:∀{ks:List K}{j:Nat}{vs xs:List PV},KRs h P ks j vs xs->KBok h P j (j+K.nL ks) (K.wL ks) (bi vs) (jS h ks vs)
 |[],j,[],[],_=>⟨λ_ h=>(by cases h),λ_ h=>(by cases h),Pf _⟩
 |k::ks,j,v::vs,x::xs,H=>by
  have h1:=xI H.1;have h2:=ga H.2;have:=h1.app h2 (by omega) (by omega);simp only[K.nL,K.wL,bi,jS];rw[<-Rj];exact this
 |[],_,_::_,_,H=>by simp[KRs]at H
 |[],_,[],_::_,H=>by simp[KRs]at H
 |_::_,_,[],_,H=>by simp[KRs]at H
 |_::_,_,_::_,[],H=>by simp[KRs]at H
end
variable{h2:Heap}{P':Nat->aq->Prop}{f:aq->Nat->Option (aq×Nat)}
def Bn(f:aq->Nat->Option (aq×Nat)):Prop:=∀r v r' v' q u u',f r v=some (q,u)->f r' v'=some (q,u')->r=r'
mutual
def Bi:K->Bool
 |.F=>true
 |.O _ _=>true
 |.Q=>false
 |.B _ ks=>rC ks
 |.A ks=>rC ks
 |.T ks=>rC ks
def rC:List K->Bool
 |[]=>true
 |k::ks=>Bi k&&rC ks
end
def Moved(P P':Nat->aq->Prop)(h2:Heap)(f:aq->Nat->Option (aq×Nat))(l:List B3):Prop:=
 ∀y∈l,∀i,P i y.1->∃r' ver' ro',f y.1 y.2.1=some (r',ver')/\h2.get r'=some ⟨ver',some ⟨y.2.2.sz,co f y.2.2.es,ro'⟩⟩/\(y.2.2.ro=false->ro'=false)/\P' i r'
theorem Moved.mono{l m:List B3}(h:∀y∈l,y∈m)(k:Moved P P' h2 f m):Moved P P' h2 f l:=λy hy=>k y (h y hy)
theorem QL.ren{j:Nat}:∀{vs xs:List PV},QL (P j) h vs xs->Moved P P' h2 f (QB h vs)->QL (P' j) h2 (co f vs) xs
 |[],[],_,_=>trivial
 | v::vs,x::xs,H,M=>by
  rcases H.1 with⟨hp,hl,hx⟩|⟨r,ver,n,e,ro,rfl,hr,hg,ho,hpl,hx⟩
  ·have hq:QB h (v::vs)=QB h vs:=by cases v<;>first|rfl|(simp[pl]at hp;done)
   rw[hq]at M;exact⟨.inl ⟨by rw[(nS hp f).1];exact hp,by rw[(nS hp f).1];exact hl,by rw[(nS hp f).1];exact hx⟩,QL.ren H.2 M⟩
  ·have hq:QB h (.ptr r ver 0 0::vs)=(r,ver,⟨n,[e],ro⟩)::QB h vs:=by simp only[QB,hg];rfl
   rw[hq]at M;obtain⟨r',ver',ro',m1,m2,m3,m4⟩:=M _ (Pj ..) j hr;have hpe:pl e=true:=by
    rcases dR ho with hc|⟨cs,rfl⟩
    ·have:e.cells=[e]:=by cases e<;>simp_all [PV.isCell,PV.cells]
     rw[this]at hpl;simpa[bX]using hpl
    ·simp only[PV.cells]at ho hpl;simp only[pl,ho,hpl,PE]
   simp only[co,(nS hpe f).1]at m2;refine⟨.inr ⟨r',ver',n,e,ro',?_,m4,m2,ho,hpl,hx⟩,QL.ren H.2 (M.mono λy hy=>Pe _ hy)⟩;simp only[Gv.ren,m1]
 |[],_::_,H,_=>by cases H
 |_::_,[],H,_=>by cases H
theorem rT(hi:Bn f){j:Nat}:∀{vs xs:List PV},QL (P j) h vs xs->Moved P P' h2 f (QB h vs)->(dJ vs).Nodup->(dJ (co f vs)).Nodup/\∀q∈dJ (co f vs),∃r∈dJ vs,∃v u,f r v=some (q,u)
 |[],[],_,_,_=>⟨List.nodup_nil,λ_ h=>(by cases h)⟩
 | v::vs,x::xs,H,M,hn=>by
  rcases H.1 with⟨hp,hl,hx⟩|⟨r,ver,n,e,ro,rfl,hr,hg,ho,hpl,hx⟩
  ·have hq:QB h (v::vs)=QB h vs:=by cases v<;>first|rfl|(simp[pl]at hp;done)
   have hq1:dJ (v::vs)=dJ vs:=by cases v<;>first|rfl|(simp[pl]at hp;done)
   have hq2:dJ (co f (v::vs))=dJ (co f vs):=by
    simp only[co,(nS hp f).1];cases v<;>first|rfl|(simp[pl]at hp;done)
   rw[hq]at M;rw[hq1]at hn⊢;rw[hq2];exact rT hi H.2 M hn
  ·have hq:QB h (.ptr r ver 0 0::vs)=(r,ver,⟨n,[e],ro⟩)::QB h vs:=by simp only[QB,hg];rfl
   rw[hq]at M;obtain⟨r',ver',ro',m1,m2,m3,m4⟩:=M _ (Pj ..) j hr;simp only[dJ,Rb]at hn;obtain⟨k1,k2⟩:=rT hi H.2 (M.mono λy hy=>Pe _ hy) hn.2;have hq2:dJ (co f (.ptr r ver 0 0::vs))=r'::dJ (co f vs):=by simp only[co,Gv.ren,m1,dJ]
   rw[hq2];refine⟨List.nodup_cons.2 ⟨λhm=>?_,k1⟩,λq hq=>?_⟩
   ·obtain⟨r2,hr2,v2,u2,hf2⟩:=k2 _ hm;have:=hi _ _ _ _ _ _ _ m1 hf2;simp only at this;rw[this]at hn;exact hn.1 hr2
   ·rcases List.mem_cons.1 hq with rfl|hq
    ·exact⟨r,Pj ..,ver,ver',m1⟩
    ·obtain⟨r2,hr2,rest⟩:=k2 q hq;exact⟨r2,Pe _ hr2,rest⟩
 |[],_::_,H,_,_=>by cases H
 |_::_,[],H,_,_=>by cases H
theorem jA(f:aq->Nat->Option (aq×Nat)):∀cs:List PV,aj (co f cs)=aj cs
 |[]=>rfl
 |c::cs=>by simp only[co,aj,vL,jA f cs]
theorem gF(f:aq->Nat->Option (aq×Nat))(e:PV):(ren f e).cells=co f e.cells:=by rw[rZ,ed]
mutual
theorem KR.ren:∀{k:K}{j:Nat}{v x:PV},(Bi k=true∨Bn f)->KR h P k j v x->Moved P P' h2 f (KB h k v)->KR h2 P' k j (ren f v) x
 |.F,j,v,x,_,H,_=>by
  obtain⟨h1,h2⟩:=H;refine⟨?_,?_⟩<;>rw[(nS h1 f).1]
  ·exact h1
  ·exact h2
 | .O sz wf,j,v,x,_,H,M=>by
  rcases H.1 with⟨hn,hx⟩|⟨r,ver,off,len,room,c0,b,rfl,hr,hg,hs,ho,hl,hpl,hc,hx⟩
  ·have:ren f v=v:=by rcases hn with rfl|rfl<;>rfl
   rw[this];exact⟨.inl ⟨hn,hx⟩,λ_=>.inl hn⟩
  ·have hq:KB h (.O sz wf) (.tok r ver sz off len room c0)=[(r,ver,b)]:=by simp only[KB,hg]
   rw[hq]at M;obtain⟨r',ver',ro',m1,m2,m3,m4⟩:=M _ (Pj ..) j hr;have hre:ren f (.tok r ver sz off len room c0)=.tok r' ver' sz off len room c0:=by simp only[ren,m1]
   rw[hre];simp only[(fL hpl f).1]at m2;refine⟨.inr ⟨r',ver',off,len,room,c0,_,rfl,m4,m2,hs,ho,hl,hpl,hc,hx⟩,λhwf=>?_⟩;rcases H.2 hwf with hn|⟨r0,ver0,sz0,off0,len0,room0,b0,he,hg0,hro,hrm⟩
   ·rcases hn with hn|hn<;>cases hn
   ·cases he;rw[hg]at hg0;cases hg0;exact .inr ⟨r',ver',sz,off,len,room,_,rfl,m2,m3 hro,hrm⟩
 | .Q,j,v,x,hi,H,M=>by
  obtain⟨g,vs,xs,rfl,rfl,h3,h4,h5⟩:=H;have hi':Bn f:=by
   rcases hi with hi|hi
   ·simp[Bi]at hi
   ·exact hi
  exact⟨g,co f vs,xs,rfl,rfl,h3.ren M,by rw[ed,PU];exact h4,(rT hi' h3 M h5).1⟩
 |.B ro ks,j,v,x,hi,H,M=>by
  obtain⟨r,ver,n,e,ro',xs,rfl,h2',h3,h4,h5,h6,h7⟩:=H;have hq:KB h (.B ro ks) (.ptr r ver 0 0)=(r,ver,⟨n,[e],ro'⟩)::jS h ks e.cells:=by simp only[KB,h3]
  rw[hq]at M;obtain⟨r',ver',ro'',m1,m2,m3,m4⟩:=M _ (Pj ..) j h2';simp only[co]at m2;refine⟨r',ver',n,ren f e,ro'',xs,by simp only[Gv.ren,m1],m4,m2,λh=>m3 (h4 h),by rw[gF,jA];exact h5,h6,?_⟩;rw[gF];exact KRs.ren (by simpa only[Bi]using hi) h7 (M.mono λy hy=>Pe _ hy)
 |.A ks,j,v,x,hi,H,M=>by
  obtain⟨vs,xs,rfl,h2',h3,h4⟩:=H;exact⟨co f vs,xs,rfl,by rw[jA];exact h2',h3,KRs.ren (by simpa only[Bi]using hi) h4 M⟩
 |.T ks,j,v,x,hi,H,M=>by
  obtain⟨vs,xs,rfl,h3,h4⟩:=H;exact⟨co f vs,xs,rfl,h3,KRs.ren (by simpa only[Bi]using hi) h4 M⟩
theorem KRs.ren:∀{ks:List K}{j:Nat}{vs xs:List PV},(rC ks=true∨Bn f)->KRs h P ks j vs xs->Moved P P' h2 f (jS h ks vs)->KRs h2 P' ks j (co f vs) xs
 |[],j,[],[],_,_,_=>trivial
 |k::ks,j,v::vs,x::xs,hi,H,M=>by
  have h1:Bi k=true∨Bn f:=hi.imp (λh=>by simp only[rC,O6]at h;exact h.1) id;have h2:rC ks=true∨Bn f:=hi.imp (λh=>by simp only[rC,O6]at h;exact h.2) id;exact⟨KR.ren h1 H.1 (M.mono λy hy=>Pc _ hy),KRs.ren h2 H.2 (M.mono λy hy=>O8 _ hy)⟩
 |[],_,_::_,_,_,H,_=>by simp[KRs]at H
 |[],_,[],_::_,_,H,_=>by simp[KRs]at H
 |_::_,_,[],_,_,H,_=>by simp[KRs]at H
 |_::_,_,_::_,[],_,H,_=>by simp[KRs]at H
end
end
theorem oG{p:B3->Bool}:∀{l:List B3}{y:B3},y∈l->p y=false->(bi y.2.2.es).length+oq (l.filter p)<=oq l
 | x::l,y,hy,hp=>by
  rcases List.mem_cons.1 hy with rfl|hy
  ·simp only[List.filter_cons,hp,Ps,PS,oq,PM,QG];have:∀m:List B3,(List.map (λy=>(bi y.2.2.es).length) (m.filter p)).sum<=(List.map (λy=>(bi y.2.2.es).length) m).sum:=by
    intro m;induction m with
    |nil=>exact Pf _
    |cons z m ih=>
     simp only[List.filter_cons];split
     ·simp only[PM,QG];omega
     ·simp only[PM,QG];omega
   have:=this l;omega
  ·have ih:=oG hy hp;simp only[oq]at ih⊢;simp only[List.filter_cons];split
   ·simp only[PM,QG];omega
   ·simp only[PM,QG];omega
theorem oV{h:Heap}{L:List B3}(hL:∀y∈L,h.get y.1=some ⟨y.2.1,some y.2.2⟩/\∀q∈bi y.2.2.es,inB L q):∀(n:Nat){todo:List (aq×Nat)}{acc Rm:List B3},todo.length+oq Rm<n->(∀q∈todo,inB L q)->(∀y∈L,y∈acc∨y∈Rm)->(∀y∈acc,y∈L)->
  ∃bor R,(gx n todo acc).runT h=some (bor,h,R,[])/\(∀y∈acc,y∈bor)/\(∀y∈bor,y∈L)/\(∀q∈todo,inB bor q)/\(∀y∈bor,y∈acc∨∀q∈bi y.2.2.es,inB bor q)/\∀r∈R,∃y∈L,y.1=r
 |0,todo,acc,Rm,hm,_,_,_=>by omega
 |n+1,[],acc,Rm,hm,_,_,hacc=>⟨acc,[],rfl,λ_ h=>h,hacc,λ_ h=>(by cases h),λy hy=>.inl hy,λ_ h=>(by cases h)⟩
 | n+1,(r,v)::rest,acc,Rm,hm,ht,hc,hacc=>by
  obtain⟨b,hb⟩:=ht (r,v) (Pj ..);simp only at hb;obtain⟨hg,hcl⟩:=hL _ hb;simp only at hg hcl;have hnd:=bB hg;simp only[gx];split
  ·rename_i hany;obtain⟨x,hx,hxe⟩:=List.any_eq_true.1 hany;simp only[O6,PF]at hxe;obtain⟨bor,R,k1,k2,k3,k4,k5,k6⟩:=oV hL n (todo:=rest) (acc:=acc) (Rm:=Rm) (by simp only[PJ]at hm;omega) (λq hq=>ht q (Pe _ hq)) hc hacc;refine⟨bor,R,k1,k2,k3,λq hq=>?_,k5,k6⟩;rcases List.mem_cons.1 hq with rfl|hq
   ·exact⟨x.2.2,by rw[<-hxe.1,<-hxe.2];exact k2 x hx⟩
   ·exact k4 q hq
  ·rename_i hany;have hnin:∀x∈acc,¬(x.1=r/\x.2.1=v):=λx hx he=>by
    apply hany;exact List.any_eq_true.2 ⟨x,hx,by simp[he.1,he.2]⟩
   have hRm:(r,v,b)∈Rm:=by
    rcases hc _ hb with h1|h1
    ·exact absurd ⟨rfl,rfl⟩ (hnin _ h1)
    ·exact h1
   try rw[Pd hnd]
   have hfl:=oG (p:=λy=> !(y.1==r&&y.2.1==v)) hRm (by simp);obtain⟨bor,R,k1,k2,k3,k4,k5,k6⟩:=oV hL n (todo:=rest++bi b.es) (acc:=acc++[(r,v,b)]) (Rm:=Rm.filter λy=> !(y.1==r&&y.2.1==v))
    (by simp only[PJ,Pu]at hm hfl⊢;omega)
    (λq hq=>by
     rcases List.mem_append.1 hq with hq|hq
     ·exact ht q (Pe _ hq)
     ·exact hcl q hq)
    (λy hy=>by
     by_cases he:y.1=r/\y.2.1=v
     ·left;have h1:=(hL y hy).1;rw[he.1,hg]at h1;have:y=(r,v,b):=by
       obtain⟨y1,y2,y3⟩:=y;simp only at he h1;simp only[O5,fg.mk.injEq]at h1;rw[he.1,he.2,h1.2]
      rw[this];exact O8 _ (List.mem_singleton.2 rfl)
     ·rcases hc y hy with h1|h1
      ·exact .inl (Pc _ h1)
      ·right;refine List.mem_filter.2 ⟨h1,?_⟩;simp only[PC,Q9,Q2,ne_eq];by_cases h2:y.1=r
       ·exact .inr λh3=>he ⟨h2,h3⟩
       ·exact .inl h2)
    (λy hy=>by
     rcases List.mem_append.1 hy with hy|hy
     ·exact hacc y hy
     ·simp only[Px]at hy;subst hy;exact hb)
   refine⟨bor,r::R,?_,λy hy=>k2 y (Pc _ hy),k3,λq hq=>?_,λy hy=>?_,λq hq=>?_⟩
   ·simp only[HM.runT,hg];simp only[PQ];rw[k1]
   ·rcases List.mem_cons.1 hq with rfl|hq
    ·exact⟨b,k2 _ (O8 _ (List.mem_singleton.2 rfl))⟩
    ·exact k4 q (Pc _ hq)
   ·rcases k5 y hy with h1|h1
    ·rcases List.mem_append.1 h1 with h1|h1
     ·exact .inl h1
     ·simp only[Px]at h1;subst h1;exact .inr λq hq=>k4 q (O8 _ hq)
    ·exact .inr h1
   ·rcases List.mem_cons.1 hq with rfl|hq
    ·exact⟨_,hb,rfl⟩
    ·exact k6 q hq
structure N4 (h:Heap) (Fr:aq->Prop) (v v':PV) (l:List B3) (R:List aq):Prop where
 run:(bR 9 v).runT h=some ((v',l),h,R,[])
 l:∀y∈l,Fr y.1/\h.get y.1=some ⟨y.2.1,some y.2.2⟩
 r:∀q∈R,q≠ .dead/\Fr q
def ArgR(h:Heap)(P:Nat->aq->Prop)(Fr:aq->Prop)(k:K)(b:Bool)(j:Nat)(v x:PV):Prop:=
 match k with
 |.F=>∃v',pl v'=true/\aO v'=x/\(v'=v∨(b=true/\∃l R,N4 h Fr v v' l R))
 |k=>KR h P k j v x/\(b=false∨∀n,bR (n+1) v=.ret (v,[]))
def dM(h:Heap)(P:Nat->aq->Prop)(Fr:aq->Prop):List K->List Bool->Nat->List PV->List PV->Prop
 |[],_,_,[],[]=>True
 |k::ks,b::bs,j,v::vs,x::xs=>ArgR h P Fr k b j v x/\dM h P Fr ks bs (j+k.n) vs xs
 |k::ks,[],j,v::vs,x::xs=>ArgR h P Fr k false j v x/\dM h P Fr ks [] (j+k.n) vs xs
 |_,_,_,_,_=>False
section
variable{h:Heap}{P:Nat->aq->Prop}{Fr:aq->Prop}
theorem ArgR.one{k:K}{b:Bool}{j:Nat}{v x:PV}(A:ArgR h P Fr k b j v x):
  if b then∃v' l R,(bR 9 v).runT h=some ((v',l),h,R,[])/\KR h P k j v' x/\(∀y∈l,Fr y.1/\h.get y.1=some ⟨y.2.1,some y.2.2⟩)/\(∀q∈R,q≠ .dead/\Fr q)else KR h P k j v x:=by
 cases k with
 | F=>
  obtain⟨v',h1,h2,h3⟩:=A;cases b with
  |true=>
   simp only[PQ];rcases h3 with rfl|⟨_,l,R,h3⟩
   ·exact⟨v',[],[],by rw[np h1];rfl,⟨h1,h2.symm⟩,λ_ h=>(by cases h),λ_ h=>(by cases h)⟩
   ·exact⟨v',l,R,h3.run,⟨h1,h2.symm⟩,h3.l,h3.r⟩
  |false=>
   simp only[Ps,PS];rcases h3 with rfl|⟨h3,_⟩
   ·exact⟨h1,h2.symm⟩
   ·cases h3
 | _=>
  obtain⟨h1,h2⟩:=A;cases b with
  |false=>exact h1
  |true=>
   simp only[PQ];rcases h2 with h2|h2
   ·cases h2
   ·exact⟨v,[],[],by rw[h2 8];rfl,h1,λ_ h=>(by cases h),λ_ h=>(by cases h)⟩
theorem qe:∀{ks:List K}{bs:List Bool}{j:Nat}{vs xs:List PV},dM h P Fr ks bs j vs xs->
  ∃args l R,(ew bs vs).runT h=some ((args,l),h,R,[])/\KRs h P ks j args xs/\(∀y∈l,Fr y.1/\h.get y.1=some ⟨y.2.1,some y.2.2⟩)/\(∀q∈R,q≠ .dead/\Fr q)
 |[],bs,j,[],[],_=>by
  refine⟨[],[],[],?_,trivial,λ_ h=>(by cases h),λ_ h=>(by cases h)⟩;cases bs with
  |nil=>rfl
  |cons b bs=>cases b<;>rfl
 | k::ks,b::bs,j,v::vs,x::xs,A=>by
  have h1:=A.1.one;obtain⟨args,l,R,k1,k2,k3,k4⟩:=qe A.2;cases b with
  | true=>
   simp only[PQ]at h1;obtain⟨v',l',R',q1,q2,q3,q4⟩:=h1;refine⟨v'::args,l'++l,R'++(R++[]),?_,⟨q2,k2⟩,λy hy=>?_,λq hq=>?_⟩
   ·simp only[ew];refine HM.runT_bind_of (W:=[]) (W2:=[]) q1 ?_;exact HM.runT_bind_of (W:=[]) (W2:=[]) k1 rfl
   ·rcases List.mem_append.1 hy with hy|hy
    ·exact q3 y hy
    ·exact k3 y hy
   ·simp only[PB]at hq;rcases List.mem_append.1 hq with hq|hq
    ·exact q4 q hq
    ·exact k4 q hq
  |false=>
   simp only[Ps,PS]at h1;refine⟨v::args,l,R++[],?_,⟨h1,k2⟩,k3,by simpa using k4⟩;simp only[ew];exact HM.runT_bind_of (W:=[]) (W2:=[]) k1 rfl
 |k::ks,[],j,v::vs,x::xs,A=>by
  have h1:=A.1.one;simp only[Ps,PS]at h1;obtain⟨args,l,R,k1,k2,k3,k4⟩:=qe (bs:=[]) A.2;simp only[ew,HM.runT,O5,Pq]at k1;obtain⟨⟨rfl,rfl⟩,_,rfl,_⟩:=k1;exact⟨v::vs,[],[],rfl,⟨h1,k2⟩,λ_ h=>(by cases h),λ_ h=>(by cases h)⟩
 |[],_,_,_::_,_,A=>by simp[dM]at A
 |[],_,_,[],_::_,A=>by simp[dM]at A
 |_::_,_,_,[],_,A=>by simp[dM]at A
 |_::_,_,_,_::_,[],A=>by simp[dM]at A
end
def HA(G:List Blk):Heap:=⟨G.map some,[]⟩
def HX(m:Nat)(G:List (Option Blk)):Heap:=⟨G.take m,(G.drop m).map λb=>⟨0,b⟩⟩
def eA:List K->Nat
 |[]=>0
 |.B false ks::ps=>K.nL ks+eA ps
 |_::ps=>eA ps
def Sig.nown(s:Sig):Nat:=s.r.n+eA s.ps
def KOuts(H:Heap)(P:Nat->aq->Prop):List K->List PV->Nat->List PV->Prop
 |[],[],_,[]=>True
 |.B false ks::ps,v::vs,j,x::xs=>(∃r ver n e os,v=.ptr r ver 0 0/\H.get r=some ⟨ver,some ⟨n,[e],false⟩⟩/\aj e.cells=true/\x=.lptr os/\KRs H P ks j e.cells os)/\KOuts H P ps vs (j+K.nL ks) xs
 |.B true _::ps,_::vs,j,xs=>KOuts H P ps vs j xs
 |.F::ps,_::vs,j,xs=>KOuts H P ps vs j xs
 |.O _ _::ps,_::vs,j,xs=>KOuts H P ps vs j xs
 |.Q::ps,_::vs,j,xs=>KOuts H P ps vs j xs
 |.A _::ps,_::vs,j,xs=>KOuts H P ps vs j xs
 |.T _::ps,_::vs,j,xs=>KOuts H P ps vs j xs
 |_,_,_,_=>False
def qD:List K->Nat->List Nat
 |[],_=>[]
 |.O _ _::ps,j=>j::qD ps (j+1)
 |k::ps,j=>qD ps (j+k.n)
def bH:List K->Nat->List Nat
 |[],_=>[]
 |.Q::ps,j=>j::bH ps (j+1)
 |.B true ks::ps,j=>(List.range (K.nL ks+1)).map (j+ ·)++bH ps (j+(K.nL ks+1))
 |k::ps,j=>bH ps (j+k.n)
def qg:List K->Nat->List Nat
 |[],_=>[]
 |.B false ks::ps,j=>(List.range (K.nL ks)).map (j+1+ ·)++qg ps (j+(K.nL ks+1))
 |k::ps,j=>qg ps (j+k.n)
def aV:List K->Nat->List Nat
 |[],_=>[]
 |.B false ks::ps,j=>j::aV ps (j+(K.nL ks+1))
 |k::ps,j=>aV ps (j+k.n)
def CU(sg:Sig)(i p:Nat):Prop:=(i<sg.r.n/\p∈qD sg.ps 0)∨(sg.r.n<=i/\(qg sg.ps 0)[i-sg.r.n]?=some p)
structure ExitP (sg:Sig) (P:Nat->aq->Prop) (args:List PV) (m n:Nat) (H:Heap) (rE r:PV) (outs:List PV) (P':Nat->aq->Prop):Prop where
 r:KR H P' sg.r 0 rE r
 o:KOuts H P' sg.ps args sg.r.n outs
 u1:∀i j q,P' i q->P' j q->i=j
 u2:∀i q q',P' i q->P' i q'->q=q'
 new:∀k,k<n->∃i,P' i (.l k)
 lt:∀i q,P' i q->i<sg.nown
 nd:∀i k,P' i (.l k)->k<n
 src:∀i k,P' i (.a k)->∃p,CU sg i p/\P p (.a k)
structure ExitOk (sg:Sig) (P:Nat->aq->Prop) (args:List PV) (G:List Blk) (G':List (Option Blk)) (rE r:PV) (outs:List PV):Prop where
 len:G.length<=G'.length
 sm:∀b∈G'.drop G.length,b≠none
 ex:∃P',ExitP sg P args G.length (G'.length-G.length) (HX G.length G') rE r outs P'
 keep:∀p∈bH sg.ps 0,∀k,P p (.a k)->SameRo ((HX G.length G').get (.a k)) ((HA G).get (.a k))
 fl:∀p,p∉aV sg.ps 0->∀(k:Nat)(b:Blk),P p (.a k)->G'[k]?=some (some b)->bX b.es=true
def Nz(FT:Nat->Option am)(sg:Sig)(f:Nat)(xs:List PV)(r:PV)(outs:List PV):Prop:=
 ∀(args:List PV)(G:List Blk)(P:Nat->aq->Prop),KRs (HA G) P sg.ps 0 args xs->(∀i j q,P i q->P j q->i=j)->(∀i q,P i q->∃k,q=.a k/\k<G.length)->(∀(k:Nat)(b:Blk),G[k]?=some b->(.a k,0,b)∈jS (HA G) sg.ps args)->
  ∃n rE G',bf FT n f args G=some (rE,G')/\ExitOk sg P args G G' rE r outs/\(K.nL sg.ps=0->sg.scal=true->d8 rE=true/\g9 (G'.drop G.length)=true)
theorem SameRo.refl(x:Option fg):SameRo x x:=.inl rfl
theorem SameRo.symm{x y:Option fg}(h:SameRo x y):SameRo y x:=by
 rcases h with rfl|⟨a,b,c,h1,h2⟩
 ·exact .inl rfl
 ·exact .inr ⟨a,b,c,h2,h1⟩
theorem SameRo.trans{x y z:Option fg}(h:SameRo x y)(k:SameRo y z):SameRo x z:=by
 rcases h with rfl|⟨a,b,c,h1,r,h2⟩
 ·exact k
 ·rcases k with rfl|⟨a',b',c',⟨r',k1⟩,k2⟩
  ·exact .inr ⟨a,b,c,h1,r,h2⟩
  ·rw[h2]at k1;cases k1;exact .inr ⟨a,b,c,h1,k2⟩
theorem sE:∀(l:List B3){h:Heap},(∀y∈l,∃ro,h.get y.1=some ⟨y.2.1,some ⟨y.2.2.sz,y.2.2.es,ro⟩⟩)->
  ∃h' W,(pZ l).runT h=some ((),h',[],W)/\(∀q,(∀y∈l,y.1≠q)->h'.get q=h.get q)/\(∀q,SameRo (h'.get q) (h.get q))/\h'.L.length=h.L.length/\h'.A.length=h.A.length/\∀q∈W,q≠ .dead/\∃y∈l,y.1=q
 |[],h,_=>⟨h,[],rfl,λ_ _=>rfl,λ_=>.inl rfl,rfl,rfl,λ_ h=>(by cases h)⟩
 | (r,v,b)::rest,h,H=>by
  simp only[pZ];by_cases hb:b.ro=true
  ·rw[O9 hb];obtain⟨h',W,k1,k2,k3,k4,k5,k6⟩:=sE rest (h:=h) (λy hy=>H y (Pe _ hy));exact⟨h',W,k1,λq hq=>k2 q λy hy=>hq y (Pe _ hy),k3,k4,k5,λq hq=>by
    obtain⟨a,y,hy,hq⟩:=k6 q hq;exact⟨a,y,Pe _ hy,hq⟩⟩
  ·rw[Pd hb];obtain⟨ro,hg⟩:=H _ (Pj ..);simp only at hg;have hver:∀i,r=.a i->(⟨v,some ⟨b.sz,b.es,true⟩⟩:fg).ver=0:=λi hi=>by
    rw[hi]at hg;have h0:=Heap.ver_a hg;exact h0
   have hg':=Heap.get_put_same hg hver;have hput:∀q,SameRo ((h.put r ⟨v,some ⟨b.sz,b.es,true⟩⟩).get q) (h.get q):=λq=>by
    by_cases hq:q=r
    ·subst hq;exact .inr ⟨v,b.sz,b.es,⟨true,hg'⟩,ro,hg⟩
    ·exact .inl (Heap.get_put_other hq)
   obtain⟨h',W,k1,k2,k3,k4,k5,k6⟩:=sE rest (h:=h.put r ⟨v,some ⟨b.sz,b.es,true⟩⟩) (λy hy=>by
    obtain⟨ro',hy'⟩:=H y (Pe _ hy);rcases hput y.1 with e|⟨ver,sz,es,⟨r1,e1⟩,r2,e2⟩
    ·exact⟨ro',by rw[e];exact hy'⟩
    ·rw[hy']at e2;cases e2;exact⟨r1,e1⟩)
   refine⟨h',r::W,?_,λq hq=>?_,λq=>(k3 q).trans (hput q),by rw[k4,(bq _ _ _).1],by rw[k5,(bq _ _ _).2],λq hq=>?_⟩
   ·simp only[HM.runT,hg];rw[k1]
   ·rw[k2 q λy hy=>hq y (Pe _ hy)];exact Heap.get_put_other λe=>hq _ (Pj ..) e.symm
   ·rcases List.mem_cons.1 hq with rfl|hq
    ·exact⟨bB hg,_,Pj ..,rfl⟩
    ·obtain⟨a,y,hy,hq⟩:=k6 q hq;exact⟨a,y,Pe _ hy,hq⟩
theorem tn:∀(n s:Nat){h:Heap},s+n<=h.L.length->∃nv R,(pC s n).runT h=some (nv,h,R,[])/\nv.length=n/\∀q∈R,∃k,k<n/\q=.l (s+k)
 |0,s,h,_=>⟨[],[],rfl,rfl,λ_ h=>(by cases h)⟩
 | n+1,s,h,hl=>by
  obtain⟨nv,R,k1,k2,k3⟩:=tn n (s+1) (h:=h) (by omega);obtain⟨e,hg⟩:=lF (h:=h) (s:=s) rfl (by omega);refine⟨(e.ver+1)::nv,.l s::(R++[]),?_,by simp[k2],λq hq=>?_⟩
  ·simp only[pC,HM.runT,hg];rw[HM.runT_bind_of (R2:=[]) (W:=[]) (W2:=[]) k1 rfl];rfl
  ·rw[PB]at hq;rcases List.mem_cons.1 hq with rfl|hq
   ·exact⟨0,by omega,rfl⟩
   ·obtain⟨k,h1,h2⟩:=k3 q hq;exact⟨k+1,by omega,by rw[h2];congr 1;omega⟩
theorem tE(f:aq->Nat->Option (aq×Nat)):∀(l:List B3)(bs:List (Option Blk)){h:Heap},l.length=bs.length->l.Pairwise (λx y=>x.1≠y.1)->(∀y∈l,∃b,h.get y.1=some ⟨y.2.1,b⟩)->
  ∃h' W,(iO f l bs).runT h=some ((),h',[],W)/\(∀(i:Nat)(y:B3)(b:Option Blk),l[i]?=some y->bs[i]?=some b->h'.get y.1=some ⟨y.2.1,b.map (Blk.ren f)⟩)/\(∀q,(∀y∈l,y.1≠q)->h'.get q=h.get q)/\
   h'.L.length=h.L.length/\h'.A.length=h.A.length/\∀q∈W,q≠ .dead/\∃y∈l,y.1=q
 |[],bs,h,hl,_,_=>by
  have:bs=[]:=P9 hl.symm;subst this;exact⟨h,[],rfl,λi y b h=>(by simp at h),λ_ _=>rfl,rfl,rfl,λ_ h=>(by cases h)⟩
 |(r,v,b0)::rest,[],h,hl,_,_=>by simp at hl
 | (r,v,b0)::rest,b::bs,h,hl,hp,H=>by
  obtain⟨b1,hg⟩:=H _ (Pj ..);simp only at hg;rw[List.pairwise_cons]at hp;have hver:∀i,r=.a i->(⟨v,b.map (Blk.ren f)⟩:fg).ver=0:=λi hi=>by
   rw[hi]at hg;have h0:=Heap.ver_a hg;exact h0
  have hg':=Heap.get_put_same hg hver;obtain⟨h',W,k1,k2,k3,k4,k5,k6⟩:=tE f rest bs (h:=h.put r ⟨v,b.map (Blk.ren f)⟩) (by simpa using hl) hp.2 (λy hy=>by
   obtain⟨b2,hb2⟩:=H y (Pe _ hy);exact⟨b2,by rw[Heap.get_put_other (λe=>hp.1 y hy e.symm)];exact hb2⟩)
  refine⟨h',r::W,?_,λi y c h1 h2=>?_,λq hq=>?_,by rw[k4,(bq _ _ _).1],by rw[k5,(bq _ _ _).2],λq hq=>?_⟩
  ·cases b with
   |none=>simp only[Option.map]at k1;simp only[iO,HM.runT,hg];rw[k1]
   |some b=>simp only[Option.map]at k1;simp only[iO,HM.runT,hg];rw[k1]
  ·cases i with
   |zero=>
    simp only[Pg,O5]at h1 h2;subst h1;subst h2;simp only;rw[k3 r λy hy e=>hp.1 y hy e.symm];exact hg'
   |succ i=>exact k2 i y c (by simpa using h1) (by simpa using h2)
  ·rw[k3 q λy hy=>hq y (Pe _ hy)];exact Heap.get_put_other λe=>hq _ (Pj ..) e.symm
  ·rcases List.mem_cons.1 hq with rfl|hq
   ·exact⟨bB hg,_,Pj ..,rfl⟩
   ·obtain⟨a,y,hy,hq⟩:=k6 q hq;exact⟨a,y,Pe _ hy,hq⟩
theorem vv(f:aq->Nat->Option (aq×Nat)):∀(nv:List Nat)(bs:List (Option Blk))(s:Nat){h:Heap},nv.length=bs.length->(∀b∈bs,b≠none)->s+nv.length<=h.L.length->
  ∃h' W,(lD f s nv bs).runT h=some ((),h',[],W)/\(∀(k v:Nat)(b:Blk),nv[k]?=some v->bs[k]?=some (some b)->h'.get (.l (s+k))=some ⟨v,some (b.ren f)⟩)/\(∀q,(∀k,k<nv.length->q≠ .l (s+k))->h'.get q=h.get q)/\
   h'.L.length=h.L.length/\h'.A.length=h.A.length/\∀q∈W,∃k,k<nv.length/\q=.l (s+k)
 |[],bs,s,h,hl,_,_=>by
  have:bs=[]:=P9 hl.symm;subst this;exact⟨h,[],rfl,λk v b h=>(by simp at h),λ_ _=>rfl,rfl,rfl,λ_ h=>(by cases h)⟩
 |v::nv,[],s,h,hl,_,_=>by simp at hl
 |v::nv,none::bs,s,h,_,hb,_=>absurd rfl (hb none (Pj ..))
 | v::nv,some b::bs,s,h,hl,hb,hL=>by
  simp only[PJ]at hL;obtain⟨e,hg⟩:=lF (h:=h) (s:=s) rfl (by omega);have hg':=Heap.get_put_same (e':=⟨v,some (b.ren f)⟩) hg (by intro i h;cases h);obtain⟨h',W,k1,k2,k3,k4,k5,k6⟩:=vv f nv bs (s+1) (h:=h.put (.l s) ⟨v,some (b.ren f)⟩) (by simpa using hl) (λb hb'=>hb b (Pe _ hb')) (by rw[(bq _ _ _).1];omega);refine⟨h',.l s::W,?_,λk v' b' h1 h2=>?_,λq hq=>?_,by rw[k4,(bq _ _ _).1],by rw[k5,(bq _ _ _).2],λq hq=>?_⟩
  ·simp only[lD,HM.runT,hg];rw[k1]
  ·cases k with
   |zero=>
    simp only[Pg,O5]at h1 h2;subst h1;subst h2;rw[k3 _ λk hk e=>by simp only[aq.l.injEq]at e;omega];exact hg'
   |succ k=>
    have:=k2 k v' b' (by simpa using h1) (by simpa using h2);rw[show s+(k+1)=s+1+k by omega];exact this
  ·rw[k3 q λk hk e=>hq (k+1) (by simp only[PJ];omega) (by rw[e];congr 1;omega)];exact Heap.get_put_other λe=>hq 0 (by simp) (by rw[e];rfl)
  ·rcases List.mem_cons.1 hq with rfl|hq
   ·exact⟨0,by simp,rfl⟩
   ·obtain⟨k,h1,h2⟩:=k6 q hq;exact⟨k+1,by simp only[PJ];omega,by rw[h2];congr 1;omega⟩
theorem vz:∀(m:Nat)(l:List Nat),l.Nodup->(∀x∈l,x<m)->l.length<=m
 |0,[],_,_=>Pf _
 |0,x::l,_,h=>absurd (h x (Pj ..)) (by omega)
 | m+1,l,hn,h=>by
  by_cases hm:m∈l
  ·have h1:=vz m (l.erase m) (hn.erase m) (λx hx=>by
    have:=(List.Nodup.mem_erase_iff hn).1 hx;have:=h x this.2;omega)
   rw[List.length_erase_of_mem hm]at h1;omega
  ·have:=vz m l hn (λx hx=>by
    have h1:=h x hx;have:x≠m:=λe=>hm (e▸hx);omega)
   omega
theorem Jo{n m:Nat}{R:Nat->Nat->Prop}(h1:∀k,k<n->∃i,i<m/\R k i)(h2:∀k k' i,R k i->R k' i->k=k'):n<=m:=by
 classical
 have:∀n',n'<=n->∃l:List Nat,l.length=n'/\l.Nodup/\(∀x∈l,x<m/\∃k,k<n'/\R k x):=by
  intro n';induction n' with
  |zero=>intro _;exact⟨[],rfl,List.nodup_nil,λ_ h=>(by cases h)⟩
  | succ n' ih=>
   intro hn;obtain⟨l,q1,q2,q3⟩:=ih (by omega);obtain⟨i,hi,hr⟩:=h1 n' (by omega);refine⟨i::l,by simp[q1],List.nodup_cons.2 ⟨λhmem=>?_,q2⟩,λx hx=>?_⟩
   ·obtain⟨_,k,hk,hk'⟩:=q3 i hmem;have:=h2 _ _ _ hr hk';omega
   ·rcases List.mem_cons.1 hx with rfl|hx
    ·exact⟨hi,n',by omega,hr⟩
    ·obtain⟨a,k,b,c⟩:=q3 x hx;exact⟨a,k,by omega,c⟩
 obtain⟨l,q1,q2,q3⟩:=this n (Pf _);rw[<-q1];exact vz m l q2 λx hx=>(q3 x hx).1
theorem ExitP.cnt{sg:Sig}{P:Nat->aq->Prop}{args:List PV}{m n:Nat}{H:Heap}{rE r:PV}{outs:List PV}{P':Nat->aq->Prop}(E:ExitP sg P args m n H rE r outs P'):n<=sg.nown:=
 Jo (R:=λk i=>P' i (.l k)) (λk hk=>by obtain⟨i,hi⟩:=E.new k hk;exact⟨i,E.lt i _ hi,hi⟩) λk k' i h1 h2=>by
  have:=E.u2 i _ _ h1 h2;simpa using this
structure Closed (h:Heap) (S:List B3):Prop where
 live:∀y∈S,h.get y.1=some ⟨y.2.1,some y.2.2⟩
 cl:∀y∈S,∀q∈bi y.2.2.es,inB S q
theorem Closed.mem{h:Heap}{S:List B3}(C:Closed h S){r:aq}{ver:Nat}{b:Blk}(hi:inB S (r,ver))(hg:h.get r=some ⟨ver,some b⟩):(r,ver,b)∈S:=by
 obtain⟨b',hb⟩:=hi;have:=C.live _ hb;simp only at this hb;rw[hg]at this;cases this;exact hb
section
variable{h:Heap}{P:Nat->aq->Prop}{S:List B3}
theorem vR(C:Closed h S){j:Nat}:∀{vs xs:List PV},QL (P j) h vs xs->(∀q∈bi vs,inB S q)->∀y∈QB h vs,y∈S/\bX y.2.2.es=true
 |[],[],_,_,y,hy=>by cases hy
 | v::vs,x::xs,H,ht,y,hy=>by
  rcases H.1 with⟨hp,hl,hx⟩|⟨r,ver,n,e,ro,rfl,hr,hg,ho,hpl,hx⟩
  ·have hq:QB h (v::vs)=QB h vs:=by cases v<;>first|rfl|(simp[pl]at hp;done)
   rw[hq]at hy;exact vR C H.2 (λq hq=>ht q (by simp only[bi];exact O8 _ hq)) y hy
  ·have hq:QB h (.ptr r ver 0 0::vs)=(r,ver,⟨n,[e],ro⟩)::QB h vs:=by simp only[QB,hg];rfl
   rw[hq]at hy;rcases List.mem_cons.1 hy with rfl|hy
   ·refine⟨C.mem (ht (r,ver) (by simp only[bi,kt];exact Pc _ (List.mem_singleton.2 rfl))) hg,?_⟩;rcases dR ho with hc|⟨cs,rfl⟩
    ·have:e.cells=[e]:=by cases e<;>simp_all [PV.isCell,PV.cells]
     rw[this]at hpl;simpa[bX]using hpl
    ·simp only[PV.cells]at ho hpl;simp only[bX,pl,ho,hpl,PE]
   ·exact vR C H.2 (λq hq=>ht q (by simp only[bi];exact O8 _ hq)) y hy
 |[],_::_,H,_,_,_=>by cases H
 |_::_,[],H,_,_,_=>by cases H
mutual
theorem Gz(C:Closed h S):∀{k:K}{j:Nat}{v x:PV},KR h P k j v x->(∀q∈kt v,inB S q)->∀y∈KB h k v,y∈S
 |.F,j,v,x,H,_,y,hy=>by cases hy
 | .O sz wf,j,v,x,H,ht,y,hy=>by
  rcases H.1 with⟨hn,_⟩|⟨r,ver,off,len,room,c0,b,rfl,hr,hg,_⟩
  ·rcases hn with rfl|rfl<;>cases hy
  ·have hq:KB h (.O sz wf) (.tok r ver sz off len room c0)=[(r,ver,b)]:=by simp only[KB,hg]
   rw[hq,Px]at hy;subst hy;exact C.mem (ht (r,ver) (by simp[kt])) hg
 |.Q,j,v,x,H,ht,y,hy=>by
  obtain⟨f,vs,xs,rfl,rfl,h3,h4⟩:=H;exact(vR C h3 ht y hy).1
 | .B ro ks,j,v,x,H,ht,y,hy=>by
  obtain⟨r,ver,n,e,ro',xs,rfl,h2,h3,h4,h5,h6,h7⟩:=H;have hq:KB h (.B ro ks) (.ptr r ver 0 0)=(r,ver,⟨n,[e],ro'⟩)::jS h ks e.cells:=by simp only[KB,h3]
  have hm:=C.mem (ht (r,ver) (by simp[kt])) h3;rw[hq]at hy;rcases List.mem_cons.1 hy with rfl|hy
  ·exact hm
  ·refine pz C h7 (λq hq=>C.cl _ hm q ?_) y hy;simp only[bi,PB];rw[jF e (dR h5)];exact hq
 |.A ks,j,v,x,H,ht,y,hy=>by
  obtain⟨vs,xs,rfl,h2,h3,h4⟩:=H;exact pz C h4 ht y hy
 |.T ks,j,v,x,H,ht,y,hy=>by
  obtain⟨vs,xs,rfl,h3,h4⟩:=H;exact pz C h4 ht y hy
theorem pz(C:Closed h S):∀{ks:List K}{j:Nat}{vs xs:List PV},KRs h P ks j vs xs->(∀q∈bi vs,inB S q)->∀y∈jS h ks vs,y∈S
 |[],j,[],[],_,_,y,hy=>by cases hy
 |k::ks,j,v::vs,x::xs,H,ht,y,hy=>by
  rcases List.mem_append.1 hy with hy|hy
  ·exact Gz C H.1 (λq hq=>ht q (by simp only[bi];exact Pc _ hq)) y hy
  ·exact pz C H.2 (λq hq=>ht q (by simp only[bi];exact O8 _ hq)) y hy
 |[],_,_::_,_,H,_,_,_=>by simp[KRs]at H
 |[],_,[],_::_,H,_,_,_=>by simp[KRs]at H
 |_::_,_,[],_,H,_,_,_=>by simp[KRs]at H
 |_::_,_,_::_,[],H,_,_,_=>by simp[KRs]at H
end
end
section
variable{h h2:Heap}{P:Nat->aq->Prop}{f:aq->Nat->Option (aq×Nat)}
def Ki(h2:Heap)(f:aq->Nat->Option (aq×Nat))(l:List B3):Prop:=∀y∈l,∃r' ver',f y.1 y.2.1=some (r',ver')/\h2.get r'=some ⟨ver',some (y.2.2.ren f)⟩
theorem Bh{j:Nat}:∀{vs xs:List PV},QL (P j) h vs xs->Ki h2 f (QB h vs)->∀y∈QB h vs,∀r' ver',f y.1 y.2.1=some (r',ver')->(r',ver',y.2.2.ren f)∈QB h2 (co f vs)
 |[],[],_,_,y,hy=>by cases hy
 | v::vs,x::xs,H,M,y,hy=>by
  intro r' ver' hf;rcases H.1 with⟨hp,hl,hx⟩|⟨r,ver,n,e,ro,rfl,hr,hg,ho,hpl,hx⟩
  ·have hq:∀h,QB h (v::vs)=QB h vs:=by intro h;cases v<;>first|rfl|(simp[pl]at hp;done)
   have hq':QB h2 (co f (v::vs))=QB h2 (co f vs):=by
    simp only[co,(nS hp f).1];cases v<;>first|rfl|(simp[pl]at hp;done)
   rw[hq]at hy M;rw[hq'];exact Bh H.2 M y hy r' ver' hf
  ·have hq:QB h (.ptr r ver 0 0::vs)=(r,ver,⟨n,[e],ro⟩)::QB h vs:=by simp only[QB,hg];rfl
   rw[hq]at hy M;obtain⟨r1,v1,m1,m2⟩:=M _ (Pj ..);simp only at m1 m2;have hq':QB h2 (co f (.ptr r ver 0 0::vs))=(r1,v1,Blk.ren f ⟨n,[e],ro⟩)::QB h2 (co f vs):=by simp only[co,ren,m1,QB,m2];rfl
   rw[hq'];rcases List.mem_cons.1 hy with rfl|hy
   ·rw[m1]at hf;cases hf;exact Pj ..
   ·exact Pe _ (Bh H.2 (λy hy=>M y (Pe _ hy)) y hy r' ver' hf)
 |[],_::_,H,_,_,_=>by cases H
 |_::_,[],H,_,_,_=>by cases H
mutual
theorem Kb:∀{k:K}{j:Nat}{v x:PV},KR h P k j v x->Ki h2 f (KB h k v)->∀y∈KB h k v,∀r' ver',f y.1 y.2.1=some (r',ver')->(r',ver',y.2.2.ren f)∈KB h2 k (ren f v)
 |.F,j,v,x,H,_,y,hy=>by cases hy
 | .O sz wf,j,v,x,H,M,y,hy=>by
  intro r' ver' hf;rcases H.1 with⟨hn,_⟩|⟨r,ver,off,len,room,c0,b,rfl,hr,hg,_⟩
  ·rcases hn with rfl|rfl<;>cases hy
  ·have hq:KB h (.O sz wf) (.tok r ver sz off len room c0)=[(r,ver,b)]:=by simp only[KB,hg]
   rw[hq,Px]at hy;subst hy;obtain⟨r1,v1,m1,m2⟩:=M (r,ver,b) (by rw[hq];exact List.mem_singleton.2 rfl);simp only at m1 m2 hf;rw[m1]at hf;cases hf;simp only[ren,m1,KB,m2,Px]
 |.Q,j,v,x,H,M,y,hy=>by
  obtain⟨g,vs,xs,rfl,rfl,h3,h4⟩:=H;exact Bh h3 M y hy
 | .B ro ks,j,v,x,H,M,y,hy=>by
  intro r' ver' hf;obtain⟨r,ver,n,e,ro',xs,rfl,h2',h3,h4,h5,h6,h7⟩:=H;have hq:KB h (.B ro ks) (.ptr r ver 0 0)=(r,ver,⟨n,[e],ro'⟩)::jS h ks e.cells:=by simp only[KB,h3]
  rw[hq]at hy M;obtain⟨r1,v1,m1,m2⟩:=M _ (Pj ..);simp only at m1 m2;have hq':KB h2 (.B ro ks) (ren f (.ptr r ver 0 0))=(r1,v1,Blk.ren f ⟨n,[e],ro'⟩)::jS h2 ks (co f e.cells):=by
   simp only[ren,m1,KB,m2,Blk.ren,co,gF]
  rw[hq'];rcases List.mem_cons.1 hy with rfl|hy
  ·rw[m1]at hf;cases hf;exact Pj ..
  ·exact Pe _ (qX h7 (λy hy=>M y (Pe _ hy)) y hy r' ver' hf)
 |.A ks,j,v,x,H,M,y,hy=>by
  obtain⟨vs,xs,rfl,h2',h3,h4⟩:=H;exact qX h4 M y hy
 |.T ks,j,v,x,H,M,y,hy=>by
  obtain⟨vs,xs,rfl,h3,h4⟩:=H;exact qX h4 M y hy
theorem qX:∀{ks:List K}{j:Nat}{vs xs:List PV},KRs h P ks j vs xs->Ki h2 f (jS h ks vs)->∀y∈jS h ks vs,∀r' ver',f y.1 y.2.1=some (r',ver')->(r',ver',y.2.2.ren f)∈jS h2 ks (co f vs)
 |[],j,[],[],_,_,y,hy=>by cases hy
 |k::ks,j,v::vs,x::xs,H,M,y,hy=>by
  intro r' ver' hf;rcases List.mem_append.1 hy with hy|hy
  ·exact Pc _ (Kb H.1 (λy hy=>M y (Pc _ hy)) y hy r' ver' hf)
  ·exact O8 _ (qX H.2 (λy hy=>M y (O8 _ hy)) y hy r' ver' hf)
 |[],_,_::_,_,H,_,_,_=>by simp[KRs]at H
 |[],_,[],_::_,H,_,_,_=>by simp[KRs]at H
 |_::_,_,[],_,H,_,_,_=>by simp[KRs]at H
 |_::_,_,_::_,[],H,_,_,_=>by simp[KRs]at H
end
end
def qf:List K->Bool
 |[]=>true
 |.B true ks::ps=>ny ks&&qf ps
 |_::ps=>qf ps
theorem oL{h:Heap}{P:Nat->aq->Prop}:∀{ks:List K}{j:Nat}{vs xs:List PV},ny ks=true->KRs h P ks j vs xs->bX vs=true/\xs=aB vs/\K.nL ks=0
 |[],j,[],[],_,_=>⟨rfl,rfl,rfl⟩
 |.F::ks,j,v::vs,x::xs,ha,H=>by
  obtain⟨h1,h2,h3⟩:=oL (ks:=ks) ha H.2;exact⟨by simp only[bX,H.1.1,h1,PE],by simp only[aB,<-H.1.2,h2],by simp only[K.nL,K.n,h3]⟩
 |.O _ _::_,_,_,_,ha,_=>by simp[ny]at ha
 |.Q::_,_,_,_,ha,_=>by simp[ny]at ha
 |.B .. ::_,_,_,_,ha,_=>by simp[ny]at ha
 |.A _::_,_,_,_,ha,_=>by simp[ny]at ha
 |.T _::_,_,_,_,ha,_=>by simp[ny]at ha
 |[],_,_::_,_,_,H=>by simp[KRs]at H
 |[],_,[],_::_,_,H=>by simp[KRs]at H
 |.F::_,_,[],_,_,H=>by simp[KRs]at H
 |.F::_,_,_::_,[],_,H=>by simp[KRs]at H
theorem kq:∀{ps:List K}{j p:Nat},p∈bH ps j->j<=p
 |[],j,p,h=>by cases h
 | k::ps,j,p,h=>by
  unfold bH at h;split at h
  ·cases h
  ·rename_i e;cases e;rcases List.mem_cons.1 h with rfl|h
   ·exact Pf _
   ·have:=kq h;omega
  ·rename_i e;cases e;rcases List.mem_append.1 h with h|h
   ·obtain⟨i,_,rfl⟩:=List.mem_map.1 h;omega
   ·have:=kq h;omega
  ·rename_i e;cases e;have:=kq h;omega
theorem qL{h:Heap}{P:Nat->aq->Prop}(u1:∀i j q,P i q->P j q->i=j):∀{ps:List K}{j:Nat}{vs xs:List PV},qf ps=true->KRs h P ps j vs xs->∀p∈bH ps j,∀y∈jS h ps vs,P p y.1->bX y.2.2.es=true
 |[],j,[],[],_,_,p,hp,_,_,_=>by cases hp
 | k::ps,j,v::vs,x::xs,hq,H,p,hp,y,hy,hP=>by
  have hhead:∀i,j+k.n<=i->p=i->y∈KB h k v->False:=λi hi he hy=>by
   obtain⟨_,⟨i',h1,h2,h3⟩,_⟩:=(xI H.1).b y hy;have:=u1 _ _ _ hP h3;omega
  have htail:p<j+k.n->y∈jS h ps vs->False:=λhlt hy=>by
   obtain⟨_,⟨i',h1,h2,h3⟩,_⟩:=(ga H.2).b y hy;have:=u1 _ _ _ hP h3;omega
  have rest:qf ps=true->p∈bH ps (j+k.n)->bX y.2.2.es=true:=λhq' hp'=>by
   rcases List.mem_append.1 hy with hy|hy
   ·exact(hhead p (kq hp') rfl hy).elim
   ·exact qL u1 hq' H.2 p hp' y hy hP
  cases k with
  | Q=>
   rcases List.mem_cons.1 hp with rfl|hp
   ·rcases List.mem_append.1 hy with hy|hy
    ·obtain⟨f,vs',xs',rfl,rfl,h3,h4⟩:=H.1;have hc:Closed h (QB h vs'):=by
      obtain⟨_,q2,_⟩:=xk h3;exact⟨λy hy=>(q2 y hy).1,λy hy q hq=>by rw[(q2 y hy).2.2]at hq;cases hq⟩
     exact(vR hc h3 (xk h3).1 y hy).2
    ·exact(htail (by simp[K.n]) hy).elim
   ·exact rest hq hp
  | B ro ks=>
   cases ro with
   |false=>exact rest hq (by simpa only[bH,K.n]using hp)
   | true=>
    simp only[qf,O6]at hq;rcases List.mem_append.1 hp with hp|hp
    ·obtain⟨i,hi,rfl⟩:=List.mem_map.1 hp;rw[List.mem_range]at hi;rcases List.mem_append.1 hy with hy|hy
     ·obtain⟨r,ver,n,e,ro',xs',rfl,h2,h3,h4,h5,h6,h7⟩:=H.1;have hqq:KB h (.B true ks) (.ptr r ver 0 0)=(r,ver,⟨n,[e],ro'⟩)::jS h ks e.cells:=by simp only[KB,h3]
      obtain⟨k1,k2,k3⟩:=oL hq.1 h7;have hno:jS h ks e.cells=[]:=by
       rw[List.eq_nil_iff_forall_not_mem];intro z hz;obtain⟨_,⟨i',h1,h2,_⟩,_⟩:=(ga h7).b z hz;omega
      rw[hqq,hno,Px]at hy;subst hy;rcases dR h5 with hc|⟨cs,rfl⟩
      ·have:e.cells=[e]:=by cases e<;>simp_all [PV.isCell,PV.cells]
       rw[this]at k1;simpa[bX]using k1
      ·simp only[PV.cells]at h5 k1;simp only[bX,pl,h5,k1,PE]
     ·exact(htail (by simp only[K.n];omega) hy).elim
    ·exact rest hq.2 (by simpa only[K.n]using hp)
  |F=>exact rest hq (by simpa only[bH,K.n]using hp)
  |O sz wf=>exact rest hq (by simpa only[bH,K.n]using hp)
  |A ks=>exact rest hq (by simpa only[bH,K.n]using hp)
  |T ks=>exact rest hq (by simpa only[bH,K.n]using hp)
 |[],_,_::_,_,_,H,_,_,_,_,_=>by simp[KRs]at H
 |[],_,[],_::_,_,H,_,_,_,_,_=>by simp[KRs]at H
 |_::_,_,[],_,_,H,_,_,_,_,_=>by simp[KRs]at H
 |_::_,_,_::_,[],_,H,_,_,_,_,_=>by simp[KRs]at H
def NF:List K->List PV->List PV->Prop
 |[],[],[]=>True
 |k::ks,v::vs,a::as=>((∀h P j x,k=.F∨(KR h P k j v x->KR h P k j a x))/\(k=.F∨a=v))/\NF ks vs as
 |_,_,_=>False
theorem NF.of{h:Heap}{P:Nat->aq->Prop}{Fr:aq->Prop}:∀{ks:List K}{bs:List Bool}{j:Nat}{vs xs args:List PV}{l:List B3}{R:List aq},dM h P Fr ks bs j vs xs->(ew bs vs).runT h=some ((args,l),h,R,[])->NF ks vs args
 | [],bs,j,[],[],args,l,R,_,hr=>by
  have:ew bs []=.ret ([],[]):=by
   cases bs with
   |nil=>rfl
   |cons b bs=>cases b<;>rfl
  rw[this]at hr;simp only[HM.runT,O5,Pq]at hr;obtain⟨⟨rfl,_⟩,_⟩:=hr;trivial
 | k::ks,b::bs,j,v::vs,x::xs,args,l,R,A,hr=>by
  cases b with
  | true=>
   simp only[ew,HM.runT_bind]at hr;cases h1:(bR 9 v).runT h with
   |none=>rw[h1]at hr;cases hr
   | some p=>
    obtain⟨⟨v',l'⟩,g,R1,W1⟩:=p;rw[h1]at hr;simp only at hr;cases h2:(ew bs vs).runT g with
    |none=>rw[h2]at hr;cases hr
    | some q=>
     obtain⟨⟨as,l2⟩,g2,R2,W2⟩:=q;rw[h2]at hr;simp only[HM.runT,O5,Pq]at hr;obtain⟨⟨rfl,_⟩,rfl,_,hW⟩:=hr;have hone:k=.F∨v'=v:=by
      cases k with
      |F=>exact .inl rfl
      | _=>
       right;rcases A.1.2 with h3|h3
       ·cases h3
       ·rw[h3 8]at h1;simp only[HM.runT,O5,Pq]at h1;exact h1.1.1.symm
     have hg:g=g2:=by
      have:=A.1.one;simp only[PQ]at this;obtain⟨_,_,_,k1,_⟩:=this;rw[h1]at k1;simp only[O5,Pq]at k1;exact k1.2.1
     subst hg;have hW':W1=[]/\W2=[]:=by simpa using hW
     refine⟨⟨λh P j x=>?_,hone⟩,?_⟩
     ·rcases hone with h3|h3
      ·exact .inl h3
      ·exact .inr λh=>by rw[h3];exact h
     ·exact NF.of A.2 (by rw[h2,hW'.2])
  | false=>
   simp only[ew,HM.runT_bind]at hr;cases h2:(ew bs vs).runT h with
   |none=>rw[h2]at hr;cases hr
   |some q=>
    obtain⟨⟨as,l2⟩,g2,R2,W2⟩:=q;rw[h2]at hr;simp only[HM.runT,O5,Pq]at hr;obtain⟨⟨rfl,_⟩,rfl,_,hW⟩:=hr;have hW':W2=[]:=by simpa using hW
    exact⟨⟨λh P j x=>.inr λh=>h,.inr rfl⟩,NF.of A.2 (by rw[h2,hW'])⟩
 |k::ks,[],j,v::vs,x::xs,args,l,R,A,hr=>by
  simp only[ew,HM.runT,O5,Pq]at hr;obtain⟨⟨rfl,_⟩,_⟩:=hr;refine⟨⟨λh P j x=>.inr λh=>h,.inr rfl⟩,NF.of (bs:=[]) (l:=[]) (R:=[]) A.2 rfl⟩
 |[],_,_,_::_,_,_,_,_,A,_=>by simp[dM]at A
 |[],_,_,[],_::_,_,_,_,A,_=>by simp[dM]at A
 |_::_,_,_,[],_,_,_,_,A,_=>by simp[dM]at A
 |_::_,_,_,_::_,[],_,_,_,A,_=>by simp[dM]at A
def dX:List K->Bool
 |[]=>true
 |.B false ks::ps=>rC ks&&dX ps
 |_::ps=>dX ps
theorem KOuts.back{h H h3:Heap}{P P' P3:Nat->aq->Prop}{fw bk:aq->Nat->Option (aq×Nat)}
  (hm:∀y:B3,H.get y.1=some ⟨y.2.1,some y.2.2⟩->∀i,P' i y.1->∃r' ver' ro',bk y.1 y.2.1=some (r',ver')/\h3.get r'=some ⟨ver',some ⟨y.2.2.sz,co bk y.2.2.es,ro'⟩⟩/\(y.2.2.ro=false->ro'=false)/\P3 i r')
  (bs:List Nat)(hb:∀p∈bs,∀r ver b,P p r->h.get r=some ⟨ver,some b⟩->∀q u b',fw r ver=some (q,u)->H.get q=some ⟨u,some b'⟩->∃ro',h3.get r=some ⟨ver,some ⟨b'.sz,co bk b'.es,ro'⟩⟩/\(b'.ro=false->ro'=false))
  (Lb:List B3)(hf:∀y∈Lb,fw y.1 y.2.1≠none):
  ∀{ps:List K}{vs as xs outs:List PV}{j0 j:Nat},dX ps=true->NF ps vs as->KRs h P ps j0 as xs->(∀p∈aV ps j0,p∈bs)->(∀y∈jS h ps as,y∈Lb)->KOuts H P' ps (co fw as) j outs->KOuts h3 P3 ps vs j outs
 |[],[],[],xs,[],j0,j,_,_,_,_,_,_=>trivial
 |[],[],[],xs,_::_,j0,j,_,_,_,_,_,H=>by simp[co,KOuts]at H
 |.B false ks::ps,v::vs,a::as,x::xs,[],j0,j,_,_,_,_,_,H=>by simp[co,KOuts]at H
 | .B false ks::ps,v::vs,a::as,x::xs,y::ys,j0,j,nq,N,kr,hbs,hLb,H=>by
  simp only[co,KOuts]at H;obtain⟨⟨r,ver,n,e,os,h1,h2,h3',h4,h5⟩,H2⟩:=H;simp only[dX,O6]at nq;obtain⟨r0,ver0,n0,e0,ro0,xs0,g1,g2,g3,g4,g5,g6,g7⟩:=kr.1;have hav:a=v:=by
   rcases N.1.2 with h|h
   ·cases h
   ·exact h
  have hmem:j0∈bs:=hbs j0 (by simp[aV]);refine⟨?_,KOuts.back hm bs hb Lb hf nq.2 N.2 (by simpa only[K.n]using kr.2) (λp hp=>hbs p (by simp only[aV];exact Pe _ hp)) (λy hy=>hLb y (O8 _ hy)) H2⟩;rw[g1]at h1;cases hfw:fw r0 ver0 with
  |none=>exact absurd hfw (hf (r0,ver0,⟨n0,[e0],ro0⟩) (hLb _ (by rw[g1];exact Pc _ (by simp only[KB,g3];exact Pj ..))))
  |some q=>
   obtain⟨q,u⟩:=q;simp only[ren,hfw,PV.ptr.injEq,Rc]at h1;obtain⟨rfl,rfl⟩:=h1;obtain⟨ro',k1,k2⟩:=hb j0 hmem r0 ver0 _ g2 g3 q u _ hfw h2;have:=k2 rfl;subst this;simp only[co]at k1;refine⟨r0,ver0,n,ren bk e,os,by rw[<-hav];exact g1,k1,by rw[gF,jA];exact h3',h4,?_⟩;rw[gF];exact KRs.ren (.inl nq.1) h5 λy hy i hP=>hm y ((ga h5).b y hy).1 i hP
 |.B true ks::ps,v::vs,a::as,x::xs,outs,j0,j,nq,N,kr,hbs,hLb,H=>by
  simp only[co,KOuts]at H⊢;exact KOuts.back hm bs hb Lb hf (by simpa only[dX]using nq) N.2 kr.2 (λp hp=>hbs p (by simpa only[aV,K.n]using hp)) (λy hy=>hLb y (O8 _ hy)) H
 |.F::ps,v::vs,a::as,x::xs,outs,j0,j,nq,N,kr,hbs,hLb,H=>by
  simp only[co,KOuts]at H⊢;exact KOuts.back hm bs hb Lb hf (by simpa only[dX]using nq) N.2 kr.2 (λp hp=>hbs p (by simpa only[aV,K.n]using hp)) (λy hy=>hLb y (O8 _ hy)) H
 |.O _ _::ps,v::vs,a::as,x::xs,outs,j0,j,nq,N,kr,hbs,hLb,H=>by
  simp only[co,KOuts]at H⊢;exact KOuts.back hm bs hb Lb hf (by simpa only[dX]using nq) N.2 kr.2 (λp hp=>hbs p (by simpa only[aV,K.n]using hp)) (λy hy=>hLb y (O8 _ hy)) H
 |.Q::ps,v::vs,a::as,x::xs,outs,j0,j,nq,N,kr,hbs,hLb,H=>by
  simp only[co,KOuts]at H⊢;exact KOuts.back hm bs hb Lb hf (by simpa only[dX]using nq) N.2 kr.2 (λp hp=>hbs p (by simpa only[aV,K.n]using hp)) (λy hy=>hLb y (O8 _ hy)) H
 |.A _::ps,v::vs,a::as,x::xs,outs,j0,j,nq,N,kr,hbs,hLb,H=>by
  simp only[co,KOuts]at H⊢;exact KOuts.back hm bs hb Lb hf (by simpa only[dX]using nq) N.2 kr.2 (λp hp=>hbs p (by simpa only[aV,K.n]using hp)) (λy hy=>hLb y (O8 _ hy)) H
 |.T _::ps,v::vs,a::as,x::xs,outs,j0,j,nq,N,kr,hbs,hLb,H=>by
  simp only[co,KOuts]at H⊢;exact KOuts.back hm bs hb Lb hf (by simpa only[dX]using nq) N.2 kr.2 (λp hp=>hbs p (by simpa only[aV,K.n]using hp)) (λy hy=>hLb y (O8 _ hy)) H
 |[],_::_,_,_,_,_,_,_,N,_,_,_,_=>by simp[NF]at N
 |[],[],_::_,_,_,_,_,_,N,_,_,_,_=>by simp[NF]at N
 |_::_,[],_,_,_,_,_,_,N,_,_,_,_=>by simp[NF]at N
 |_::_,_::_,[],_,_,_,_,_,N,_,_,_,_=>by simp[NF]at N
 |_::_,_::_,_::_,[],_,_,_,_,_,kr,_,_,_=>by simp[KRs]at kr
def t9(s n:Nat)(q:aq):Prop:=∃k,k<n/\q=.l (s+k)
theorem Hc{h:Heap}{P:Nat->aq->Prop}{k:K}{j:Nat}{v x:PV}(H:KR h P k j v x)(hs:fW x=true):v.scalar=true:=by
 have one:∀{w y:PV},pl w=true->aO w=y->(match y with|.int .. |.bool _|.str _|.nilp|.nilfn=>true|_=>false)=true->(match w with|.int .. |.bool _|.str _|.nilp|.nils|.nilfn=>true|_=>false)=true:=by
  intro w y hp hn hy;subst hn;cases w<;>simp_all [aO]
 cases k with
 |F=>
  obtain⟨hp,rfl⟩:=H;cases v<;>simp_all [aO,fW,PV.scalar,pl]
 |O sz wf=>
  rcases H.1 with⟨_,rfl⟩|⟨_,_,_,_,_,_,_,_,_,_,_,_,_,_,_,rfl⟩<;>simp[fW]at hs
 |Q=>obtain⟨f,vs,xs,_,rfl,_⟩:=H;simp[fW]at hs
 |B ro ks=>obtain⟨_,_,_,_,_,_,_,_,_,_,_,rfl,_⟩:=H;simp[fW]at hs
 |A ks=>obtain⟨_,_,_,_,rfl,_⟩:=H;simp[fW]at hs
 | T ks=>
  obtain⟨vs,xs,rfl,rfl,hR⟩:=H;simp only[fW,PV.scalar]at hs⊢;clear one;have key:∀{ks:List K}{j:Nat}{vs xs:List PV},KRs h P ks j vs xs->(xs.all λ |.int .. |.bool _|.str _|.nilp|.nilfn=>true|_=>false)=true->(vs.all λ |.int .. |.bool _|.str _|.nilp|.nils|.nilfn=>true|_=>false)=true:=by
   intro ks;induction ks with
   |nil=>
    intro j vs xs hR _;cases vs with
    |nil=>rfl
    |cons=>cases xs<;>simp[KRs]at hR
   | cons k ks ih=>
    intro j vs xs hR hx;cases vs with
    |nil=>simp[KRs]at hR
    | cons v vs=>
     cases xs with
     |nil=>simp[KRs]at hR
     | cons x xs=>
      simp only[List.all_cons,O6]at hx⊢;refine⟨?_,ih hR.2 hx.2⟩;have h1:=hR.1;cases k with
      |F=>
       obtain⟨hp,rfl⟩:=h1;cases v<;>simp_all [aO,pl]
      |O sz wf=>
       rcases h1.1 with⟨_,rfl⟩|⟨_,_,_,_,_,_,_,_,_,_,_,_,_,_,_,rfl⟩<;>simp at hx
      |Q=>obtain⟨f,vs,xs,_,rfl,_⟩:=h1;simp at hx
      |B ro ks=>obtain⟨_,_,_,_,_,_,_,_,_,_,_,rfl,_⟩:=h1;simp at hx
      |A ks=>obtain⟨_,_,_,_,rfl,_⟩:=h1;simp at hx
      |T ks=>obtain⟨_,_,_,rfl,_⟩:=h1;simp at hx
  exact key hR hs
structure Called (sg:Sig) (h:Heap) (P:Nat->aq->Prop) (Fr:aq->Prop) (args0:List PV) (s:Nat) (v r:PV) (outs:List PV) (h3:Heap) (R W:List aq) (P3:Nat->aq->Prop):Prop where
 rr:KR h3 P3 sg.r 0 v r
 o:KOuts h3 P3 sg.ps args0 sg.r.n outs
 u1:∀i j q,P3 i q->P3 j q->i=j
 lt:∀i q,P3 i q->i<sg.nown
 cls:∀i q,P3 i q->t9 s sg.nown q∨∃p,CU sg i p/\P p q
 frame:∀q,(∀p,¬P p q)->¬t9 s sg.nown q->¬Fr q->h3.get q=h.get q
 fr:∀q,(∀p,¬P p q)->¬t9 s sg.nown q->SameRo (h3.get q) (h.get q)
 keep:∀p∈bH sg.ps 0,∀q,P p q->SameRo (h3.get q) (h.get q)
 pure:K.nL sg.ps=0->sg.nown=0->sg.scal=true->h3=h/\W=[]
 cln:K.nL sg.ps=0->sg.scal=true->(∀q,¬t9 s sg.nown q->h3.get q=h.get q)/\∀q∈W,t9 s sg.nown q
 fl:∀i ver b,h3.get (.a i)=some ⟨ver,some b⟩->(∃ver' b',h.get (.a i)=some ⟨ver',some b'⟩/\b'.es=b.es)∨bX b.es=true∨∃p∈aV sg.ps 0,P p (.a i)
 ll:h3.L.length=h.L.length
 la:h3.A.length=h.A.length
 rd:∀q∈R,q≠ .dead/\(Fr q∨(∃p,P p q)∨t9 s sg.nown q)
 wr:∀q∈W,q≠ .dead/\(Fr q∨(∃p,P p q)∨t9 s sg.nown q)
theorem KR.isPart{h:Heap}{P:Nat->aq->Prop}{ks:List K}{j:Nat}{vs xs:List PV}(H:KRs h P ks j vs xs){y:B3}(hy:y∈jS h ks vs):∃i,P i y.1:=by
 obtain⟨_,⟨i,_,_,h3⟩,_⟩:=(ga H).b y hy;exact⟨i,h3⟩
theorem vl{FT:Nat->Option am}{sg:Sig}{f:Nat}{xs:List PV}{r:PV}{outs:List PV}(hC:Nz FT sg f xs r outs){h:Heap}{P:Nat->aq->Prop}{Fr:aq->Prop}{ro:List Bool}{args0:List PV}{s:Nat}
  (A:dM h P Fr sg.ps ro 0 args0 xs)(u1:∀i j q,P i q->P j q->i=j)(hFP:∀q,Fr q->∀i,¬P i q)(hw:K.wL sg.ps<99)(hs:s+sg.nown<=h.L.length)(hqp:qf sg.ps=true)(hnq:Bi sg.r=true)(hno:dX sg.ps=true)
  (hav1:∀i p q,CU sg i p->P p q->t9 s sg.nown q->sg.nown=1)(hav2:∀p q,(p∈aV sg.ps 0∨p∈bH sg.ps 0)->P p q->¬t9 s sg.nown q):
  ∃n v h3 R W P3,(fc (bf FT n) ro f args0 s).runT h=some (v,h3,R,W)/\Called sg h P Fr args0 s v r outs h3 R W P3:=by
 obtain⟨args,l,R0,ra,kr,hl,hR0⟩:=qe A;have hNF:=NF.of A ra;have kb:=ga kr;obtain⟨bor,R1,c1,_,c3,c4,c5,c6⟩:=oV (L:=jS h sg.ps args) (λy hy=>⟨(kb.b y hy).1,(kb.b y hy).2.2⟩) 99 (todo:=bi args) (acc:=[]) (Rm:=jS h sg.ps args)
  (by have:=kb.w;omega) kb.t (λy hy=>.inr hy) (λy hy=>by cases hy)
 obtain⟨_,hlive,hpw⟩:=gK 99 (HM.runT_run c1) (λ_ h=>by cases h) List.Pairwise.nil;have hclosed:Closed h bor:=⟨hlive,λy hy q hq=>by
  rcases c5 y hy with h1|h1
  ·cases h1
  ·exact h1 q hq⟩
 have hall:∀y∈jS h sg.ps args,y∈bor:=pz hclosed kr c4;have hbP:∀y∈bor,∃i,P i y.1:=λy hy=>KR.isPart kr (c3 y hy);have hidx:∀y∈bor,∃i,bor[i]?=some y/\cU bor y.1 y.2.1=some (.a i,0):=by
  intro y hy;obtain⟨k,hk⟩:=QO hy;have hne:=ri (k:=0) (r:=y.1) (v:=y.2.1) (b:=y.2.2) hk;cases hx:fV y.1 y.2.1 bor 0 with
  |none=>exact absurd hx hne
  |some j=>
   obtain⟨i,b,h1,h2⟩:=dN hx;have:=dV hpw hk h2 rfl;subst this;exact⟨k,hk,by simp only[cU,hx,h1,PZ]⟩
 have huniq:∀{i j:Nat}{x y:B3},bor[i]?=some x->bor[j]?=some y->x.1=y.1->i=j:=λh1 h2 h3=>dV hpw h1 h2 h3;have hGget:∀(i:Nat)(y:B3),bor[i]?=some y->(HA (bor.map λx=>x.2.2.ren (cU bor))).get (.a i)=some ⟨0,some (y.2.2.ren (cU bor))⟩:=by
  intro i y hy;simp[HA,Heap.get,Pk,hy]
 have hmovF:Moved P (λi q=>∃k y,q=.a k/\bor[k]?=some y/\P i y.1) (HA (bor.map λx=>x.2.2.ren (cU bor))) (cU bor) (jS h sg.ps args):=by
  intro y hy i hP;obtain⟨k,h1,h2⟩:=hidx y (hall y hy);exact⟨.a k,0,y.2.2.ro,h2,hGget k y h1,λh=>h,k,y,rfl,h1,hP⟩
 have hinjF:Bn (cU bor):=λr v r' v' q u u' e1 e2=>by
  simp only[cU]at e1 e2;cases x1:fV r v bor 0 with
  |none=>rw[x1]at e1;cases e1
  | some i=>
   cases x2:fV r' v' bor 0 with
   |none=>rw[x2]at e2;cases e2
   |some j=>
    rw[x1]at e1;rw[x2]at e2;simp only[O5,Pq]at e1 e2;obtain⟨i',b,a1,a2⟩:=dN x1;obtain⟨j',b',a3,a4⟩:=dN x2;have:i=j:=by have:=e1.1.trans e2.1.symm;simpa using this
    have hij:i'=j':=by omega
    subst hij;rw[a2]at a4;cases a4;rfl
 have kr':=KRs.ren (.inr hinjF) kr hmovF;obtain⟨n,rE,G',hcall,hex,hcl⟩:=hC (co (cU bor) args) (bor.map λx=>x.2.2.ren (cU bor)) _ kr'
  (λi j q h1 h2=>by
   obtain⟨k,y,rfl,hy,hP⟩:=h1;obtain⟨k',y',he,hy',hP'⟩:=h2;simp only[aq.a.injEq]at he;subst he;rw[hy]at hy';cases hy';exact u1 i j _ hP hP')
  (λi q h1=>by
   obtain⟨k,y,rfl,hy,hP⟩:=h1;exact⟨k,rfl,by rw[PU];exact getElem?_lt hy⟩)
  (λk b hk=>by
   simp only[Pk,PI]at hk;obtain⟨y,hy,rfl⟩:=hk;have hm:=Pl hy;obtain⟨k',e1,e2⟩:=hidx y hm;have:=huniq hy e1 rfl;subst this;exact qX kr (λz hz=>by
    obtain⟨k2,q1,q2⟩:=hidx z (hall z hz);exact⟨_,_,q2,hGget k2 z q1⟩) y (c3 y hm) _ _ e2)
 obtain⟨hlen,hsome,⟨P',E⟩,hkeep,hflx⟩:=hex;simp only[PU]at hlen hsome E hkeep hflx;have hcnt:=E.cnt;have hmeet:lB l bor=false:=by
  unfold lB;rw[Bool.eq_false_iff];intro ht;obtain⟨p,hp,ht⟩:=List.any_eq_true.1 ht;obtain⟨q,hq,ht⟩:=List.any_eq_true.1 ht;simp only[PF]at ht;obtain⟨i,hi⟩:=hbP q hq;exact hFP _ (hl p hp).1 i (by rw[ht];exact hi)
 obtain⟨h1,W1,r1,f1,sr1,ll1,la1,w1,pu1⟩:∃h1 W1,(if lH bor rE G'=true then HM.ret ()else pZ l).runT h=some ((),h1,[],W1)/\(∀q,(∀y∈l,y.1≠q)->h1.get q=h.get q)/\
   (∀q,SameRo (h1.get q) (h.get q))/\h1.L.length=h.L.length/\h1.A.length=h.A.length/\(∀q∈W1,q≠ .dead/\Fr q)/\(lH bor rE G'=true->h1=h/\W1=[]):=by
  by_cases hc:lH bor rE G'=true
  ·exact⟨h,[],by rw[O9 hc];rfl,λ_ _=>rfl,λ_=>.inl rfl,rfl,rfl,λ_ h=>(by cases h),λ_=>⟨rfl,rfl⟩⟩
  ·obtain⟨h1,W1,k1,k2,k3,k4,k5,k6⟩:=sE l (h:=h) (λy hy=>⟨y.2.2.ro,by rw[(hl y hy).2]⟩);refine⟨h1,W1,by rw[Pd hc];exact k1,k2,k3,k4,k5,λq hq=>?_,λh=>absurd h hc⟩;obtain⟨a,y,hy,rfl⟩:=k6 q hq;exact⟨a,(hl y hy).1⟩
 have hb0:K.nL sg.ps=0->bor=[]:=λe1=>by
  rw[List.eq_nil_iff_forall_not_mem];intro y hy;obtain⟨_,⟨i,a1,a2,_⟩,_⟩:=kb.b y (c3 y hy);omega
 have hcc0:K.nL sg.ps=0->sg.scal=true->lH bor rE G'=true:=λe1 e3=>by
  have hb:=hb0 e1;obtain⟨q1,q2⟩:=hcl e1 e3;rw[hb]at q2;simp only[lH,hb,q1,O6,List.isEmpty_nil,and_self,true_and];simpa using q2
 have hborl:∀y∈bor,∀z∈l,z.1≠y.1:=λy hy z hz e=>by
  obtain⟨i,hi⟩:=hbP y hy;exact hFP _ (hl z hz).1 i (by rw[e];exact hi)
 obtain⟨nv,R2,r2,nvl,nvR⟩:=tn (G'.length-bor.length) s (h:=h1) (by rw[ll1];omega);obtain⟨h2,W2,r3,p1,p2,ll2,la2,w2⟩:=tE (dj bor s nv) bor (G'.take bor.length) (h:=h1) (by rw[Pw];omega) hpw (λy hy=>⟨some y.2.2,by rw[f1 y.1 (hborl y hy)];exact hlive y hy⟩);obtain⟨h3,W3,r4,n1,n2,ll3,la3,w3⟩:=vv (dj bor s nv) nv (G'.drop bor.length) s (h:=h2) (by rw[nvl,P7]) hsome (by rw[nvl,ll2,ll1];omega);have hcon:∀i k,P' i (.a k)->∀y,bor[k]?=some y->∀t,t<G'.length-bor.length->y.1≠ .l (s+t):=by
  intro i k hP y hy t ht he;obtain⟨p,hp1,k',y',he',hy',hp2⟩:=E.src i k hP;simp only[aq.a.injEq]at he';subst he';rw[hy]at hy';cases hy';have h1':=hav1 i p y.1 hp1 hp2 ⟨t,by omega,he⟩;obtain⟨i0,hi0⟩:=E.new 0 (by omega);have e1:=E.lt i0 _ hi0;have e2:=E.lt i _ hP;have:i0=i:=by omega
  subst this;have:=E.u2 _ _ _ hi0 hP;cases this
 let P3:Nat->aq->Prop:=λi q=>∃q0,P' i q0/\((∃k y,q0=.a k/\bor[k]?=some y/\q=y.1)∨∃k,k<G'.length-bor.length/\q0=.l k/\q=.l (s+k))
 have hMv:∀y:B3,(HX bor.length G').get y.1=some ⟨y.2.1,some y.2.2⟩->∀i,P' i y.1->∃r' ver' ro',dj bor s nv y.1 y.2.1=some (r',ver')/\h3.get r'=some ⟨ver',some ⟨y.2.2.sz,co (dj bor s nv) y.2.2.es,ro'⟩⟩/\(y.2.2.ro=false->ro'=false)/\P3 i r':=by
  intro y hy i hP;obtain⟨q,ver,b⟩:=y;simp only at hy hP⊢;cases q with
  | a k=>
   simp only[HX,Heap.get]at hy;cases hk:(G'.take bor.length)[k]? with
   |none=>rw[hk]at hy;cases hy
   |some ob=>
    rw[hk]at hy;simp only[O5,fg.mk.injEq]at hy;obtain⟨rfl,rfl⟩:=hy;have hkl:=getElem?_lt hk;rw[Pw]at hkl;have hbk:bor[k]?=some bor[k]:=Pa (by omega);refine⟨bor[k].1,bor[k].2.1,b.ro,by simp only[dj,hbk],?_,λh=>h,.a k,hP,.inl ⟨k,_,rfl,hbk,rfl⟩⟩;rw[n2 _ λt ht=>hcon i k hP _ hbk t (by rw[<-nvl];exact ht)];exact p1 k _ _ hbk hk
  |l k=>
   simp only[HX,Heap.get,Pk,PI]at hy;obtain⟨ob,hob,he⟩:=hy;simp only[fg.mk.injEq]at he;obtain⟨rfl,rfl⟩:=he;have hkl:=getElem?_lt hob;rw[P7]at hkl;have hnk:nv[k]?=some nv[k]:=Pa (by omega);refine⟨.l (s+k),nv[k],b.ro,by simp only[dj,hnk],n1 k _ _ hnk hob,λh=>h,.l k,hP,.inr ⟨k,hkl,rfl,rfl⟩⟩
  |dead=>simp[Heap.get]at hy
 have hq3:∀q,(∀y∈bor,y.1≠q)->(∀k,k<G'.length-bor.length->q≠ .l (s+k))->h3.get q=h1.get q:=λq h1' h2'=>by
  rw[n2 q λk hk=>h2' k (by rw[<-nvl];exact hk),p2 q h1']
 have hnotbor:∀q,(∀p,¬P p q)->∀y∈bor,y.1≠q:=λq hq y hy e=>by
  obtain⟨i,hi⟩:=hbP y hy;exact hq i (by rw[<-e];exact hi)
 have hnotR:∀q,¬t9 s sg.nown q->∀k,k<G'.length-bor.length->q≠ .l (s+k):=λq hq k hk e=>hq ⟨k,by omega,e⟩;refine⟨n,ren (dj bor s nv) rE,h3,R0++(R1++([]++(R2++([]++([]++[]))))),[]++([]++(W1++([]++(W2++(W3++[]))))),P3,?_,?_⟩
 ·unfold fc;refine HM.runT_bind_of ra ?_;refine HM.runT_bind_of c1 ?_;simp only[hmeet,Ps,PS];rw[hcall];simp only[r8];refine HM.runT_bind_of r1 ?_;refine HM.runT_bind_of r2 ?_;refine HM.runT_bind_of r3 ?_;refine HM.runT_bind_of r4 ?_;rfl
 ·refine⟨KR.ren (.inl hnq) E.r λy hy=>hMv y ((xI E.r).b y hy).1,?_,?_,?_,?_,?_,?_,?_,?_,?_,?_,by rw[ll3,ll2,ll1],by rw[la3,la2,la1],?_,?_⟩
  ·refine KOuts.back (h:=h) (P:=P) (fw:=cU bor) (bk:=dj bor s nv) hMv (aV sg.ps 0) ?_ (jS h sg.ps args) ?_ hno hNF kr (λp hp=>hp) (λy hy=>hy) E.o
   ·intro p hp q ver b hP hg q' u b' hfw hH;have hmem:∃k,cU bor q ver=some (.a k,0)/\∃y,bor[k]?=some y/\y.1=q/\y.2.1=ver:=by
     simp only[cU]at hfw⊢;cases hx:fV q ver bor 0 with
     |none=>rw[hx]at hfw;cases hfw
     |some j=>
      obtain⟨i,b0,e1,e2⟩:=dN hx;exact⟨j,rfl,_,by rw[e1,PZ];exact e2,rfl,rfl⟩
    obtain⟨k,e1,y,e2,e3,e4⟩:=hmem;rw[hfw]at e1;simp only[O5,Pq]at e1;obtain⟨rfl,rfl⟩:=e1;simp only[HX,Heap.get]at hH;cases hk:(G'.take bor.length)[k]? with
    |none=>rw[hk]at hH;cases hH
    |some ob=>
     rw[hk]at hH;simp only[O5,fg.mk.injEq]at hH;obtain⟨_,rfl⟩:=hH;refine⟨b'.ro,?_,λh=>h⟩;have:=p1 k y _ e2 hk;rw[e3,e4]at this;rw[n2 q λt ht e=>hav2 p q (.inl hp) hP ⟨t,by rw[nvl]at ht;omega,e⟩];exact this
   ·intro y hy hfw;obtain⟨k,h1,h2⟩:=hidx y (hall y hy);rw[hfw]at h2;cases h2
  ·rintro i j q ⟨q0,hP0,h0⟩ ⟨q1,hP1,h1'⟩
   rcases h0 with⟨k,y,rfl,hy,rfl⟩|⟨k,hk,rfl,rfl⟩
   ·rcases h1' with⟨k',y',rfl,hy',he⟩|⟨k',hk',rfl,he⟩
    ·have:=huniq hy hy' he;subst this;exact E.u1 _ _ _ hP0 hP1
    ·exact absurd he (hcon i k hP0 y hy k' hk')
   ·rcases h1' with⟨k',y',rfl,hy',he⟩|⟨k',hk',rfl,he⟩
    ·exact absurd he.symm (hcon j k' hP1 y' hy' k hk)
    ·simp only[aq.l.injEq]at he;have:k=k':=by omega
     subst this;exact E.u1 _ _ _ hP0 hP1
  ·rintro i q ⟨q0,hP0,_⟩
   exact E.lt i _ hP0
  ·rintro i q ⟨q0,hP0,h0⟩
   rcases h0 with⟨k,y,rfl,hy,rfl⟩|⟨k,hk,rfl,rfl⟩
   ·right;obtain⟨p,hp1,k',y',he',hy',hp2⟩:=E.src i k hP0;simp only[aq.a.injEq]at he';subst he';rw[hy]at hy';cases hy';exact⟨p,hp1,hp2⟩
   ·exact .inl ⟨k,by omega,rfl⟩
  ·intro q h1' h2' h3';rw[hq3 q (hnotbor q h1') (hnotR q h2')];exact f1 q λy hy e=>h3' (by rw[<-e];exact(hl y hy).1)
  ·intro q h1' h2';rw[hq3 q (hnotbor q h1') (hnotR q h2')];exact sr1 q
  ·intro p hp q hP;have hnr:=hnotR q (hav2 p q (.inr hp) hP);by_cases hb:∃y∈bor,y.1=q
   ·obtain⟨y,hy,rfl⟩:=hb;obtain⟨k,e1,e2⟩:=hidx y hy;have hpln:=qL u1 hqp kr p hp y (c3 y hy) hP;have hkp:=hkeep p hp k ⟨k,y,rfl,e1,hP⟩;rw[hGget k y e1]at hkp;have hge:∀b,(HX bor.length G').get (.a k)=some ⟨0,some b⟩->h3.get y.1=some ⟨y.2.1,some (b.ren (dj bor s nv))⟩:=by
     intro b hb;simp only[HX,Heap.get]at hb;cases hk:(G'.take bor.length)[k]? with
     |none=>rw[hk]at hb;cases hb
     |some ob=>
      rw[hk]at hb;simp only[O5,fg.mk.injEq,true_and]at hb;subst hb;rw[n2 y.1 λt ht=>hnr t (by rw[<-nvl];exact ht)];exact p1 k y _ e1 hk
    have hp0:=hlive y hy;have hid:Blk.ren (cU bor) y.2.2=y.2.2:=by
     have:=(fL hpln (cU bor)).1;unfold Blk.ren;rw[this]
    rw[hid]at hkp;rcases hkp with e|⟨ver,sz,es,⟨ro1,e3⟩,ro2,e4⟩
    ·rw[hge _ e,hp0];left;unfold Blk.ren;rw[(fL hpln _).1]
    ·rw[hge _ (by rw[e3];congr 2;have:=congrArg (Option.map fg.ver) e4;simpa using this.symm),hp0];simp only[O5,fg.mk.injEq]at e4;right;have hbe:=e4.2;refine⟨y.2.1,sz,es,⟨ro1,?_⟩,ro2,by rw[hbe]⟩;have:bX es=true:=by rw[hbe]at hpln;exact hpln
     unfold Blk.ren;simp only[(fL this _).1]
   ·have hnb:∀y∈bor,y.1≠q:=λy hy e=>hb ⟨y,hy,e⟩;rw[hq3 q hnb hnr];exact sr1 q
  ·intro e1 e2 e3;have hb:=hb0 e1;have hG:G'=[]:=by
    apply P9;rw[hb]at hcnt;simp only[PT]at hcnt;omega
   have hcc:=hcc0 e1 e3;obtain⟨rfl,rfl⟩:=pu1 hcc;subst hb;subst hG;have hnv:nv=[]:=P9 (by simpa using nvl);subst hnv;simp only[iO,HM.runT,O5,Pq]at r3;obtain⟨_,rfl,_,rfl⟩:=r3;simp only[List.drop_nil,lD,HM.runT,O5,Pq]at r4;obtain⟨_,rfl,_,rfl⟩:=r4;exact⟨rfl,rfl⟩
  ·intro e1 e3;obtain⟨g1,g2⟩:=pu1 (hcc0 e1 e3);have hb:=hb0 e1;refine⟨λq hq=>by rw[hq3 q (λy hy=>by rw[hb]at hy;cases hy) (hnotR q hq),g1],λq hq=>?_⟩;rw[g2]at hq;simp only[Pi,PB]at hq;rcases List.mem_append.1 hq with hq|hq
   ·obtain⟨a,y,hy,rfl⟩:=w2 q hq;rw[hb]at hy;cases hy
   ·obtain⟨k,hk,rfl⟩:=w3 q hq;exact⟨k,by rw[nvl]at hk;omega,rfl⟩
  ·intro i ver b hg;have hnr:∀k,k<nv.length->aq.a i≠ .l (s+k):=λk _ e=>by cases e
   rw[n2 _ hnr]at hg;by_cases hb:∃y∈bor,y.1=.a i
   ·obtain⟨y,hy,he⟩:=hb;obtain⟨k,e1,e2⟩:=hidx y hy;obtain⟨p,hp⟩:=hbP y hy;by_cases hpb:p∈aV sg.ps 0
    ·exact .inr (.inr ⟨p,hpb,by rw[<-he];exact hp⟩)
    ·right;left;have hk:k<(G'.take bor.length).length:=by rw[Pw];have:=getElem?_lt e1;omega
     have hpb':=p1 k y _ e1 (Pa hk);rw[he,hg]at hpb';simp only[O5,fg.mk.injEq]at hpb';obtain⟨_,h5⟩:=hpb';cases hgk:(G'.take bor.length)[k]with
     |none=>rw[hgk]at h5;cases h5
     | some b'=>
      rw[hgk]at h5;simp only[Py,O5]at h5;have hG:G'[k]?=some (some b'):=by
       have:=Pa hk;rw[hgk,PN]at this;split at this
       ·exact this
       ·cases this
      have hpl:=hflx p hpb k b' ⟨k,y,rfl,e1,hp⟩ hG;rw[h5];simp only[Blk.ren,(fL hpl _).1];exact hpl
   ·have hnb:∀y∈bor,y.1≠aq.a i:=λy hy e=>hb ⟨y,hy,e⟩;rw[p2 _ hnb]at hg;rcases sr1 (.a i)with e|⟨v0,sz,es,⟨r1,e1⟩,r2,e2⟩
    ·exact .inl ⟨ver,b,by rw[<-e];exact hg,rfl⟩
    ·rw[hg]at e1;simp only[O5,fg.mk.injEq]at e1;exact .inl ⟨v0,_,e2,by rw[e1.2]⟩
  ·intro q hq;simp only[Pi,PB]at hq;rcases List.mem_append.1 hq with hq|hq
   ·exact⟨(hR0 q hq).1,.inl (hR0 q hq).2⟩
   ·rcases List.mem_append.1 hq with hq|hq
    ·obtain⟨y,hy,rfl⟩:=c6 q hq;exact⟨bB (kb.b y hy).1,.inr (.inl (KR.isPart kr hy))⟩
    ·obtain⟨k,hk,rfl⟩:=nvR q hq;exact⟨by intro e;(cases e),.inr (.inr ⟨k,by omega,rfl⟩)⟩
  ·intro q hq;simp only[Pi,PB]at hq;rcases List.mem_append.1 hq with hq|hq
   ·exact⟨(w1 q hq).1,.inl (w1 q hq).2⟩
   ·rcases List.mem_append.1 hq with hq|hq
    ·obtain⟨a,y,hy,rfl⟩:=w2 q hq;exact⟨a,.inr (.inl (hbP y hy))⟩
    ·obtain⟨k,hk,rfl⟩:=w3 q hq;exact⟨by intro e;(cases e),.inr (.inr ⟨k,by rw[nvl]at hk;omega,rfl⟩)⟩
section
variable{h h':Heap}{P:Nat->aq->Prop}
theorem TokOk.heap{Pr:aq->Prop}{sz:Nat}{v x:PV}(hg:∀r,Pr r->h'.get r=h.get r)(T:TokOk Pr h sz v x):TokOk Pr h' sz v x:=by
 rcases T with T|⟨r,ver,off,len,room,c0,b,hT,hnm,hget,T⟩
 ·exact .inl T
 ·exact .inr ⟨r,ver,off,len,room,c0,b,hT,hnm,by rw[hg r hnm];exact hget,T⟩
theorem WrOk.heap{Pr:aq->Prop}{sz:Nat}{v x:PV}(hg:∀r,Pr r->h'.get r=h.get r)(T:TokOk Pr h sz v x)(W:WrOk h v):WrOk h' v:=by
 rcases W with W|⟨r,ver,sz',off,len,room,b,rfl,h1,h2⟩
 ·exact .inl W
 ·rcases T with⟨T,_⟩|⟨r',ver',off',len',room',c0',b',hv,T2,T⟩
  ·exact .inl T
  ·cases hv;exact .inr ⟨r,ver,_,off,len,room,b,rfl,by rw[hg r T2];exact h1,h2⟩
theorem QL.heap{Pr:aq->Prop}(hg:∀r,Pr r->h'.get r=h.get r):∀{vs xs:List PV},QL Pr h vs xs->QL Pr h' vs xs
 |[],[],_=>trivial
 |v::vs,x::xs,H=>by
  refine⟨?_,QL.heap hg H.2⟩;rcases H.1 with H1|⟨r,ver,n,e,ro,h1,h2,h3,h4⟩
  ·exact .inl H1
  ·exact .inr ⟨r,ver,n,e,ro,h1,h2,by rw[hg r h2];exact h3,h4⟩
 |[],_::_,H=>by cases H
 |_::_,[],H=>by cases H
mutual
theorem KR.heap:∀{k:K}{j:Nat}{v x:PV},(∀i r,j<=i->i<j+k.n->P i r->h'.get r=h.get r)->KR h P k j v x->KR h' P k j v x
 |.F,j,v,x,_,H=>H
 |.O sz wf,j,v,x,hp,H=>by
  have:=λr=>hp j r (Pf _) (by simp[K.n]);exact⟨H.1.heap this,λh=>(H.2 h).heap this H.1⟩
 |.Q,j,v,x,hp,H=>by
  obtain⟨f,vs,xs,h1,h2,h3,h4⟩:=H;exact⟨f,vs,xs,h1,h2,h3.heap λr=>hp j r (Pf _) (by simp[K.n]),h4⟩
 |.B ro ks,j,v,x,hp,H=>by
  obtain⟨r,ver,n,e,ro',xs,h1,h2,h3,h4,h5,h6,h7⟩:=H;exact⟨r,ver,n,e,ro',xs,h1,h2,by rw[hp j r (Pf _) (by simp[K.n]) h2];exact h3,h4,h5,h6,KRs.heap (λi r h1 h2=>hp i r (by omega) (by simp only[K.n];omega)) h7⟩
 |.A ks,j,v,x,hp,H=>by
  obtain⟨vs,xs,h1,h2,h3,h4⟩:=H;exact⟨vs,xs,h1,h2,h3,KRs.heap (λi r h1 h2=>hp i r h1 (by simpa only[K.n]using h2)) h4⟩
 |.T ks,j,v,x,hp,H=>by
  obtain⟨vs,xs,h1,h3,h4⟩:=H;exact⟨vs,xs,h1,h3,KRs.heap (λi r h1 h2=>hp i r h1 (by simpa only[K.n]using h2)) h4⟩
theorem KRs.heap:∀{ks:List K}{j:Nat}{vs xs:List PV},(∀i r,j<=i->i<j+K.nL ks->P i r->h'.get r=h.get r)->KRs h P ks j vs xs->KRs h' P ks j vs xs
 |[],j,[],[],_,_=>trivial
 |k::ks,j,v::vs,x::xs,hp,H=>⟨KR.heap (λi r h1 h2=>hp i r h1 (by simp only[K.nL];omega)) H.1,KRs.heap (λi r h1 h2=>hp i r (by omega) (by simp only[K.nL];omega)) H.2⟩
 |[],_,_::_,_,_,H=>by simp[KRs]at H
 |[],_,[],_::_,_,H=>by simp[KRs]at H
 |_::_,_,[],_,_,H=>by simp[KRs]at H
 |_::_,_,_::_,[],_,H=>by simp[KRs]at H
end
mutual
theorem Cb(u1:∀i j q,P i q->P j q->i=j):∀{k:K}{j:Nat}{v x:PV},Bi k=true->KR h P k j v x->∀i,∀y∈KB h k v,∀z∈KB h k v,P i y.1->P i z.1->y.1=z.1
 |.F,j,v,x,_,H,i,y,hy,_,_,_,_=>by cases hy
 | .O sz wf,j,v,x,_,H,i,y,hy,z,hz,h1,h2=>by
  rcases H.1 with⟨hn,_⟩|⟨r,ver,off,len,room,c0,b,rfl,hr,hg,_⟩
  ·rcases hn with rfl|rfl<;>cases hy
  ·have hq:KB h (.O sz wf) (.tok r ver sz off len room c0)=[(r,ver,b)]:=by simp only[KB,hg]
   rw[hq,Px]at hy hz;rw[hy,hz]
 |.Q,j,v,x,hn,_,_,_,_,_,_,_,_=>by simp[Bi]at hn
 | .B ro ks,j,v,x,hn,H,i,y,hy,z,hz,h1,h2=>by
  obtain⟨r,ver,n,e,ro',xs,rfl,h2',h3,h4,h5,h6,h7⟩:=H;have hq:KB h (.B ro ks) (.ptr r ver 0 0)=(r,ver,⟨n,[e],ro'⟩)::jS h ks e.cells:=by simp only[KB,h3]
  rw[hq]at hy hz;have hcell:∀w∈jS h ks e.cells,P i w.1->i≠j:=λw hw hP e=>by
   obtain⟨_,⟨i',g1,g2,g3⟩,_⟩:=(ga h7).b w hw;have:=u1 _ _ _ hP g3;omega
  have hhead:P i r->i=j:=λhP=>u1 _ _ _ hP h2';rcases List.mem_cons.1 hy with rfl|hy
  ·rcases List.mem_cons.1 hz with rfl|hz
   ·rfl
   ·exact absurd (hhead h1) (hcell z hz h2)
  ·rcases List.mem_cons.1 hz with rfl|hz
   ·exact absurd (hhead h2) (hcell y hy h1)
   ·exact rF u1 hn h7 i y hy z hz h1 h2
 |.A ks,j,v,x,hn,H,i,y,hy,z,hz,h1,h2=>by
  obtain⟨vs,xs,rfl,h2',h3,h4⟩:=H;exact rF u1 hn h4 i y hy z hz h1 h2
 |.T ks,j,v,x,hn,H,i,y,hy,z,hz,h1,h2=>by
  obtain⟨vs,xs,rfl,h3,h4⟩:=H;exact rF u1 hn h4 i y hy z hz h1 h2
theorem rF(u1:∀i j q,P i q->P j q->i=j):∀{ks:List K}{j:Nat}{vs xs:List PV},rC ks=true->KRs h P ks j vs xs->∀i,∀y∈jS h ks vs,∀z∈jS h ks vs,P i y.1->P i z.1->y.1=z.1
 |[],j,[],[],_,_,i,y,hy,_,_,_,_=>by cases hy
 | k::ks,j,v::vs,x::xs,hn,H,i,y,hy,z,hz,h1,h2=>by
  simp only[rC,O6]at hn;have hh:∀w∈KB h k v,P i w.1->i<j+k.n:=λw hw hP=>by
   obtain⟨_,⟨i',g1,g2,g3⟩,_⟩:=(xI H.1).b w hw;have:=u1 _ _ _ hP g3;omega
  have ht:∀w∈jS h ks vs,P i w.1->j+k.n<=i:=λw hw hP=>by
   obtain⟨_,⟨i',g1,g2,g3⟩,_⟩:=(ga H.2).b w hw;have:=u1 _ _ _ hP g3;omega
  rcases List.mem_append.1 hy with hy|hy
  ·rcases List.mem_append.1 hz with hz|hz
   ·exact Cb u1 hn.1 H.1 i y hy z hz h1 h2
   ·have:=hh y hy h1;have:=ht z hz h2;omega
  ·rcases List.mem_append.1 hz with hz|hz
   ·have:=ht y hy h1;have:=hh z hz h2;omega
   ·exact rF u1 hn.2 H.2 i y hy z hz h1 h2
 |[],_,_::_,_,_,H,_,_,_,_,_,_,_=>by simp[KRs]at H
 |[],_,[],_::_,_,H,_,_,_,_,_,_,_=>by simp[KRs]at H
 |_::_,_,[],_,_,H,_,_,_,_,_,_,_=>by simp[KRs]at H
 |_::_,_,_::_,[],_,H,_,_,_,_,_,_,_=>by simp[KRs]at H
end
def bU:List K->Bool
 |[]=>true
 |.F::ks=>bU ks
 |.O _ _::ks=>bU ks
 |_=>false
def cj:List K->Bool
 |[]=>true
 |.F::ps=>cj ps
 |.O _ _::ps=>cj ps
 |.Q::ps=>cj ps
 |.B false ks::ps=>bU ks&&cj ps
 |.B true ks::ps=>ny ks&&cj ps
 |_=>false
theorem lg:∀{ks:List K},bU ks=true->rC ks=true
 |[],_=>rfl
 |.F::ks,h=>by simp only[rC,Bi,PY];exact lg (by simpa[bU]using h)
 |.O _ _::ks,h=>by simp only[rC,Bi,PY];exact lg (by simpa[bU]using h)
 |.Q::_,h=>by simp[bU]at h
 |.B .. ::_,h=>by simp[bU]at h
 |.A _::_,h=>by simp[bU]at h
 |.T _::_,h=>by simp[bU]at h
theorem C7(u1:∀i j q,P i q->P j q->i=j):∀{ps:List K}{j:Nat}{vs xs:List PV},cj ps=true->KRs h P ps j vs xs->∀p∈aV ps j,∀y∈jS h ps vs,P p y.1->∃(i:Nat)(ks:List K)(v:PV),ps[i]?=some (.B false ks)/\vs[i]?=some v/\(∃ver,v=.ptr y.1 ver 0 0)/\p=j+K.nL (ps.take i)
 |[],j,[],[],_,_,p,hp,_,_,_=>by cases hp
 | k::ps,j,v::vs,x::xs,hq,H,p,hp,y,hy,hP=>by
  have hrange:∀{ps:List K}{j p:Nat},p∈aV ps j->j<=p:=by
   intro ps;induction ps with
   |nil=>intro j p h;cases h
   | cons k ps ih=>
    intro j p h;unfold aV at h;split at h
    ·cases h
    ·rename_i e;cases e;rcases List.mem_cons.1 h with rfl|h
     ·exact Pf _
     ·have:=ih h;omega
    ·rename_i e;cases e;have:=ih h;omega
  have rest:cj ps=true->p∈aV ps (j+k.n)->∃(i:Nat)(ks:List K)(w:PV),(k::ps)[i]?=some (.B false ks)/\(v::vs)[i]?=some w/\(∃ver,w=.ptr y.1 ver 0 0)/\p=j+K.nL ((k::ps).take i):=λhq' hp'=>by
   rcases List.mem_append.1 hy with hy|hy
   ·obtain⟨_,⟨i',g1,g2,g3⟩,_⟩:=(xI H.1).b y hy;have:=u1 _ _ _ hP g3;have:=hrange hp';omega
   ·obtain⟨i,ks,w,e1,e2,e3,e4⟩:=C7 u1 hq' H.2 p hp' y hy hP;exact⟨i+1,ks,w,by simpa using e1,by simpa using e2,e3,by simp only[Q3,K.nL];omega⟩
  cases k with
  | B ro ks=>
   cases ro with
   |true=>
    simp only[cj,O6]at hq;exact rest hq.2 (by simpa only[aV,K.n]using hp)
   | false=>
    simp only[cj,O6]at hq;simp only[aV]at hp;rcases List.mem_cons.1 hp with rfl|hp
    ·obtain⟨r,ver,n,e,ro',xs',rfl,h2',h3,h4,h5,h6,h7⟩:=H.1;have hm:(r,ver,(⟨n,[e],ro'⟩:Blk))∈KB h (.B false ks) (.ptr r ver 0 0):=by simp only[KB,h3];exact Pj ..
     rcases List.mem_append.1 hy with hy|hy
     ·have hnq:Bi (.B false ks)=true:=by simp only[Bi];exact lg hq.1
      have:=Cb u1 hnq H.1 p y hy _ hm hP h2';simp only at this;exact⟨0,ks,_,rfl,rfl,⟨ver,by rw[this]⟩,by simp[K.nL]⟩
     ·obtain⟨_,⟨i',g1,g2,g3⟩,_⟩:=(ga H.2).b y hy;have:=u1 _ _ _ hP g3;simp only[K.n]at g1;omega
    ·exact rest hq.2 (by simpa only[K.n]using hp)
  |F=>exact rest (by simpa[cj]using hq) (by simpa only[aV,K.n]using hp)
  |O sz wf=>exact rest (by simpa[cj]using hq) (by simpa only[aV,K.n]using hp)
  |Q=>exact rest (by simpa[cj]using hq) (by simpa only[aV,K.n]using hp)
  |A ks=>simp[cj]at hq
  |T ks=>simp[cj]at hq
 |[],_,_::_,_,_,H,_,_,_,_,_=>by simp[KRs]at H
 |[],_,[],_::_,_,H,_,_,_,_,_=>by simp[KRs]at H
 |_::_,_,[],_,_,H,_,_,_,_,_=>by simp[KRs]at H
 |_::_,_,_::_,[],_,H,_,_,_,_,_=>by simp[KRs]at H
end
def NK(j:Nat):List Nat:=[2*j+1]
def Ew:Nat:=4000
def II(ps:List K):List AV×List BX:=rq NK Ew (λi=>.v i) ps 0 0
def JA:Nat->List AV->List (Nat×AV)
 |_,[]=>[]
 |i,a::as=>(i,a)::JA (i+1) as
def FY(ps:List K):Abs:=⟨JA 0 (II ps).1,(II ps).2⟩
theorem AD:∀{as:List AV}{i:Nat}{p:Nat×AV},p∈JA i as->∃k,p.1=i+k/\as[k]?=some p.2
 |[],_,_,h=>by cases h
 | a::as,i,p,h=>by
  rcases List.mem_cons.1 h with rfl|h
  ·exact⟨0,rfl,rfl⟩
  ·obtain⟨k,h1,h2⟩:=AD h;exact⟨k+1,by omega,by simpa using h2⟩
def EntB(c:Cx):List K->List PV->Nat->Prop
 |[],_,_=>True
 |k::ps,v::vs,j=>(∀ks,k=.B false ks->v=.ptr (c.be (Ew+j)).1 (c.be (Ew+j)).2 0 0)/\EntB c ps vs (j+k.n)
 |_::_,[],_=>False
theorem EntB.of{c:Cx}{h:Heap}{P:Nat->aq->Prop}:∀{ps:List K}{j:Nat}{vs xs:List PV},KRs h P ps j vs xs->KIds c Ew h ps j vs->EntB c ps vs j
 |[],_,_,_,_,_=>trivial
 |k::ps,j,v::vs,x::xs,H,hi=>by
  refine⟨λks hk=>?_,EntB.of H.2 hi.2⟩;subst hk;obtain⟨r,ver,n,e,ro,h1,h2,h3,h4⟩:=hi.1;rw[h3];exact h1
 |_::_,_,[],_,H,_=>by simp[KRs]at H
 |_::_,_,_::_,[],H,_=>by simp[KRs]at H
def Sig.fl(sg:Sig)(p:Nat):Bool:= !(aV sg.ps 0).contains p
def Sig.kp(sg:Sig):List Nat:=(bH sg.ps 0).map λp=>2*p+1
theorem FI{sg:Sig}{nt ns:Nat}(st:Nat->Nat){args xs:List PV}{G:List Blk}{P:Nat->aq->Prop}(kr:KRs (HA G) P sg.ps 0 args xs)(u1:∀i j q,P i q->P j q->i=j)(loc:∀i q,P i q->∃k,q=.a k/\k<G.length)
  (hG:∀(k:Nat)(b:Blk),G[k]?=some b->(.a k,0,b)∈jS (HA G) sg.ps args)(hps:cj sg.ps=true)(hnt:sg.ps.length<=nt):
  ∃c al,Sim ⟨nt,ns,G.length,st,al,sg.kp,⟨G.map some,List.replicate ns ⟨0,none⟩⟩,sg.fl⟩ c (FY sg.ps) (Env.ofArgs xs) ⟨args++List.replicate (nt-args.length) .junk,⟨G.map some,List.replicate ns ⟨0,none⟩⟩⟩/\
   EntB c sg.ps args 0/\(∀j k,P j (.a k)->al k=j):=by
 classical
 let al:Nat->Nat:=λi=>if h:∃j,P j (.a i)then Classical.choose h else K.nL sg.ps
 have hal:∀j k,P j (.a k)->al k=j:=λj k hP=>by
  have hex:∃j,P j (.a k):=⟨j,hP⟩;simp only[al,dif_pos hex];exact u1 _ _ _ (QK hex) hP
 let c0:Cx:=⟨λr=>match r with|.l s=>2*s|.a i=>2*al i+1|.dead=>0,λ_=>.junk,λ_=>(.dead,0)⟩
 have kr':KRs ⟨G.map some,List.replicate ns ⟨0,none⟩⟩ P sg.ps 0 args xs:=KRs.heap (h:=HA G) (λi r _ _ hP=>by
  obtain⟨k,rfl,_⟩:=loc i r hP;rfl) kr
 obtain⟨c,⟨e1,e2⟩,hids⟩:=KIds.exists (idb:=Ew) c0 kr';have hnm:∀i r,0<=i->i<0+K.nL sg.ps->P i r->c.nm r∈NK i:=λi r _ _ hP=>by
  obtain⟨k,rfl,_⟩:=loc i r hP;rw[e1];simp only[c0,NK,Px];rw[hal i k hP]
 obtain⟨m1,m2⟩:=pG (env:=Env.ofArgs xs) (f:=λi=>X.v i) (i0:=0) (nmf:=NK) kr' hids (λi y hy=>by simp[X.ev,Env.ofArgs,hy]) hnm;have hlens:=kr'.lens;refine⟨c,al,⟨?_,λp hp=>?_,m2,⟨λs=>⟨s,by rw[e1],rfl⟩,λi=>by rw[e1]⟩,by simp,by simp,λr _=>.inl rfl,λi ver b hf hg=>?_⟩,EntB.of kr' hids,hal⟩
 ·simp only[Pu,Qz];omega
 ·obtain⟨k,h1,h2⟩:=AD hp;obtain⟨v,hv,hR⟩:=m1.get h2;have:lG (args++List.replicate (nt-args.length) .junk) p.1=v:=by
   rw[h1,PZ,vk];have:=getElem?_lt hv;rw[O9 this];exact pM hv
  rw[this];exact hR
 ·simp only[ Heap.get,Pk]at hg;cases hgi:G[i]? with
  |none=>rw[hgi]at hg;cases hg
  | some b'=>
   rw[hgi]at hg;simp only[Py,O5,fg.mk.injEq]at hg;obtain⟨_,rfl⟩:=hg;have hm:=hG i b' hgi;have aux:∀{ps:List K}{j:Nat}{vs xs:List PV},cj ps=true->KRs (HA G) P ps j vs xs->∀y∈jS (HA G) ps vs,∀p,P p y.1->p∉aV ps j->bX y.2.2.es=true:=by
    intro ps;induction ps with
    |nil=>intro j vs xs _ H y hy;cases vs<;>cases hy
    | cons k ps ih=>
     intro j vs xs hq H y hy p hP hnb;cases vs with
     |nil=>simp[KRs]at H
     | cons v vs=>
      cases xs with
      |nil=>simp[KRs]at H
      | cons x xs=>
       have tail:cj ps=true->p∉aV ps (j+k.n)->y∈jS (HA G) ps vs->bX y.2.2.es=true:=λhq hnb hy=>ih hq H.2 y hy p hP hnb;have hy':=List.mem_append.1 hy;clear hy;rcases hy' with hy|hy
       ·cases k with
        |F=>cases hy
        | O sz wf=>
         rcases H.1.1 with⟨hn,_⟩|⟨r,ver,off,len,room,c0,b,rfl,hr,hg,hs,ho,hl,hpl,_⟩
         ·rcases hn with rfl|rfl<;>cases hy
         ·have hq:KB (HA G) (.O sz wf) (.tok r ver sz off len room c0)=[(r,ver,b)]:=by simp only[KB,hg]
          rw[hq,Px]at hy;subst hy;exact hpl
        | Q=>
         obtain⟨f,vs',xs',rfl,rfl,h3,h4⟩:=H.1;have hc:Closed (HA G) (QB (HA G) vs'):=by
          obtain⟨_,q2,_⟩:=xk h3;exact⟨λy hy=>(q2 y hy).1,λy hy q hq=>by rw[(q2 y hy).2.2]at hq;cases hq⟩
         exact(vR hc h3 (xk h3).1 y hy).2
        |A ks=>simp[cj]at hq
        |T ks=>simp[cj]at hq
        | B ro ks=>
         obtain⟨r,ver,n,e,ro',xs',rfl,h2,h3,h4,h5,h6,h7⟩:=H.1;have hqq:KB (HA G) (.B ro ks) (.ptr r ver 0 0)=(r,ver,⟨n,[e],ro'⟩)::jS (HA G) ks e.cells:=by simp only[KB,h3]
         rw[hqq]at hy;cases ro with
         | true=>
          simp only[cj,O6]at hq;obtain⟨k1,k2,k3⟩:=oL hq.1 h7;rcases List.mem_cons.1 hy with rfl|hy
          ·rcases dR h5 with hc|⟨cs,rfl⟩
           ·have:e.cells=[e]:=by cases e<;>simp_all [PV.isCell,PV.cells]
            rw[this]at k1;simpa[bX]using k1
           ·simp only[PV.cells]at h5 k1;simp only[bX,pl,h5,k1,PE]
          ·obtain⟨_,⟨i',g1,g2,_⟩,_⟩:=(ga h7).b y hy;omega
         | false=>
          simp only[cj,O6]at hq;rcases List.mem_cons.1 hy with rfl|hy
          ·exact absurd (u1 _ _ _ hP h2▸(by simp[aV])) hnb
          ·
           have cells:∀{ks:List K}{j:Nat}{vs xs:List PV},bU ks=true->KRs (HA G) P ks j vs xs->∀y∈jS (HA G) ks vs,bX y.2.2.es=true:=by
            intro ks;induction ks with
            |nil=>intro j vs xs _ H y hy;cases vs<;>cases hy
            | cons k ks ihk=>
             intro j vs xs hq H y hy;cases vs with
             |nil=>simp[KRs]at H
             | cons v vs=>
              cases xs with
              |nil=>simp[KRs]at H
              | cons x xs=>
               have hy':=List.mem_append.1 hy;clear hy;rcases hy' with hy|hy
               ·cases k with
                |F=>cases hy
                | O sz wf=>
                 rcases H.1.1 with⟨hn,_⟩|⟨r,ver,off,len,room,c0,b,rfl,hr,hg,hs,ho,hl,hpl,_⟩
                 ·rcases hn with rfl|rfl<;>cases hy
                 ·have hq:KB (HA G) (.O sz wf) (.tok r ver sz off len room c0)=[(r,ver,b)]:=by simp only[KB,hg]
                  rw[hq,Px]at hy;subst hy;exact hpl
                |Q=>simp[bU]at hq
                |A ks=>simp[bU]at hq
                |T ks=>simp[bU]at hq
                |B ro ks=>simp[bU]at hq
               ·cases k with
                |F=>exact ihk (by simpa[bU]using hq) H.2 y hy
                |O sz wf=>exact ihk (by simpa[bU]using hq) H.2 y hy
                |Q=>simp[bU]at hq
                |A ks=>simp[bU]at hq
                |T ks=>simp[bU]at hq
                |B ro ks=>simp[bU]at hq
           exact cells hq.1 h7 y hy
       ·cases k with
        | B ro ks=>
         cases ro with
         |true=>
          simp only[cj,O6]at hq;exact tail hq.2 (by simpa only[aV,K.n]using hnb) hy
         |false=>
          simp only[cj,O6]at hq;exact tail hq.2 (λh=>hnb (by simp only[aV];exact Pe _ h)) hy
        |F=>exact tail (by simpa[cj]using hq) (by simpa only[aV,K.n]using hnb) hy
        |O sz wf=>exact tail (by simpa[cj]using hq) (by simpa only[aV,K.n]using hnb) hy
        |Q=>exact tail (by simpa[cj]using hq) (by simpa only[aV,K.n]using hnb) hy
        |A ks=>simp[cj]at hq
        |T ks=>simp[cj]at hq
   obtain⟨p,hp⟩:=KR.isPart kr hm;refine aux hps kr _ hm p hp ?_;have:=hal p i hp;simp only[Sig.fl,PC,PW,PD]at hf;rw[this]at hf;exact hf
def xG(a:Abs):List uR->Option (List AV×List X)
 |[]=>some ([],[])
 |.tmp t::rs=>af (a.get t) λav=>af (xG a rs) λr=>some (av::r.1,r.2)
 |.cell sz t::rs=>af (cJ a (.load sz (.t t))) λp=>af (xG a rs) λr=>some (p.1::r.1,p.2.1++r.2)
theorem vW{I:Inv}{c:Cx}{a:Abs}{env:Env}{σ:St}(S:Sim I c a env σ):∀{rs:List uR}{p:List AV×List X},xG a rs=some p->ao env p.2=true->
  ∃vs R,(mS σ.fr rs).runT σ.h=some (vs,σ.h,R,[])/\RelL c σ.h env p.1 vs
 |[],p,H,_=>by cases H;exact⟨[],[],rfl,trivial⟩
 |.tmp t::rs,p,H,hg=>by
  simp only[xG,ab]at H;obtain⟨av,h1,r,h2,h3⟩:=H;cases h3;obtain⟨vs,R,k1,k2⟩:=vW S h2 hg;refine⟨lG σ.fr t::vs,R++[],?_,Abs.get_rel S h1,k2⟩;simp only[mS];exact HM.runT_bind_of (W:=[]) (W2:=[]) k1 rfl
 |.cell sz t::rs,p,H,hg=>by
  simp only[xG,ab]at H;obtain⟨q,h1,r,h2,h3⟩:=H;cases h3;simp only[ce,O6]at hg;obtain⟨vs,R,k1,k2⟩:=vW S h2 hg.2;obtain⟨v,R1,m1,m2,_⟩:=yq (λ_=>[]) (λ_ _ _=>none) S h1 hg.1;simp only[iQ,PO.ev]at m1;refine⟨v::vs,R1++(R++[]),?_,m2,k2⟩;simp only[mS];refine HM.runT_bind_of (W:=[]) (W2:=[]) m1 ?_;exact HM.runT_bind_of (W:=[]) (W2:=[]) k1 rfl
def I1:List AV->AV
 |[a]=>a
 |as=>.T as
theorem GE{c:Cx}{h:Heap}{env:Env}{as:List AV}{vs:List PV}(R:RelL c h env as vs):Rel c h env (I1 as) (Gv.one vs):=by
 match as,vs,R with
 |[],[],R=>exact⟨[],rfl,trivial⟩
 |[a],[v],R=>exact R.1
 |a::b::as,v::w::vs,R=>exact⟨_,rfl,R⟩
theorem yz{h:Heap}{P:Nat->aq->Prop}:∀{ks:List K}{j:Nat}{vs:List PV},ny ks=true->ks.length=vs.length->bX vs=true->KRs h P ks j vs (aB vs)
 |[],j,[],_,_,_=>trivial
 |.F::ks,j,v::vs,ha,hl,hp=>by
  simp only[bX,O6]at hp;exact⟨⟨hp.1,rfl⟩,yz (by simpa[ny]using ha) (by simpa using hl) hp.2⟩
 |.O _ _::_,_,_,ha,_,_=>by simp[ny]at ha
 |.Q::_,_,_,ha,_,_=>by simp[ny]at ha
 |.B .. ::_,_,_,ha,_,_=>by simp[ny]at ha
 |.A _::_,_,_,ha,_,_=>by simp[ny]at ha
 |.T _::_,_,_,ha,_,_=>by simp[ny]at ha
 |[],_,_::_,_,hl,_=>by simp at hl
 |.F::_,_,[],_,hl,_=>by simp at hl
def HJ(st:Nat->Nat)(a:Abs)(frz:Bool)(k:K)(avs:List AV):Option (X×List (List Nat)×List Nat):=
 if frz then match avs,k with
  |[av],.F=>af (NL st av) λp=>some (p.1,[],p.2)
  |avs,.T ks=>if ny ks/\ks.length=avs.length/\avs.length≠1 then af (EE st avs) λp=>some (.tup p.1,[],p.2)else none
  |_,_=>none
 else af (GM a k (I1 avs)) λp=>some (p.1,p.2,[])
theorem GT{I:Inv}{c:Cx}{a:Abs}{env:Env}{σ:St}(S:Sim I c a env σ){frz:Bool}{k:K}{avs:List AV}{vs:List PV}{p:X×List (List Nat)×List Nat}(R:RelL c σ.h env avs vs)(H:HJ I.st a frz k avs=some p):
  ∃v x h' R1 W1,(if frz then bp 9 (Gv.one vs)else HM.ret (Gv.one vs)).runT σ.h=some (v,h',R1,W1)/\p.1.ev env=some x/\p.2.1.length=k.n/\KR h' (λi r=>Pn c p.2.1 i r) k 0 v x/\Took I c p.2.2 σ.h h' R1 W1:=by
 cases frz with
 |false=>
  simp only[HJ,Ps,PS,ab]at H;obtain⟨q,h1,h2⟩:=H;cases h2;obtain⟨l1,x,e1,k1⟩:=B9 S 0 (GE R) h1;exact⟨_,x,σ.h,[],[],rfl,e1,l1,k1.mono λi r _ _ h=>by simpa using h,Took.refl ..⟩
 | true=>
  simp only[HJ,PQ]at H;split at H
  ·rename_i av;simp only[ab]at H;obtain⟨q,h1,h2⟩:=H;cases h2
   match vs,R with
   |[v],R=>
    obtain⟨v',h',R1,W1,k1,k2,k3,k4,k5⟩:=Gh S.nm R.1 h1 5;exact⟨v',_,h',R1,W1,k1,k3,rfl,⟨k2,rfl⟩,k4⟩
  ·rename_i avs' ks;split at H
   ·rename_i hc;obtain⟨c1,c2,c3⟩:=hc;simp only[ab]at H;obtain⟨q,h1,h2⟩:=H;cases h2;obtain⟨vs',h',R1,W1,k1,k2,k3,k4,k5,k6⟩:=xN S.nm 4 R h1;have hone:Gv.one vs=.tup vs:=by
     have:=R.len
     match vs with
     |[]=>rfl
     |[v]=>simp at this;exact absurd this c3
     |_::_::_=>rfl
    have hK:=yz (h:=h') (P:=λi r=>Pn c [] i r) (ks:=ks) (j:=0) c1 (by rw[k5,<-R.len];exact c2) k2;refine⟨.tup vs',.tup (aB vs'),h',R1++[],W1++[],?_,by simp only[X.ev,k3,ac,bT],?_,⟨vs',_,rfl,rfl,hK⟩,by rw[PB,PB];exact k4⟩
    ·rw[hone];exact HM.runT_bind_of k1 rfl
    ·have:=(oL c1 hK).2.2;simp only[PT,K.n,this]
   ·cases H
  ·cases H
def yC(a:Abs):List K->Nat->Option (List X×List (List Nat))
 |[],_=>some ([],[])
 |k::ps,j=>match k with
  |.B false ks=>af (a.box (Ew+j)) λbx=>if bx.ro=false then af (wE a ks bx.cs) λr=>af (yC a ps (j+(K.nL ks+1))) λq=>some (.lp r.1::q.1,r.2++q.2)else none
  |k=>yC a ps (j+k.n)
def aU(h:Heap):List K->List PV->List B3
 |[],_=>[]
 | k::ps,v::vs=>(match k,v with
   |.B false ks,.ptr r _ _ _=>(match h.get r with|some ⟨_,some b⟩=>(match b.es with|[e]=>jS h ks e.cells|_=>[])|_=>[])
   |_,_=>[])++aU h ps vs
 |_::_,[]=>[]
theorem pD{I:Inv}{c:Cx}{a:Abs}{env:Env}{σ:St}(S:Sim I c a env σ):∀{ps:List K}{vs:List PV}{j:Nat}{p:List X×List (List Nat)}(j0:Nat),EntB c ps vs j->ps.length=vs.length->cj ps=true->yC a ps j=some p->
  p.2.length=eA ps/\∃xs,eO env p.1=some xs/\KOuts σ.h (λi r=>Pn c p.2 (i-j0) r) ps vs j0 xs
 |[],[],j,p,j0,_,_,_,H=>by cases H;exact⟨rfl,[],rfl,trivial⟩
 | k::ps,v::vs,j,p,j0,E,hl,hps,H=>by
  cases k with
  | B ro ks=>
   cases ro with
   |true=>
    simp only[cj,O6]at hps;simp only[yC]at H;obtain⟨l1,xs,e1,k1⟩:=pD S j0 E.2 (by simpa using hl) hps.2 H;exact⟨l1,xs,e1,k1⟩
   | false=>
    simp only[cj,O6]at hps;simp only[yC,ab]at H;obtain⟨bx,h1,H⟩:=H;split at H
    ·rename_i hro;simp only[ab]at H;obtain⟨r,h2,q,h3,h4⟩:=H;cases h4;obtain⟨hid,n,e,ro',hn,hget,hr,hok,hR⟩:=Abs.box_ok S h1;obtain⟨kl,os,o1,o2⟩:=rc S j0 hR h2;obtain⟨l1,xs,e1,k1⟩:=pD S (j0+K.nL ks) E.2 (by simpa using hl) hps.2 h3;have hv:=E.1 ks rfl;rw[hid]at hget;have hr':=hr hro;subst hr';have hk:=KR.okIm o2 hok;refine⟨by simp[kl,l1,eA],.lptr os::xs,by simp only[eO,X.ev,o1,ac,bT,hk,PQ,e1],⟨_,_,n,e,os,hv,hget,hok,rfl,?_⟩,?_⟩
     ·refine KRs.mono (λi q _ h2 hq=>?_) o2;obtain⟨l,hl,hq⟩:=hq;exact⟨l,by rw[Pz (by omega)];exact hl,hq⟩
     ·have hmono:∀{ps:List K}{vs:List PV}{j:Nat}{xs:List PV}{P P':Nat->aq->Prop},(∀i q,j<=i->P i q->P' i q)->KOuts σ.h P ps vs j xs->KOuts σ.h P' ps vs j xs:=by
       intro ps;induction ps with
       |nil=>intro vs j xs P P' _ H;cases vs<;>cases xs<;>first|trivial|(simp[KOuts]at H)
       | cons k ps ih=>
        intro vs j xs P P' hp H;cases vs with
        |nil=>cases k<;>simp[KOuts]at H
        | cons v vs=>
         cases k with
         | B ro ks=>
          cases ro with
          |true=>exact ih hp H
          | false=>
           cases xs with
           |nil=>simp[KOuts]at H
           |cons x xs=>
            obtain⟨⟨r,ver,n,e,os,q1,q2,q3,q4,q5⟩,H2⟩:=H;exact⟨⟨r,ver,n,e,os,q1,q2,q3,q4,q5.mono λi q h1 _=>hp i q h1⟩,ih (λi q h=>hp i q (by omega)) H2⟩
         |F=>exact ih hp H
         |O sz wf=>exact ih hp H
         |Q=>exact ih hp H
         |A ks=>exact ih hp H
         |T ks=>exact ih hp H
      refine hmono (λi q h hq=>?_) k1;obtain⟨l,hl,hq⟩:=hq;exact⟨l,by rw[Pp (by omega),kl,show i-j0-K.nL ks=i-(j0+K.nL ks)by omega];exact hl,hq⟩
    ·cases H
  |F=>
   obtain⟨l1,xs,e1,k1⟩:=pD S j0 E.2 (by simpa using hl) (by simpa[cj]using hps) (by simpa only[yC]using H);exact⟨l1,xs,e1,k1⟩
  |O sz wf=>
   obtain⟨l1,xs,e1,k1⟩:=pD S j0 E.2 (by simpa using hl) (by simpa[cj]using hps) (by simpa only[yC]using H);exact⟨l1,xs,e1,k1⟩
  |Q=>
   obtain⟨l1,xs,e1,k1⟩:=pD S j0 E.2 (by simpa using hl) (by simpa[cj]using hps) (by simpa only[yC]using H);exact⟨l1,xs,e1,k1⟩
  |A ks=>simp[cj]at hps
  |T ks=>simp[cj]at hps
 |[],_::_,_,_,_,_,hl,_,_=>by simp at hl
 |_::_,[],_,_,_,_,hl,_,_=>by simp at hl
theorem KOuts.heap{h h':Heap}:∀{ps:List K}{vs:List PV}{j:Nat}{xs:List PV}{P:Nat->aq->Prop},(∀i q,j<=i->P i q->h'.get q=h.get q)->(∀i,h'.get (.a i)=h.get (.a i))->(∀(i:Nat)(ks:List K)(v:PV),ps[i]?=some (.B false ks)->vs[i]?=some v->∃k ver,v=.ptr (.a k) ver 0 0)->
  KOuts h P ps vs j xs->KOuts h' P ps vs j xs:=by
 intro ps;induction ps with
 |nil=>intro vs j xs P _ _ _ H;cases vs<;>cases xs<;>first|trivial|(simp[KOuts]at H)
 | cons k ps ih=>
  intro vs j xs P hp ha hb H;cases vs with
  |nil=>cases k<;>simp[KOuts]at H
  | cons v vs=>
   have hb':∀(i:Nat)(ks:List K)(v:PV),ps[i]?=some (.B false ks)->vs[i]?=some v->∃k ver,v=.ptr (.a k) ver 0 0:=λi ks w h1 h2=>hb (i+1) ks w (by simpa using h1) (by simpa using h2);cases k with
   | B ro ks=>
    cases ro with
    |true=>exact ih hp ha hb' H
    | false=>
     cases xs with
     |nil=>simp[KOuts]at H
     |cons x xs=>
      obtain⟨⟨r,ver,n,e,os,q1,q2,q3,q4,q5⟩,H2⟩:=H;obtain⟨k,ver',hk⟩:=hb 0 ks v rfl rfl;rw[q1]at hk;cases hk;exact⟨⟨_,ver,n,e,os,q1,by rw[ha];exact q2,q3,q4,q5.heap λi q h1 _=>hp i q h1⟩,ih (λi q h=>hp i q (by omega)) ha hb' H2⟩
   |F=>exact ih hp ha hb' H
   |O sz wf=>exact ih hp ha hb' H
   |Q=>exact ih hp ha hb' H
   |A ks=>exact ih hp ha hb' H
   |T ks=>exact ih hp ha hb' H
def uF:List K->Nat
 |[]=>0
 |.B false ks::ps=>K.wL ks+uF ps
 |_::ps=>uF ps
def jO:List K->List PV->List Nat
 |.B false _::ps,.ptr (.a k) _ _ _::vs=>k::jO ps vs
 |_::ps,_::vs=>jO ps vs
 |_,_=>[]
def jM(h:Heap)(k:Nat):Nat:=match h.get (.a k)with|some ⟨_,some b⟩=>(bi b.es).length|_=>0
theorem AK{h:Heap}{P:Nat->aq->Prop}:∀{ps:List K}{vs:List PV}{j:Nat}{xs:List PV},KOuts h P ps vs j xs->(∀(i:Nat)(ks:List K)(v:PV),ps[i]?=some (.B false ks)->vs[i]?=some v->∃k ver,v=.ptr (.a k) ver 0 0)->
  (∀y∈aU h ps vs,h.get y.1=some ⟨y.2.1,some y.2.2⟩/\(∃i,j<=i/\i<j+eA ps/\P i y.1)/\∀q∈bi y.2.2.es,inB (aU h ps vs) q)/\
  ((jO ps vs).map (jM h)).sum+oq (aU h ps vs)<=uF ps/\
  (∀k∈jO ps vs,∀ver b,h.get (.a k)=some ⟨ver,some b⟩->∀q∈bi b.es,inB (aU h ps vs) q):=by
 intro ps;induction ps with
 |nil=>intro vs j xs H _;exact⟨λ_ h=>(by cases h),by simp[jO,aU,oq],λ_ h=>(by cases vs<;>simp[jO]at h)⟩
 | cons k ps ih=>
  intro vs j xs H hb;cases vs with
  |nil=>cases k<;>simp[KOuts]at H
  | cons v vs=>
   have hb':∀(i:Nat)(ks:List K)(v:PV),ps[i]?=some (.B false ks)->vs[i]?=some v->∃k ver,v=.ptr (.a k) ver 0 0:=λi ks w h1 h2=>hb (i+1) ks w (by simpa using h1) (by simpa using h2);cases k with
   | B ro ks=>
    cases ro with
    |true=>
     obtain⟨k1,k2,k3⟩:=ih (j:=j) (xs:=xs) H hb';refine⟨?_,?_,?_⟩
     ·simpa only[aU,Pi,eA]using k1
     ·simpa only[aU,Pi,uF,jO]using k2
     ·simpa only[aU,Pi,jO]using k3
    | false=>
     cases xs with
     |nil=>simp[KOuts]at H
     | cons x xs=>
      obtain⟨⟨r,ver,n,e,os,q1,q2,q3,q4,q5⟩,H2⟩:=H;obtain⟨k,ver',hk⟩:=hb 0 ks v rfl rfl;rw[q1]at hk;cases hk;subst q1;obtain⟨k1,k2,k3⟩:=ih H2 hb';have kb:=ga q5;have hout:aU h (.B false ks::ps) (.ptr (.a k) ver 0 0::vs)=jS h ks e.cells++aU h ps vs:=by simp only[aU,q2]
      have hbi:jO (.B false ks::ps) (.ptr (.a k) ver 0 0::vs)=k::jO ps vs:=rfl;have hte:bi [e]=bi e.cells:=by
       simp only[bi,PB];exact jF e (dR q3)
      have hbl:jM h k=(bi e.cells).length:=by simp only[jM,q2,hte]
      rw[hout,hbi];refine⟨λy hy=>?_,?_,λk' hk'=>?_⟩
      ·rcases List.mem_append.1 hy with hy|hy
       ·obtain⟨a1,⟨i,a2,a3,a4⟩,a5⟩:=kb.b y hy;exact⟨a1,⟨i,a2,by simp only[eA];omega,a4⟩,λq hq=>(a5 q hq).mono λy hy=>Pc _ hy⟩
       ·obtain⟨a1,⟨i,a2,a3,a4⟩,a5⟩:=k1 y hy;exact⟨a1,⟨i,by omega,by simp only[eA];omega,a4⟩,λq hq=>(a5 q hq).mono λy hy=>O8 _ hy⟩
      ·have:=kb.w;rw[vG];simp only[PM,QG,hbl,uF];omega
      ·rcases List.mem_cons.1 hk' with rfl|hk'
       ·intro ver2 b hg q hq;rw[q2]at hg;cases hg;simp only at hq;rw[hte]at hq;exact(kb.t q hq).mono λy hy=>Pc _ hy
       ·intro ver2 b hg q hq;exact(k3 k' hk' ver2 b hg q hq).mono λy hy=>O8 _ hy
   |F=>
    obtain⟨k1,k2,k3⟩:=ih (j:=j) (xs:=xs) H hb';exact⟨by simpa only[aU,Pi,eA]using k1,by simpa only[aU,Pi,uF,jO]using k2,by simpa only[aU,Pi,jO]using k3⟩
   |O sz wf=>
    obtain⟨k1,k2,k3⟩:=ih (j:=j) (xs:=xs) H hb';exact⟨by simpa only[aU,Pi,eA]using k1,by simpa only[aU,Pi,uF,jO]using k2,by simpa only[aU,Pi,jO]using k3⟩
   |Q=>
    obtain⟨k1,k2,k3⟩:=ih (j:=j) (xs:=xs) H hb';exact⟨by simpa only[aU,Pi,eA]using k1,by simpa only[aU,Pi,uF,jO]using k2,by simpa only[aU,Pi,jO]using k3⟩
   |A ks=>
    obtain⟨k1,k2,k3⟩:=ih (j:=j) (xs:=xs) H hb';exact⟨by simpa only[aU,Pi,eA]using k1,by simpa only[aU,Pi,uF,jO]using k2,by simpa only[aU,Pi,jO]using k3⟩
   |T ks=>
    obtain⟨k1,k2,k3⟩:=ih (j:=j) (xs:=xs) H hb';exact⟨by simpa only[aU,Pi,eA]using k1,by simpa only[aU,Pi,uF,jO]using k2,by simpa only[aU,Pi,jO]using k3⟩
theorem Eg{h:Heap}{P:Nat->aq->Prop}(u1:∀i j q,P i q->P j q->i=j):∀{ps:List K}{vs:List PV}{j:Nat}{xs:List PV},cj ps=true->KOuts h P ps vs j xs->(∀(i:Nat)(ks:List K)(v:PV),ps[i]?=some (.B false ks)->vs[i]?=some v->∃k ver,v=.ptr (.a k) ver 0 0)->
  ∀i,∀y∈aU h ps vs,∀z∈aU h ps vs,P i y.1->P i z.1->y.1=z.1:=by
 intro ps;induction ps with
 |nil=>intro vs j xs _ H _ i y hy;cases hy
 | cons k ps ih=>
  intro vs j xs hps H hb i y hy z hz h1 h2;cases vs with
  |nil=>cases k<;>simp[KOuts]at H
  | cons v vs=>
   have hb':∀(i:Nat)(ks:List K)(v:PV),ps[i]?=some (.B false ks)->vs[i]?=some v->∃k ver,v=.ptr (.a k) ver 0 0:=λi ks w h1 h2=>hb (i+1) ks w (by simpa using h1) (by simpa using h2);cases k with
   | B ro ks=>
    cases ro with
    |true=>
     simp only[cj,O6]at hps;exact ih hps.2 (j:=j) (xs:=xs) H hb' i y (by simpa only[aU,Pi]using hy) z (by simpa only[aU,Pi]using hz) h1 h2
    | false=>
     simp only[cj,O6]at hps;cases xs with
     |nil=>simp[KOuts]at H
     | cons x xs=>
      obtain⟨⟨r,ver,n,e,os,q1,q2,q3,q4,q5⟩,H2⟩:=H;obtain⟨k,ver',hk⟩:=hb 0 ks v rfl rfl;rw[q1]at hk;cases hk;subst q1;have hout:aU h (.B false ks::ps) (.ptr (.a k) ver 0 0::vs)=jS h ks e.cells++aU h ps vs:=by simp only[aU,q2]
      rw[hout]at hy hz;have kb:=ga q5;have ko:=(AK H2 hb').1;have hh:∀w∈jS h ks e.cells,P i w.1->i<j+K.nL ks:=λw hw hP=>by
       obtain⟨_,⟨i',g1,g2,g3⟩,_⟩:=kb.b w hw;have:=u1 _ _ _ hP g3;omega
      have ht:∀w∈aU h ps vs,P i w.1->j+K.nL ks<=i:=λw hw hP=>by
       obtain⟨_,⟨i',g1,g2,g3⟩,_⟩:=ko w hw;have:=u1 _ _ _ hP g3;omega
      rcases List.mem_append.1 hy with hy|hy
      ·rcases List.mem_append.1 hz with hz|hz
       ·exact rF u1 (lg hps.1) q5 i y hy z hz h1 h2
       ·have:=hh y hy h1;have:=ht z hz h2;omega
      ·rcases List.mem_append.1 hz with hz|hz
       ·have:=ht y hy h1;have:=hh z hz h2;omega
       ·exact ih hps.2 H2 hb' i y hy z hz h1 h2
   |F=>exact ih (by simpa[cj]using hps) (j:=j) (xs:=xs) H hb' i y (by simpa only[aU,Pi]using hy) z (by simpa only[aU,Pi]using hz) h1 h2
   |O sz wf=>exact ih (by simpa[cj]using hps) (j:=j) (xs:=xs) H hb' i y (by simpa only[aU,Pi]using hy) z (by simpa only[aU,Pi]using hz) h1 h2
   |Q=>exact ih (by simpa[cj]using hps) (j:=j) (xs:=xs) H hb' i y (by simpa only[aU,Pi]using hy) z (by simpa only[aU,Pi]using hz) h1 h2
   |A ks=>simp[cj]at hps
   |T ks=>simp[cj]at hps
theorem sH(_g:Nat->Nat):∀(l:List Nat)(m:Nat)(g:Nat->Nat),(∀k,k∉l->g k=0)->((List.range m).map g).sum<=(l.map g).sum
 | [],m,g,h=>by
  have:∀n,((List.range n).map g).sum=0:=by
   intro n;induction n with
   |zero=>rfl
   |succ n ih=>rw[List.range_succ,QR,List.sum_append,ih];simp[h n (by simp)]
  rw[this];exact Qf _
 | x::l,m,g,h=>by
  have ih:=sH g l m (λk=>if k=x then 0 else g k) (λk hk=>by
   by_cases hx:k=x
   ·simp[hx]
   ·simp only[hx,PS];exact h k (by simp[hx,hk]))
  have h1:((List.range m).map g).sum<=((List.range m).map λk=>if k=x then 0 else g k).sum+g x:=by
   induction m with
   |zero=>simp
   | succ n ihn=>
    rw[List.range_succ,QR,QR,List.sum_append,List.sum_append];have hn:((List.range n).map λk=>if k=x then 0 else g k).sum<=(l.map λk=>if k=x then 0 else g k).sum:=sH g l n _ (λk hk=>by
     by_cases hx:k=x
     ·simp[hx]
     ·simp only[hx,PS];exact h k (by simp[hx,hk]))
    have ihn:=ihn hn;simp only[PM,QM,QG,List.sum_nil,Qp];by_cases hx:n=x
    ·subst hx;have:((List.range n).map g).sum=((List.range n).map λk=>if k=n then 0 else g k).sum:=by
      congr 1;apply List.map_congr_left;intro k hk;rw[List.mem_range]at hk;simp only[show k≠n by omega,PS]
     simp only[PQ];omega
    ·simp only[hx,PS];omega
  have h2:(l.map λk=>if k=x then 0 else g k).sum<=(l.map g).sum:=by
   clear ih h1 h;induction l with
   |nil=>exact Pf _
   |cons y l ihl=>simp only[PM,QG];split<;>omega
  simp only[PM,QG];omega
def GO:aq->Bool
 |.l _=>true
 |_=>false
theorem th:∀(n:Nat){i:Nat}{h:Heap},i+n<=h.A.length->∃bs R,(lZ n i).runT h=some (bs,h,R,[])/\bs.length=n/\∀(k:Nat),k<n->∃b,bs[k]?=some b/\h.get (.a (i+k))=some ⟨0,b⟩
 |0,i,h,_=>⟨[],[],rfl,rfl,λk hk=>by omega⟩
 | n+1,i,h,hl=>by
  obtain⟨bs,R,k1,k2,k3⟩:=th n (i:=i+1) (h:=h) (by omega);have hg:h.get (.a i)=some ⟨0,h.A[i]⟩:=by simp only[Heap.get];rw[Pa (by omega)]
  refine⟨h.A[i]::bs,.a i::(R++[]),?_,by simp[k2],λk hk=>?_⟩
  ·simp only[lZ,HM.runT,hg];rw[HM.runT_bind_of (R2:=[]) (W:=[]) (W2:=[]) k1 rfl];rfl
  ·cases k with
   |zero=>exact⟨_,rfl,hg⟩
   |succ k=>
    obtain⟨b,h1,h2⟩:=k3 k (by omega);exact⟨b,by simpa using h1,by rw[show i+(k+1)=i+1+k by omega];exact h2⟩
theorem ir{h:Heap}{L:List B3}(hL:∀y∈L,h.get y.1=some ⟨y.2.1,some y.2.2⟩/\∀q∈bi y.2.2.es,inB L q):∀(n:Nat){todo:List (aq×Nat)}{acc Rm:List B3},todo.length+oq Rm<n->(∀q∈todo,inB L q)->(∀y∈L,y∈acc∨y∈Rm)->(∀y∈acc,y∈L)->
  ∃bor R,(cY n todo acc).runT h=some (bor,h,R,[])/\(∀y∈acc,y∈bor)/\(∀y∈bor,y∈L)/\(∀q∈todo,GO q.1=true->inB bor q)/\(∀y∈bor,y∈acc∨∀q∈bi y.2.2.es,GO q.1=true->inB bor q)
 |0,todo,acc,Rm,hm,_,_,_=>by omega
 |n+1,[],acc,Rm,hm,_,_,hacc=>⟨acc,[],rfl,λ_ h=>h,hacc,λ_ h=>(by cases h),λy hy=>.inl hy⟩
 |n+1,(.a i,v)::rest,acc,Rm,hm,ht,hc,hacc=>by
  obtain⟨bor,R,k1,k2,k3,k4,k5⟩:=ir hL n (todo:=rest) (acc:=acc) (Rm:=Rm) (by simp only[PJ]at hm;omega) (λq hq=>ht q (Pe _ hq)) hc hacc;refine⟨bor,R,k1,k2,k3,λq hq hl=>?_,k5⟩;rcases List.mem_cons.1 hq with rfl|hq
  ·cases hl
  ·exact k4 q hq hl
 |n+1,(.dead,v)::rest,acc,Rm,hm,ht,hc,hacc=>by
  obtain⟨bor,R,k1,k2,k3,k4,k5⟩:=ir hL n (todo:=rest) (acc:=acc) (Rm:=Rm) (by simp only[PJ]at hm;omega) (λq hq=>ht q (Pe _ hq)) hc hacc;refine⟨bor,R,k1,k2,k3,λq hq hl=>?_,k5⟩;rcases List.mem_cons.1 hq with rfl|hq
  ·cases hl
  ·exact k4 q hq hl
 | n+1,(.l s,v)::rest,acc,Rm,hm,ht,hc,hacc=>by
  obtain⟨b,hb⟩:=ht (.l s,v) (Pj ..);simp only at hb;obtain⟨hg,hcl⟩:=hL _ hb;simp only at hg hcl;simp only[cY];split
  ·rename_i hany;obtain⟨x,hx,hxe⟩:=List.any_eq_true.1 hany;simp only[O6,PF]at hxe;obtain⟨bor,R,k1,k2,k3,k4,k5⟩:=ir hL n (todo:=rest) (acc:=acc) (Rm:=Rm) (by simp only[PJ]at hm;omega) (λq hq=>ht q (Pe _ hq)) hc hacc;refine⟨bor,R,k1,k2,k3,λq hq hl=>?_,k5⟩;rcases List.mem_cons.1 hq with rfl|hq
   ·exact⟨x.2.2,by rw[<-hxe.1,<-hxe.2];exact k2 x hx⟩
   ·exact k4 q hq hl
  ·rename_i hany;have hnin:∀x∈acc,¬(x.1=.l s/\x.2.1=v):=λx hx he=>by
    apply hany;exact List.any_eq_true.2 ⟨x,hx,by simp[he.1,he.2]⟩
   have hRm:(aq.l s,v,b)∈Rm:=by
    rcases hc _ hb with h1|h1
    ·exact absurd ⟨rfl,rfl⟩ (hnin _ h1)
    ·exact h1
   have hfl:=oG (p:=λy=> !(y.1== .l s&&y.2.1==v)) hRm (by simp);obtain⟨bor,R,k1,k2,k3,k4,k5⟩:=ir hL n (todo:=rest++bi b.es) (acc:=acc++[(.l s,v,b)]) (Rm:=Rm.filter λy=> !(y.1== .l s&&y.2.1==v))
    (by simp only[PJ,Pu]at hm hfl⊢;omega)
    (λq hq=>by
     rcases List.mem_append.1 hq with hq|hq
     ·exact ht q (Pe _ hq)
     ·exact hcl q hq)
    (λy hy=>by
     by_cases he:y.1=.l s/\y.2.1=v
     ·left;have h1:=(hL y hy).1;rw[he.1,hg]at h1;have:y=(.l s,v,b):=by
       obtain⟨y1,y2,y3⟩:=y;simp only at he h1;simp only[O5,fg.mk.injEq]at h1;rw[he.1,he.2,h1.2]
      rw[this];exact O8 _ (List.mem_singleton.2 rfl)
     ·rcases hc y hy with h1|h1
      ·exact .inl (Pc _ h1)
      ·right;refine List.mem_filter.2 ⟨h1,?_⟩;simp only[PC,Q9,Q2,ne_eq];by_cases h2:y.1=.l s
       ·exact .inr λh3=>he ⟨h2,h3⟩
       ·exact .inl h2)
    (λy hy=>by
     rcases List.mem_append.1 hy with hy|hy
     ·exact hacc y hy
     ·simp only[Px]at hy;subst hy;exact hb)
   refine⟨bor,.l s::R,?_,λy hy=>k2 y (Pc _ hy),k3,λq hq hl=>?_,λy hy=>?_⟩
   ·simp only[HM.runT,hg];simp only[PQ];rw[k1]
   ·rcases List.mem_cons.1 hq with rfl|hq
    ·exact⟨b,k2 _ (O8 _ (List.mem_singleton.2 rfl))⟩
    ·exact k4 q (Pc _ hq) hl
   ·rcases k5 y hy with h1|h1
    ·rcases List.mem_append.1 h1 with h1|h1
     ·exact .inl h1
     ·simp only[Px]at h1;subst h1;exact .inr λq hq hl=>k4 q (O8 _ hq) hl
    ·exact .inr h1
def AU:List (List Nat)->Bool
 |[]=>true
 |l::ls=>ls.all (λm=>l.all λn=> !m.contains n)&&AU ls
theorem vE:∀{ls:List (List Nat)}{i j:Nat}{l m:List Nat}{n:Nat},AU ls=true->ls[i]?=some l->ls[j]?=some m->n∈l->n∈m->i=j
 |[],i,j,l,m,n,_,hi,_,_,_=>by simp at hi
 | x::ls,i,j,l,m,n,hd,hi,hj,h1,h2=>by
  simp only[AU,O6]at hd;have key:∀y∈ls,∀n,n∈x->n∈y->False:=λy hy n hx hy'=>by
   have:=List.all_eq_true.1 (List.all_eq_true.1 hd.1 y hy) n hx;simp at this;exact this hy'
  cases i with
  |zero=>
   simp only[Pg,O5]at hi;subst hi;cases j with
   |zero=>rfl
   |succ j=>exact(key m (Pl (by simpa using hj)) n h1 h2).elim
  | succ i=>
   cases j with
   |zero=>
    simp only[Pg,O5]at hj;subst hj;exact(key l (Pl (by simpa using hi)) n h2 h1).elim
   |succ j=>have:=vE (i:=i) (j:=j) hd.2 (by simpa using hi) (by simpa using hj) h1 h2;omega
def EG(ok:Nat->Bool)(l:List Nat):Bool:=l.all λn=>n %2==0||ok (n/2)
def pI:List (List Nat)->List Nat->Bool
 |[],_=>true
 |l::ls,p::ps=>EG (·==p) l&&pI ls ps
 |l::ls,[]=>EG (λ_=>false) l&&pI ls []
theorem qz:∀{ls:List (List Nat)}{ps:List Nat}{i:Nat}{l:List Nat}{p:Nat},pI ls ps=true->ls[i]?=some l->2*p+1∈l->ps[i]?=some p
 |[],ps,i,l,p,_,hi,_=>by simp at hi
 | x::ls,q::ps,i,l,p,ho,hi,hm=>by
  simp only[pI,O6]at ho;cases i with
  |zero=>
   simp only[Pg,O5]at hi⊢;subst hi;have:=List.all_eq_true.1 ho.1 _ hm;rw[show(2*p+1)/2=p by omega]at this;have h2:((2*p+1) %2==0)=false:=by simp
   rw[h2]at this;simp only[QN,PF]at this;exact this.symm
  |succ i=>have:=qz (i:=i) ho.2 (by simpa using hi) hm;simpa using this
 | x::ls,[],i,l,p,ho,hi,hm=>by
  simp only[pI,O6]at ho;cases i with
  |zero=>
   simp only[Pg,O5]at hi;subst hi;have:=List.all_eq_true.1 ho.1 _ hm;have h2:((2*p+1) %2==0)=false:=by simp
   rw[h2]at this;simp at this
  |succ i=>
   have:=qz (ps:=[]) ho.2 (by simpa using hi) hm;simp at this
theorem gV:∀{ps:List K},cj ps=true->dX ps=true
 |[],_=>rfl
 |.F::ps,h=>gV (ps:=ps) (by simpa[cj]using h)
 |.O _ _::ps,h=>gV (ps:=ps) (by simpa[cj]using h)
 |.Q::ps,h=>gV (ps:=ps) (by simpa[cj]using h)
 |.B false ks::ps,h=>by simp only[cj,O6]at h;simp only[dX,lg h.1,gV h.2,PE]
 |.B true ks::ps,h=>by simp only[cj,O6]at h;exact gV (ps:=ps) h.2
 |.A _::_,h=>by simp[cj]at h
 |.T _::_,h=>by simp[cj]at h
def oo(sg:Sig):Bool:=cj sg.ps&&Bi sg.r&&decide (sg.r.w+uF sg.ps<99)&&decide (K.wL sg.ps<99)&&(bH sg.ps 0).all (λp=> !(aV sg.ps 0).contains p)&&qf sg.ps
def sa(st:Nat->Nat)(sg:Sig)(res:List uR)(frz:Bool)(a:Abs):Option (X×List X×List X):=
 af (xG a res) λav=>af (HJ st a frz sg.r av.1) λrp=>af (yC a sg.ps 0) λop=>
  if AU (rp.2.1++op.2)/\rp.2.1.all (EG λp=>(qD sg.ps 0).contains p)/\pI op.2 (qg sg.ps 0)/\op.2.all (λl=>l.all λn=> !rp.2.2.contains n)/\rp.2.2.all (λn=>n %2==0)then
   some (rp.1,op.1,av.2)else none
theorem KRs.box{h:Heap}{P:Nat->aq->Prop}:∀{ps:List K}{j:Nat}{vs xs:List PV},KRs h P ps j vs xs->∀(i:Nat)(ks:List K)(v:PV),ps[i]?=some (.B false ks)->vs[i]?=some v->∃r ver p,v=.ptr r ver 0 0/\P p r
 |[],j,[],[],_,i,ks,v,h,_=>by simp at h
 |k::ps,j,v::vs,x::xs,H,0,ks,w,h1,h2=>by
  simp only[Pg,O5]at h1 h2;subst h1;subst h2;obtain⟨r,ver,n,e,ro',xs',rfl,h2,_⟩:=H.1;exact⟨r,ver,j,rfl,h2⟩
 |k::ps,j,v::vs,x::xs,H,i+1,ks,w,h1,h2=>KRs.box H.2 i ks w (by simpa using h1) (by simpa using h2)
 |[],_,_::_,_,H,_,_,_,_,_=>by simp[KRs]at H
 |[],_,[],_::_,H,_,_,_,_,_=>by simp[KRs]at H
 |_::_,_,[],_,H,_,_,_,_,_=>by simp[KRs]at H
 |_::_,_,_::_,[],H,_,_,_,_,_=>by simp[KRs]at H
theorem AR:∀{ps:List K}{vs:List PV}{i:Nat}{ks:List K}{k ver:Nat},ps.length=vs.length->ps[i]?=some (.B false ks)->vs[i]?=some (.ptr (.a k) ver 0 0)->k∈jO ps vs
 |[],_,i,ks,k,ver,_,h,_=>by simp at h
 |_::_,[],i,ks,k,ver,hl,_,_=>by simp at hl
 |q::ps,v::vs,0,ks,k,ver,hl,h1,h2=>by
  simp only[Pg,O5]at h1 h2;subst h1;subst h2;exact Pj ..
 |q::ps,v::vs,i+1,ks,k,ver,hl,h1,h2=>by
  have:=AR (ps:=ps) (vs:=vs) (by simpa using hl) (by simpa using h1) (by simpa using h2);unfold jO;split
  ·rename_i e1 e2;cases e1;cases e2;exact Pe _ this
  ·rename_i e1 e2;cases e1;cases e2;exact this
  ·rename_i hn;exact absurd rfl (hn _ _ _ _ rfl)
theorem oI:∀{bs:List (Option Blk)}{q:aq×Nat},q∈fI bs->∃(k:Nat)(b:Blk),bs[k]?=some (some b)/\q∈bi b.es
 |[],_,h=>by cases h
 |none::bs,q,h=>by
  obtain⟨k,b,h1,h2⟩:=oI (bs:=bs) h;exact⟨k+1,b,by simpa using h1,h2⟩
 | some b::bs,q,h=>by
  rcases List.mem_append.1 h with h|h
  ·exact⟨0,b,rfl,h⟩
  ·obtain⟨k,b',h1,h2⟩:=oI (bs:=bs) h;exact⟨k+1,b',by simpa using h1,h2⟩
theorem lV:∀{bs:List (Option Blk)}{q:aq×Nat}{k:Nat}{b:Blk},bs[k]?=some (some b)->q∈bi b.es->q∈fI bs
 |[],q,k,b,h,_=>by simp at h
 |none::bs,q,0,b,h,_=>by simp at h
 |some b'::bs,q,0,b,h,hq=>by
  simp only[Pg,O5]at h;subst h;exact Pc _ hq
 |none::bs,q,k+1,b,h,hq=>lV (bs:=bs) (by simpa using h) hq
 |some b'::bs,q,k+1,b,h,hq=>O8 _ (lV (bs:=bs) (by simpa using h) hq)
theorem tj{h:Heap}:∀{n i:Nat}{bs:List (Option Blk)},bs.length=n->(∀k,k<n->∃b,bs[k]?=some b/\h.get (.a (i+k))=some ⟨0,b⟩)->(fI bs).length=((List.range n).map λk=>jM h (i+k)).sum
 |0,i,[],_,_=>rfl
 |n+1,i,[],hl,_=>by simp at hl
 |0,i,_::_,hl,_=>by simp at hl
 | n+1,i,b::bs,hl,hb=>by
  have ih:=tj (h:=h) (n:=n) (i:=i+1) (bs:=bs) (by simpa using hl) (λk hk=>by
   obtain⟨b',h1,h2⟩:=hb (k+1) (by omega);exact⟨b',by simpa using h1,by rw[show i+1+k=i+(k+1)by omega];exact h2⟩)
  obtain⟨b',h1,h2⟩:=hb 0 (by omega);simp only[Pg,O5]at h1;subst h1;rw[List.range_succ_eq_map,PM,QG,List.map_map];have:(λk=>jM h (i+k))∘Nat.succ= λk=>jM h (i+1+k):=by
   funext k;simp only[Function.comp];congr 1;omega
  rw[this,<-ih];cases b with
  |none=>simp only[fI,jM,h2];omega
  |some b=>simp only[fI,jM,h2,Pu]
end Gv
