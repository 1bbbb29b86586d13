/- A part of the proof that the law is true of all its inputs, by an interpreter that is proved sound. -/
import Derived.Test.YtfaeljmkbadgdaaGreatPa
import Derived.Test.YtfaeljmkbadgdaaGreatEc
import Derived.OpenShut
import Derived.Test.YtfaeljmkbadgdaaGreatNb
import Derived.Test.YtfaeljmkbadgdaaGreatOc
import Derived.Test.YtfaeljmkbadgdaaGreatOk
namespace Gv
open Go Go.ChangeShapes Go.WideShapes Go.RowKit
theorem VT.ct{c:tI}{x:PV}(h:VT false [c] x):CT c x:=h.at_ 0 _ x rfl (by rw[kK (h.one rfl)];rfl)
theorem cq{x:PV}(h:CT (.int .i64) x):∃n:Int,x=.int .i64 n/\uj n:=by
 cases h with
 |int _ k hw=>
  obtain⟨a,b⟩:=bounds_i64 hw;exact⟨k,rfl,a,b⟩
theorem CO{x:PV}(h:CT .bool x):∃b:Bool,x=.bool b:=by cases h with|bool b=>exact⟨b,rfl⟩
theorem lx{α:Type}{f:α->PV}{P:α->Prop}{ag:Bool}{cs:List tI}(h:∀e,VT ag cs e->∃a,aO e=f a/\pl e=true/\P a){x:PV}(hx:CT (.slice ag cs) x):
  ∃l:List α,aO x=.lst (l.map f) false/\pl x=true/\(∀a∈l,P a)/\l.length<=maxLen:=by
 cases hx with
 |nils=>exact⟨[],rfl,rfl,by simp,by simp⟩
 | lst _ _ es c0 h0 hl h1 h2=>
  have key:∀es:List PV,(∀e∈es,VT ag cs e)->∃l:List α,aB es=l.map f/\bX es=true/\(∀a∈l,P a)/\l.length=es.length:=by
   intro es;induction es with
   |nil=>intro _;exact⟨[],rfl,rfl,by simp,rfl⟩
   |cons e es ih=>
    intro he;obtain⟨a,a1,a2,a3⟩:=h e (he e (by simp));obtain⟨l,b1,b2,b3,b4⟩:=ih λy hy=>he y (by simp[hy]);refine⟨a::l,by simp only[aB,PM,a1,b1],by simp only[bX,a2,b2,PE],λy hy=>?_,by simp[b4]⟩;rcases List.mem_cons.1 hy with rfl|hy
    ·exact a3
    ·exact b3 y hy
  obtain⟨l,b1,b2,b3,b4⟩:=key es λe he=>by
   obtain⟨i,hi⟩:=QO he;obtain⟨k1,k2,k3⟩:=h1 i e hi;exact⟨k1,k2,k3,λj c x hj hx=>h2 i e j c x hi hj hx⟩
  exact⟨l,by simp only[aO,b1],by simp only[pl,b2],b3,by omega⟩
theorem mC{cs:List tI}{e:PV}(h:VT true cs e):∃xs,e=.agg xs/\xs.length=cs.length/\∀(j:Nat)(c:tI)(x:PV),cs[j]?=some c->xs[j]?=some x->CT c x:=by
 obtain⟨xs,rfl⟩:=h.agg rfl;exact⟨xs,rfl,h.len,h.at_⟩
theorem dW{ag:Bool}{cs:List tI}{x:PV}(h:CT (.slice ag cs) x):x.isCell=true:=by cases h<;>rfl
theorem uu{x:PV}(h:CT (.slice false [.int .i64]) x):∃l:List Int,aO x=eI l/\pl x=true/\∀y∈l,uj y:=by
 obtain⟨l,h1,h2,h3,_⟩:=lx (f:=λn:Int=>PV.int .i64 n) (P:=uj) (λe he=>by
  obtain⟨n,rfl,hn⟩:=cq he.ct;exact⟨n,rfl,rfl,hn⟩) h
 exact⟨l,h1,h2,h3⟩
theorem H0{x:PV}(h:CT (.slice true [.int .i64,.int .i64]) x):∃l:List SInstr,aO x=cM l/\pl x=true:=by
 obtain⟨l,h1,h2,_⟩:=lx (f:=iG) (P:=λ_=>True) (λe he=>by
  obtain⟨xs,rfl,hl,hc⟩:=mC he
  match xs,hl with
  |[x0,x1],_=>
   obtain⟨n0,rfl,_⟩:=cq (hc 0 _ _ rfl rfl);obtain⟨n1,rfl,_⟩:=cq (hc 1 _ _ rfl rfl);exact⟨⟨n0,n1⟩,rfl,rfl,trivial⟩) h
 exact⟨l,h1,h2⟩
theorem AE{x:PV}(h:CT (.slice true [.int .i64,.slice true [.int .i64,.int .i64]]) x):∃l:List SHandler,aO x=jL l/\pl x=true:=by
 obtain⟨l,h1,h2,_⟩:=lx (f:=cN) (P:=λ_=>True) (λe he=>by
  obtain⟨xs,rfl,hl,hc⟩:=mC he
  match xs,hl with
  |[x0,x1],_=>
   obtain⟨n0,rfl,_⟩:=cq (hc 0 _ _ rfl rfl);obtain⟨l1,b1,b2⟩:=H0 (hc 1 _ _ rfl rfl);exact⟨⟨n0,l1⟩,by simp only[aO,aB,b1,cN],by simp only[pl,bX,b2,aj,dW (hc 1 _ _ rfl rfl),iF,PE],trivial⟩) h
 exact⟨l,h1,h2⟩
theorem DS{x:PV}(h:CT (.slice true [.slice false [.int .i64],.int .i64,.int .i64,.bool]) x):∃l:List SActor,aO x=kz l/\pl x=true:=by
 obtain⟨l,h1,h2,_⟩:=lx (f:=iq) (P:=λ_=>True) (λe he=>by
  obtain⟨xs,rfl,hl,hc⟩:=mC he
  match xs,hl with
  |[x0,x1,x2,x3],_=>
   obtain⟨l0,b1,b2,_⟩:=uu (hc 0 _ _ rfl rfl);obtain⟨n1,rfl,_⟩:=cq (hc 1 _ _ rfl rfl);obtain⟨n2,rfl,_⟩:=cq (hc 2 _ _ rfl rfl);obtain⟨n3,rfl⟩:=CO (hc 3 _ _ rfl rfl);exact⟨⟨l0,n1,n2,n3⟩,by simp only[aO,aB,b1,iq],by simp only[pl,bX,b2,aj,dW (hc 0 _ _ rfl rfl),iF,pQ,PE],trivial⟩) h
 exact⟨l,h1,h2⟩
theorem Gr{x:PV}(h:CT (.slice true [.int .i64,.int .i64,.slice false [.int .i64]]) x):∃l:List SNote,aO x=kT l/\pl x=true:=by
 obtain⟨l,h1,h2,_⟩:=lx (f:=jX) (P:=λ_=>True) (λe he=>by
  obtain⟨xs,rfl,hl,hc⟩:=mC he
  match xs,hl with
  |[x0,x1,x2],_=>
   obtain⟨n0,rfl,_⟩:=cq (hc 0 _ _ rfl rfl);obtain⟨n1,rfl,_⟩:=cq (hc 1 _ _ rfl rfl);obtain⟨l2,b1,b2,_⟩:=uu (hc 2 _ _ rfl rfl);exact⟨⟨n0,n1,l2⟩,by simp only[aO,aB,b1,jX],by simp only[pl,bX,b2,aj,dW (hc 2 _ _ rfl rfl),iF,PE],trivial⟩) h
 exact⟨l,h1,h2⟩
theorem GP{e:PV}(h:VT true [.slice true [.int .i64,.slice true [.int .i64,.int .i64]],.slice true [.slice false [.int .i64],.int .i64,.int .i64,.bool],.slice true [.int .i64,.int .i64,.slice false [.int .i64]],.int .i64] e):∃p:SProg,aO e=aJ p/\pl e=true:=by
 obtain⟨xs,rfl,hl,hc⟩:=mC h
 match xs,hl with
 |[x0,x1,x2,x3],_=>
  obtain⟨hs,a1,a2⟩:=AE (hc 0 _ _ rfl rfl);obtain⟨as,b1,b2⟩:=DS (hc 1 _ _ rfl rfl);obtain⟨ns,c1,c2⟩:=Gr (hc 2 _ _ rfl rfl);obtain⟨n3,rfl,_⟩:=cq (hc 3 _ _ rfl rfl);exact⟨⟨hs,as,ns,n3⟩,by simp only[aO,aB,a1,b1,c1,aJ,aC],by simp only[pl,bX,a2,b2,c2,aj,dW (hc 0 _ _ rfl rfl),dW (hc 1 _ _ rfl rfl),dW (hc 2 _ _ rfl rfl),iF,PE]⟩
theorem Ek{e:PV}(h:VT true [.int .i64,.int .i64,.int .i64,.int .i64] e):∃b:SBudget,aO e=aT b/\pl e=true:=by
 obtain⟨xs,rfl,hl,hc⟩:=mC h
 match xs,hl with
 |[x0,x1,x2,x3],_=>
  obtain⟨n0,rfl,_⟩:=cq (hc 0 _ _ rfl rfl);obtain⟨n1,rfl,_⟩:=cq (hc 1 _ _ rfl rfl);obtain⟨n2,rfl,_⟩:=cq (hc 2 _ _ rfl rfl);obtain⟨n3,rfl,_⟩:=cq (hc 3 _ _ rfl rfl);exact⟨⟨n0,n1,n2,n3⟩,rfl,rfl⟩
theorem FP{e:PV}(h:VT true [.int .i64,.int .i64,.int .i64,.int .i64,.int .i64] e):∃x:SEvent,aO e=ba x/\pl e=true:=by
 obtain⟨xs,rfl,hl,hc⟩:=mC h
 match xs,hl with
 |[x0,x1,x2,x3,x4],_=>
  obtain⟨n0,rfl,_⟩:=cq (hc 0 _ _ rfl rfl);obtain⟨n1,rfl,_⟩:=cq (hc 1 _ _ rfl rfl);obtain⟨n2,rfl,_⟩:=cq (hc 2 _ _ rfl rfl);obtain⟨n3,rfl,_⟩:=cq (hc 3 _ _ rfl rfl);obtain⟨n4,rfl,_⟩:=cq (hc 4 _ _ rfl rfl);exact⟨⟨n0,⟨n1,n2,n3⟩,n4⟩,rfl,rfl⟩
theorem Ia{x:PV}(h:CT (.slice true [.int .i64,.int .i64,.int .i64,.int .i64,.int .i64,.slice false [.int .i64]]) x):∃l:List b6,aO x=cg l/\pl x=true:=by
 obtain⟨l,h1,h2,_⟩:=lx (f:=pU) (P:=λ_=>True) (λe he=>by
  obtain⟨xs,rfl,hl,hc⟩:=mC he
  match xs,hl with
  |[x0,x1,x2,x3,x4,x5],_=>
   obtain⟨n0,rfl,_⟩:=cq (hc 0 _ _ rfl rfl);obtain⟨n1,rfl,_⟩:=cq (hc 1 _ _ rfl rfl);obtain⟨n2,rfl,_⟩:=cq (hc 2 _ _ rfl rfl);obtain⟨n3,rfl,_⟩:=cq (hc 3 _ _ rfl rfl);obtain⟨n4,rfl,_⟩:=cq (hc 4 _ _ rfl rfl);obtain⟨g,b1,b2,_⟩:=uu (hc 5 _ _ rfl rfl);exact⟨⟨⟨n0,n1,n2⟩,⟨n3,n4,g⟩⟩,by simp only[aO,aB,b1,pU,mG],by simp only[pl,bX,b2,aj,dW (hc 5 _ _ rfl rfl),iF,PE],trivial⟩) h
 exact⟨l,h1,h2⟩
theorem En{x:PV}(h:CT (.slice true [.slice false [.int .i64],.bool,.int .i64,.int .i64,.int .i64]) x):∃l:List gI,aO x=dB l/\pl x=true:=by
 obtain⟨l,h1,h2,_⟩:=lx (f:=qE) (P:=λ_=>True) (λe he=>by
  obtain⟨xs,rfl,hl,hc⟩:=mC he
  match xs,hl with
  |[x0,x1,x2,x3,x4],_=>
   obtain⟨g,b1,b2,_⟩:=uu (hc 0 _ _ rfl rfl);obtain⟨n1,rfl⟩:=CO (hc 1 _ _ rfl rfl);obtain⟨n2,rfl,_⟩:=cq (hc 2 _ _ rfl rfl);obtain⟨n3,rfl,_⟩:=cq (hc 3 _ _ rfl rfl);obtain⟨n4,rfl,_⟩:=cq (hc 4 _ _ rfl rfl);exact⟨⟨g,n1,n2,n3,n4⟩,by simp only[aO,aB,b1,qE,fp],by simp only[pl,bX,b2,aj,dW (hc 0 _ _ rfl rfl),iF,pQ,PE],trivial⟩) h
 exact⟨l,h1,h2⟩
theorem Ez{e:PV}(h:VT true [.slice true [.slice false [.int .i64],.bool,.int .i64,.int .i64,.int .i64],.slice true [.int .i64,.int .i64,.int .i64,.int .i64,.int .i64,.slice false [.int .i64]],.int .i64,.int .i64,.int .i64,.int .i64] e):∃w:ay,aO e=aX w/\pl e=true/\w.used.ok:=by
 obtain⟨xs,rfl,hl,hc⟩:=mC h
 match xs,hl with
 |[x0,x1,x2,x3,x4,x5],_=>
  obtain⟨as,a1,a2⟩:=En (hc 0 _ _ rfl rfl);obtain⟨ms,b1,b2⟩:=Ia (hc 1 _ _ rfl rfl);obtain⟨n2,rfl,k2⟩:=cq (hc 2 _ _ rfl rfl);obtain⟨n3,rfl,k3⟩:=cq (hc 3 _ _ rfl rfl);obtain⟨n4,rfl,k4⟩:=cq (hc 4 _ _ rfl rfl);obtain⟨n5,rfl,k5⟩:=cq (hc 5 _ _ rfl rfl);exact⟨⟨as,ms,⟨n2,n3,n4,n5⟩⟩,by simp only[aO,aB,a1,b1,aX,aD],by simp only[pl,bX,a2,b2,aj,dW (hc 0 _ _ rfl rfl),dW (hc 1 _ _ rfl rfl),iF,PE],k2,k3,k4,k5⟩
theorem tP{x0 x1 x2 x3:PV}(h0:VT true [.slice true [.int .i64,.slice true [.int .i64,.int .i64]],.slice true [.slice false [.int .i64],.int .i64,.int .i64,.bool],.slice true [.int .i64,.int .i64,.slice false [.int .i64]],.int .i64] x0)(h1:VT true [.int .i64,.int .i64,.int .i64,.int .i64] x1)
  (h2:VT true [.slice true [.slice false [.int .i64],.bool,.int .i64,.int .i64,.int .i64],.slice true [.int .i64,.int .i64,.int .i64,.int .i64,.int .i64,.slice false [.int .i64]],.int .i64,.int .i64,.int .i64,.int .i64] x2)(h3:VT true [.int .i64,.int .i64,.int .i64,.int .i64,.int .i64] x3):∃n,bf cw n 200 [x0,x1,x2,x3] []=some (.bool true,[]):=by
 obtain⟨p,a1,a2⟩:=GP h0;obtain⟨b,b1,b2⟩:=Ek h1;obtain⟨w,c1,c2,c3⟩:=Ez h2;obtain⟨e,d1,d2⟩:=FP h3;refine Nf Kk (m:=17) (F:=bZ) (n:=4) rfl rfl (by simp only[bX,a2,b2,c2,d2];rfl) rfl ?_;have e4:aB [x0,x1,x2,x3]=[aJ p,aT b,aX w,ba e]:=by simp only[aB,a1,b1,c1,d1]
 rw[e4];exact xO (m:=5) (DE 0) p b w e
end Gv
