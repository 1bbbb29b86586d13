/- A part of the proof that the law is true of all its inputs, by an interpreter that is proved sound. -/
import Derived.Test.YtfaeljmkbadgdaaGreatPa
import Derived.Test.YtfaeljmkbadgdaaGreatEc
import Derived.OpenShut
import Derived.Test.YtfaeljmkbadgdaaGreatNb
import Derived.Test.YtfaeljmkbadgdaaGreatOc
import Derived.Test.YtfaeljmkbadgdaaGreatOk
namespace Gv
open Go Go.ChangeShapes Go.WideShapes Go.RowKit
theorem VT.ct{c:vR}{x:PV}(h:VT false [c] x):CT c x:=h.at_ 0 _ x rfl (by rw[lU (h.one rfl)];rfl)
theorem cO{x:PV}(h:CT (.int .i64) x):∃n:Int,x=.int .i64 n/\wD n:=by
 cases h with
 |int _ k hw=>
  obtain⟨a,b⟩:=bounds_i64 hw;exact⟨k,rfl,a,b⟩
theorem Fu{x:PV}(h:CT .bool x):∃b:Bool,x=.bool b:=by cases h with|bool b=>exact⟨b,rfl⟩
theorem mc{α:Type}{f:α->PV}{P:α->Prop}{ag:Bool}{cs:List vR}(h:∀e,VT ag cs e->∃a,aP e=f a/\pl e=true/\P a){x:PV}(hx:CT (.slice ag cs) x):
  ∃l:List α,aP x=.lst (l.map f) false/\pl x=true/\(∀a∈l,P a)/\l.length<=maxLen:=by
 cases hx with
 |nils=>exact⟨[],rfl,rfl,by simp,by simp⟩
 | lst _ _ es c0 h0 hl h1 h2=>
  have key:∀es:List PV,(∀e∈es,VT ag cs e)->∃l:List α,aF es=l.map f/\cg es=true/\(∀a∈l,P a)/\l.length=es.length:=by
   intro es;induction es with
   |nil=>intro _;exact⟨[],rfl,rfl,by simp,rfl⟩
   |cons e es ih=>
    intro he;obtain⟨a,a1,a2,a3⟩:=h e (he e (by simp));obtain⟨l,b1,b2,b3,b4⟩:=ih λy hy=>he y (by simp[hy]);refine⟨a::l,by simp only[aF,TW,a1,b1],by simp only[cg,a2,b2,Ub],λy hy=>?_,by simp[b4]⟩;rcases List.mem_cons.1 hy with rfl|hy
    ·exact a3
    ·exact b3 y hy
  obtain⟨l,b1,b2,b3,b4⟩:=key es λe he=>by
   obtain⟨i,hi⟩:=UP he;obtain⟨k1,k2,k3⟩:=h1 i e hi;exact⟨k1,k2,k3,λj c x hj hx=>h2 i e j c x hi hj hx⟩
  exact⟨l,by simp only[aP,b1],by simp only[pl,b2],b3,by omega⟩
theorem nM{cs:List vR}{e:PV}(h:VT true cs e):∃xs,e=.agg xs/\xs.length=cs.length/\∀(j:Nat)(c:vR)(x:PV),cs[j]?=some c->xs[j]?=some x->CT c x:=by
 obtain⟨xs,rfl⟩:=h.agg rfl;exact⟨xs,rfl,h.len,h.at_⟩
theorem eC{ag:Bool}{cs:List vR}{x:PV}(h:CT (.slice ag cs) x):x.isCell=true:=by cases h<;>rfl
theorem wI{x:PV}(h:CT (.slice false [.int .i64]) x):∃l:List Int,aP x=eI l/\pl x=true/\∀y∈l,wD y:=by
 obtain⟨l,h1,h2,h3,_⟩:=mc (f:=λn:Int=>PV.int .i64 n) (P:=wD) (λe he=>by
  obtain⟨n,rfl,hn⟩:=cO he.ct;exact⟨n,rfl,rfl,hn⟩) h
 exact⟨l,h1,h2,h3⟩
theorem J8{x:PV}(h:CT (.slice true [.int .i64,.int .i64]) x):∃l:List SInstr,aP x=cw l/\pl x=true:=by
 obtain⟨l,h1,h2,_⟩:=mc (f:=eA) (P:=λ_=>True) (λe he=>by
  obtain⟨xs,rfl,hl,hc⟩:=nM he
  match xs,hl with
  |[x0,x1],_=>
   obtain⟨n0,rfl,_⟩:=cO (hc 0 _ _ rfl rfl);obtain⟨n1,rfl,_⟩:=cO (hc 1 _ _ rfl rfl);exact⟨⟨n0,n1⟩,rfl,rfl,trivial⟩) h
 exact⟨l,h1,h2⟩
theorem CN{x:PV}(h:CT (.slice true [.int .i64,.slice true [.int .i64,.int .i64]]) x):∃l:List SHandler,aP x=iw l/\pl x=true:=by
 obtain⟨l,h1,h2,_⟩:=mc (f:=dh) (P:=λ_=>True) (λe he=>by
  obtain⟨xs,rfl,hl,hc⟩:=nM he
  match xs,hl with
  |[x0,x1],_=>
   obtain⟨n0,rfl,_⟩:=cO (hc 0 _ _ rfl rfl);obtain⟨l1,b1,b2⟩:=J8 (hc 1 _ _ rfl rfl);exact⟨⟨n0,l1⟩,by simp only[aP,aF,b1,dh],by simp only[pl,cg,b2,ak,eC (hc 1 _ _ rfl rfl),jv,Ub],trivial⟩) h
 exact⟨l,h1,h2⟩
theorem Hz{x:PV}(h:CT (.slice true [.slice false [.int .i64],.int .i64,.int .i64,.bool]) x):∃l:List SActor,aP x=i4 l/\pl x=true:=by
 obtain⟨l,h1,h2,_⟩:=mc (f:=jt) (P:=λ_=>True) (λe he=>by
  obtain⟨xs,rfl,hl,hc⟩:=nM he
  match xs,hl with
  |[x0,x1,x2,x3],_=>
   obtain⟨l0,b1,b2,_⟩:=wI (hc 0 _ _ rfl rfl);obtain⟨n1,rfl,_⟩:=cO (hc 1 _ _ rfl rfl);obtain⟨n2,rfl,_⟩:=cO (hc 2 _ _ rfl rfl);obtain⟨n3,rfl⟩:=Fu (hc 3 _ _ rfl rfl);exact⟨⟨l0,n1,n2,n3⟩,by simp only[aP,aF,b1,jt],by simp only[pl,cg,b2,ak,eC (hc 0 _ _ rfl rfl),jv,rl,Ub],trivial⟩) h
 exact⟨l,h1,h2⟩
theorem HO{x:PV}(h:CT (.slice true [.int .i64,.int .i64,.slice false [.int .i64]]) x):∃l:List SNote,aP x=dS l/\pl x=true:=by
 obtain⟨l,h1,h2,_⟩:=mc (f:=eK) (P:=λ_=>True) (λe he=>by
  obtain⟨xs,rfl,hl,hc⟩:=nM he
  match xs,hl with
  |[x0,x1,x2],_=>
   obtain⟨n0,rfl,_⟩:=cO (hc 0 _ _ rfl rfl);obtain⟨n1,rfl,_⟩:=cO (hc 1 _ _ rfl rfl);obtain⟨l2,b1,b2,_⟩:=wI (hc 2 _ _ rfl rfl);exact⟨⟨n0,n1,l2⟩,by simp only[aP,aF,b1,eK],by simp only[pl,cg,b2,ak,eC (hc 2 _ _ rfl rfl),jv,Ub],trivial⟩) h
 exact⟨l,h1,h2⟩
theorem KW{e:PV}(h:VT true [.slice true [.int .i64,.slice true [.int .i64,.int .i64]],.slice true [.slice false [.int .i64],.int .i64,.int .i64,.bool],.slice true [.int .i64,.int .i64,.slice false [.int .i64]],.int .i64] e):∃p:SProg,aP e=aA p/\pl e=true:=by
 obtain⟨xs,rfl,hl,hc⟩:=nM h
 match xs,hl with
 |[x0,x1,x2,x3],_=>
  obtain⟨hs,a1,a2⟩:=CN (hc 0 _ _ rfl rfl);obtain⟨as,b1,b2⟩:=Hz (hc 1 _ _ rfl rfl);obtain⟨ns,c1,c2⟩:=HO (hc 2 _ _ rfl rfl);obtain⟨n3,rfl,_⟩:=cO (hc 3 _ _ rfl rfl);exact⟨⟨hs,as,ns,n3⟩,by simp only[aP,aF,a1,b1,c1,aA,ao],by simp only[pl,cg,a2,b2,c2,ak,eC (hc 0 _ _ rfl rfl),eC (hc 1 _ _ rfl rfl),eC (hc 2 _ _ rfl rfl),jv,Ub]⟩
theorem Hn{e:PV}(h:VT true [.int .i64,.int .i64,.int .i64,.int .i64] e):∃b:SBudget,aP e=bq b/\pl e=true:=by
 obtain⟨xs,rfl,hl,hc⟩:=nM h
 match xs,hl with
 |[x0,x1,x2,x3],_=>
  obtain⟨n0,rfl,_⟩:=cO (hc 0 _ _ rfl rfl);obtain⟨n1,rfl,_⟩:=cO (hc 1 _ _ rfl rfl);obtain⟨n2,rfl,_⟩:=cO (hc 2 _ _ rfl rfl);obtain⟨n3,rfl,_⟩:=cO (hc 3 _ _ rfl rfl);exact⟨⟨n0,n1,n2,n3⟩,rfl,rfl⟩
theorem Ij{e:PV}(h:VT true [.int .i64,.int .i64,.int .i64,.int .i64,.int .i64] e):∃x:SEvent,aP e=bD x/\pl e=true:=by
 obtain⟨xs,rfl,hl,hc⟩:=nM h
 match xs,hl with
 |[x0,x1,x2,x3,x4],_=>
  obtain⟨n0,rfl,_⟩:=cO (hc 0 _ _ rfl rfl);obtain⟨n1,rfl,_⟩:=cO (hc 1 _ _ rfl rfl);obtain⟨n2,rfl,_⟩:=cO (hc 2 _ _ rfl rfl);obtain⟨n3,rfl,_⟩:=cO (hc 3 _ _ rfl rfl);obtain⟨n4,rfl,_⟩:=cO (hc 4 _ _ rfl rfl);exact⟨⟨n0,⟨n1,n2,n3⟩,n4⟩,rfl,rfl⟩
theorem K7{x:PV}(h:CT (.slice true [.int .i64,.int .i64,.int .i64,.int .i64,.int .i64,.slice false [.int .i64]]) x):∃l:List aV,aP x=aJ l/\pl x=true:=by
 obtain⟨l,h1,h2,_⟩:=mc (f:=dk) (P:=λ_=>True) (λe he=>by
  obtain⟨xs,rfl,hl,hc⟩:=nM he
  match xs,hl with
  |[x0,x1,x2,x3,x4,x5],_=>
   obtain⟨n0,rfl,_⟩:=cO (hc 0 _ _ rfl rfl);obtain⟨n1,rfl,_⟩:=cO (hc 1 _ _ rfl rfl);obtain⟨n2,rfl,_⟩:=cO (hc 2 _ _ rfl rfl);obtain⟨n3,rfl,_⟩:=cO (hc 3 _ _ rfl rfl);obtain⟨n4,rfl,_⟩:=cO (hc 4 _ _ rfl rfl);obtain⟨g,b1,b2,_⟩:=wI (hc 5 _ _ rfl rfl);exact⟨⟨⟨n0,n1,n2⟩,⟨n3,n4,g⟩⟩,by simp only[aP,aF,b1,dk,co],by simp only[pl,cg,b2,ak,eC (hc 5 _ _ rfl rfl),jv,Ub],trivial⟩) h
 exact⟨l,h1,h2⟩
theorem Gl{x:PV}(h:CT (.slice true [.slice false [.int .i64],.bool,.int .i64,.int .i64,.int .i64]) x):∃l:List aT,aP x=aW l/\pl x=true:=by
 obtain⟨l,h1,h2,_⟩:=mc (f:=bl) (P:=λ_=>True) (λe he=>by
  obtain⟨xs,rfl,hl,hc⟩:=nM he
  match xs,hl with
  |[x0,x1,x2,x3,x4],_=>
   obtain⟨g,b1,b2,_⟩:=wI (hc 0 _ _ rfl rfl);obtain⟨n1,rfl⟩:=Fu (hc 1 _ _ rfl rfl);obtain⟨n2,rfl,_⟩:=cO (hc 2 _ _ rfl rfl);obtain⟨n3,rfl,_⟩:=cO (hc 3 _ _ rfl rfl);obtain⟨n4,rfl,_⟩:=cO (hc 4 _ _ rfl rfl);exact⟨⟨g,n1,n2,n3,n4⟩,by simp only[aP,aF,b1,bl,br],by simp only[pl,cg,b2,ak,eC (hc 0 _ _ rfl rfl),jv,rl,Ub],trivial⟩) h
 exact⟨l,h1,h2⟩
theorem JL{e:PV}(h:VT true [.slice true [.slice false [.int .i64],.bool,.int .i64,.int .i64,.int .i64],.slice true [.int .i64,.int .i64,.int .i64,.int .i64,.int .i64,.slice false [.int .i64]],.int .i64,.int .i64,.int .i64,.int .i64] e):∃w:aq,aP e=aE w/\pl e=true/\w.used.ok:=by
 obtain⟨xs,rfl,hl,hc⟩:=nM h
 match xs,hl with
 |[x0,x1,x2,x3,x4,x5],_=>
  obtain⟨as,a1,a2⟩:=Gl (hc 0 _ _ rfl rfl);obtain⟨ms,b1,b2⟩:=K7 (hc 1 _ _ rfl rfl);obtain⟨n2,rfl,k2⟩:=cO (hc 2 _ _ rfl rfl);obtain⟨n3,rfl,k3⟩:=cO (hc 3 _ _ rfl rfl);obtain⟨n4,rfl,k4⟩:=cO (hc 4 _ _ rfl rfl);obtain⟨n5,rfl,k5⟩:=cO (hc 5 _ _ rfl rfl);exact⟨⟨as,ms,⟨n2,n3,n4,n5⟩⟩,by simp only[aP,aF,a1,b1,aE,ay],by simp only[pl,cg,a2,b2,ak,eC (hc 0 _ _ rfl rfl),eC (hc 1 _ _ rfl rfl),jv,Ub],k2,k3,k4,k5⟩
theorem xS{x0 x1 x2 x3:PV}(h0:VT true [.slice true [.int .i64,.slice true [.int .i64,.int .i64]],.slice true [.slice false [.int .i64],.int .i64,.int .i64,.bool],.slice true [.int .i64,.int .i64,.slice false [.int .i64]],.int .i64] x0)(h1:VT true [.int .i64,.int .i64,.int .i64,.int .i64] x1)
  (h2:VT true [.slice true [.slice false [.int .i64],.bool,.int .i64,.int .i64,.int .i64],.slice true [.int .i64,.int .i64,.int .i64,.int .i64,.int .i64,.slice false [.int .i64]],.int .i64,.int .i64,.int .i64,.int .i64] x2)(h3:VT true [.int .i64,.int .i64,.int .i64,.int .i64,.int .i64] x3):∃n,bi cA n 198 [x0,x1,x2,x3] []=some (.bool true,[]):=by
 obtain⟨p,a1,a2⟩:=KW h0;obtain⟨b,b1,b2⟩:=Hn h1;obtain⟨w,c1,c2,c3⟩:=JL h2;obtain⟨e,d1,d2⟩:=Ij h3;refine O7 N4 (m:=17) (F:=cB) (n:=4) rfl rfl (by simp only[cg,a2,b2,c2,d2];rfl) rfl ?_;have e4:aF [x0,x1,x2,x3]=[aA p,bq b,aE w,bD e]:=by simp only[aF,a1,b1,c1,d1]
 rw[e4];exact zd (m:=5) (G8 0) p b w ⟨c3.1.2,c3.2.1.2,c3.2.2.1.2,c3.2.2.2.2⟩ e
end Gv
