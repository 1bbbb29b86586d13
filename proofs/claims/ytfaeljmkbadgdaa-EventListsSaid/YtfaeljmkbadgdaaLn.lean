/- A part of the proof that the law is true of all its inputs, by an interpreter that is proved sound. -/
import Derived.Test.YtfaeljmkbadgdaaPa
import Derived.Test.YtfaeljmkbadgdaaEc
import Derived.OpenShut
import Derived.Test.YtfaeljmkbadgdaaNb
import Derived.Test.YtfaeljmkbadgdaaOc
import Derived.Test.YtfaeljmkbadgdaaOk
namespace Gv
open Go Go.ChangeShapes Go.WideShapes Go.RowKit
theorem VT.ct{c:sd}{x:PV}(h:VT false [c] x):CT c x:=h.at_ 0 _ x rfl (by rw[jP (h.one rfl)];rfl)
theorem ej{x:PV}(h:CT (.int .i64) x):∃n:Int,x=.int .i64 n/\su n:=by
 cases h with
 |int _ k hw=>
  obtain⟨a,b⟩:=bounds_i64 hw;exact⟨k,rfl,a,b⟩
theorem G5{x:PV}(h:CT .bool x):∃b:Bool,x=.bool b:=by cases h with|bool b=>exact⟨b,rfl⟩
theorem mg{α:Type}{f:α->PV}{P:α->Prop}{ag:Bool}{cs:List sd}(h:∀e,VT ag cs e->∃a,aM e=f a/\pl e=true/\P a){x:PV}(hx:CT (.slice ag cs) x):
  ∃l:List α,aM x=.lst (l.map f) false/\pl x=true/\(∀a∈l,P a)/\l.length<=maxLen:=by
 cases hx with
 |nils=>exact⟨[],rfl,rfl,by simp,by simp⟩
 | lst _ _ es c0 h0 hl h1 h2=>
  have key:∀es:List PV,(∀e∈es,VT ag cs e)->∃l:List α,az es=l.map f/\bV es=true/\(∀a∈l,P a)/\l.length=es.length:=by
   intro es;induction es with
   |nil=>intro _;exact⟨[],rfl,rfl,by simp,rfl⟩
   |cons e es ih=>
    intro he;obtain⟨a,a1,a2,a3⟩:=h e (he e (by simp));obtain⟨l,b1,b2,b3,b4⟩:=ih λy hy=>he y (by simp[hy]);refine⟨a::l,by simp only[az,N5,a1,b1],by simp only[bV,a2,b2,NZ],λy hy=>?_,by simp[b4]⟩;rcases List.mem_cons.1 hy with rfl|hy
    ·exact a3
    ·exact b3 y hy
  obtain⟨l,b1,b2,b3,b4⟩:=key es λe he=>by
   obtain⟨i,hi⟩:=List.getElem?_of_mem he;obtain⟨k1,k2,k3⟩:=h1 i e hi;exact⟨k1,k2,k3,λj c x hj hx=>h2 i e j c x hi hj hx⟩
  exact⟨l,by simp only[aM,b1],by simp only[pl,b2],b3,by omega⟩
theorem pO{cs:List sd}{e:PV}(h:VT true cs e):∃xs,e=.agg xs/\xs.length=cs.length/\∀(j:Nat)(c:sd)(x:PV),cs[j]?=some c->xs[j]?=some x->CT c x:=by
 obtain⟨xs,rfl⟩:=h.agg rfl;exact⟨xs,rfl,h.len,h.at_⟩
theorem iH{ag:Bool}{cs:List sd}{x:PV}(h:CT (.slice ag cs) x):x.isCell=true:=by cases h<;>rfl
theorem Bj{x:PV}(h:CT (.slice false [.int .i64]) x):∃l:List Int,aM x=eI l/\pl x=true/\∀y∈l,su y:=by
 obtain⟨l,h1,h2,h3,_⟩:=mg (f:=λn:Int=>PV.int .i64 n) (P:=su) (λe he=>by
  obtain⟨n,rfl,hn⟩:=ej he.ct;exact⟨n,rfl,rfl,hn⟩) h
 exact⟨l,h1,h2,h3⟩
theorem GD{x:PV}(h:CT (.slice true [.int .i64,.int .i64]) x):∃l:List SInstr,aM x=eD l/\pl x=true:=by
 obtain⟨l,h1,h2,_⟩:=mg (f:=jX) (P:=λ_=>True) (λe he=>by
  obtain⟨xs,rfl,hl,hc⟩:=pO he
  match xs,hl with
  |[x0,x1],_=>
   obtain⟨n0,rfl,_⟩:=ej (hc 0 _ _ rfl rfl);obtain⟨n1,rfl,_⟩:=ej (hc 1 _ _ rfl rfl);exact⟨⟨n0,n1⟩,rfl,rfl,trivial⟩) h
 exact⟨l,h1,h2⟩
theorem yA{x:PV}(h:CT (.slice true [.int .i64,.slice true [.int .i64,.int .i64]]) x):∃l:List SHandler,aM x=mD l/\pl x=true:=by
 obtain⟨l,h1,h2,_⟩:=mg (f:=cw) (P:=λ_=>True) (λe he=>by
  obtain⟨xs,rfl,hl,hc⟩:=pO he
  match xs,hl with
  |[x0,x1],_=>
   obtain⟨n0,rfl,_⟩:=ej (hc 0 _ _ rfl rfl);obtain⟨l1,b1,b2⟩:=GD (hc 1 _ _ rfl rfl);exact⟨⟨n0,l1⟩,by simp only[aM,az,b1,cw],by simp only[pl,bV,b2,ai,iH (hc 1 _ _ rfl rfl),l8,NZ],trivial⟩) h
 exact⟨l,h1,h2⟩
theorem Cn{x:PV}(h:CT (.slice true [.slice false [.int .i64],.int .i64,.int .i64,.bool]) x):∃l:List SActor,aM x=nn l/\pl x=true:=by
 obtain⟨l,h1,h2,_⟩:=mg (f:=gy) (P:=λ_=>True) (λe he=>by
  obtain⟨xs,rfl,hl,hc⟩:=pO he
  match xs,hl with
  |[x0,x1,x2,x3],_=>
   obtain⟨l0,b1,b2,_⟩:=Bj (hc 0 _ _ rfl rfl);obtain⟨n1,rfl,_⟩:=ej (hc 1 _ _ rfl rfl);obtain⟨n2,rfl,_⟩:=ej (hc 2 _ _ rfl rfl);obtain⟨n3,rfl⟩:=G5 (hc 3 _ _ rfl rfl);exact⟨⟨l0,n1,n2,n3⟩,by simp only[aM,az,b1,gy],by simp only[pl,bV,b2,ai,iH (hc 0 _ _ rfl rfl),l8,rc,NZ],trivial⟩) h
 exact⟨l,h1,h2⟩
theorem Ej{x:PV}(h:CT (.slice true [.int .i64,.int .i64,.slice false [.int .i64]]) x):∃l:List SNote,aM x=mi l/\pl x=true:=by
 obtain⟨l,h1,h2,_⟩:=mg (f:=jr) (P:=λ_=>True) (λe he=>by
  obtain⟨xs,rfl,hl,hc⟩:=pO he
  match xs,hl with
  |[x0,x1,x2],_=>
   obtain⟨n0,rfl,_⟩:=ej (hc 0 _ _ rfl rfl);obtain⟨n1,rfl,_⟩:=ej (hc 1 _ _ rfl rfl);obtain⟨l2,b1,b2,_⟩:=Bj (hc 2 _ _ rfl rfl);exact⟨⟨n0,n1,l2⟩,by simp only[aM,az,b1,jr],by simp only[pl,bV,b2,ai,iH (hc 2 _ _ rfl rfl),l8,NZ],trivial⟩) h
 exact⟨l,h1,h2⟩
theorem Gs{e:PV}(h:VT true [.slice true [.int .i64,.slice true [.int .i64,.int .i64]],.slice true [.slice false [.int .i64],.int .i64,.int .i64,.bool],.slice true [.int .i64,.int .i64,.slice false [.int .i64]],.int .i64] e):∃p:SProg,aM e=aJ p/\pl e=true:=by
 obtain⟨xs,rfl,hl,hc⟩:=pO h
 match xs,hl with
 |[x0,x1,x2,x3],_=>
  obtain⟨hs,a1,a2⟩:=yA (hc 0 _ _ rfl rfl);obtain⟨as,b1,b2⟩:=Cn (hc 1 _ _ rfl rfl);obtain⟨ns,c1,c2⟩:=Ej (hc 2 _ _ rfl rfl);obtain⟨n3,rfl,_⟩:=ej (hc 3 _ _ rfl rfl);exact⟨⟨hs,as,ns,n3⟩,by simp only[aM,az,a1,b1,c1,aJ,aB],by simp only[pl,bV,a2,b2,c2,ai,iH (hc 0 _ _ rfl rfl),iH (hc 1 _ _ rfl rfl),iH (hc 2 _ _ rfl rfl),l8,NZ]⟩
theorem CR{e:PV}(h:VT true [.int .i64,.int .i64,.int .i64,.int .i64] e):∃b:SBudget,aM e=bL b/\pl e=true:=by
 obtain⟨xs,rfl,hl,hc⟩:=pO h
 match xs,hl with
 |[x0,x1,x2,x3],_=>
  obtain⟨n0,rfl,_⟩:=ej (hc 0 _ _ rfl rfl);obtain⟨n1,rfl,_⟩:=ej (hc 1 _ _ rfl rfl);obtain⟨n2,rfl,_⟩:=ej (hc 2 _ _ rfl rfl);obtain⟨n3,rfl,_⟩:=ej (hc 3 _ _ rfl rfl);exact⟨⟨n0,n1,n2,n3⟩,rfl,rfl⟩
theorem DR{e:PV}(h:VT true [.int .i64,.int .i64,.int .i64,.int .i64,.int .i64] e):∃x:SEvent,aM e=bp x/\pl e=true:=by
 obtain⟨xs,rfl,hl,hc⟩:=pO h
 match xs,hl with
 |[x0,x1,x2,x3,x4],_=>
  obtain⟨n0,rfl,_⟩:=ej (hc 0 _ _ rfl rfl);obtain⟨n1,rfl,_⟩:=ej (hc 1 _ _ rfl rfl);obtain⟨n2,rfl,_⟩:=ej (hc 2 _ _ rfl rfl);obtain⟨n3,rfl,_⟩:=ej (hc 3 _ _ rfl rfl);obtain⟨n4,rfl,_⟩:=ej (hc 4 _ _ rfl rfl);exact⟨⟨n0,⟨n1,n2,n3⟩,n4⟩,rfl,rfl⟩
theorem CH{x:PV}(h:CT (.slice true [.int .i64,.int .i64,.int .i64,.int .i64,.int .i64]) x):∃l:List SEvent,aM x=aE l/\pl x=true:=by
 obtain⟨l,h1,h2,_⟩:=mg (f:=bp) (P:=λ_=>True) (λe he=>by
  obtain⟨x,a,b⟩:=DR he;exact⟨x,a,b,trivial⟩) h
 exact⟨l,h1,h2⟩
theorem sj{x0 x1 x2:PV}(h0:VT true [.slice true [.int .i64,.slice true [.int .i64,.int .i64]],.slice true [.slice false [.int .i64],.int .i64,.int .i64,.bool],.slice true [.int .i64,.int .i64,.slice false [.int .i64]],.int .i64] x0)(h1:VT true [.int .i64,.int .i64,.int .i64,.int .i64] x1)
  (h2:VT false [.slice true [.int .i64,.int .i64,.int .i64,.int .i64,.int .i64]] x2):∃n,aV cV n 111 [x0,x1,x2] []=some (.bool true,[]):=by
 obtain⟨p,a1,a2⟩:=Gs h0;obtain⟨b,b1,b2⟩:=CR h1;obtain⟨l,c1,c2⟩:=CH h2.ct;refine JW II (m:=17) (F:=bF) (n:=3) rfl rfl (by simp only[bV,a2,b2,c2];rfl) rfl ?_;have e4:az [x0,x1,x2]=[aJ p,bL b,aE l]:=by simp only[az,a1,b1,c1]
 rw[e4];exact xj (m:=5) (FX 0) p b l
end Gv
