/- A part of the proof that the law is true of all its inputs, by an interpreter that is proved sound. -/
import Derived.Test.YtfaeljmkbadgdaaGreatEb
import Derived.DataReads
import Derived.ChangeArms
import Derived.WideShapes
namespace Gv
open Go
theorem HM.runT_run{α:Type}:∀{m:HM α}{h:Heap}{a:α}{h':Heap}{R W:List aq},m.runT h=some (a,h',R,W)->m.run h=some (a,h'):=by
 intro m;induction m with
 |ret a=>intro h b h' R W x;simp only[HM.runT,O5,Pq]at x;simp[HM.run,x.1,x.2.1]
 |fail=>intro h b h' R W x;simp[HM.runT]at x
 | get r k ih=>
  intro h b h' R W x;simp only[HM.runT]at x;simp only[HM.run];cases hg:h.get r with
  |none=>rw[hg]at x;cases x
  | some e=>
   rw[hg]at x;simp only at x⊢;cases hk:(k e).runT h with
   |none=>rw[hk]at x;cases x
   |some p=>
    obtain⟨a1,h1,R1,W1⟩:=p;rw[hk]at x;simp only[O5,Pq]at x;rw[ih e hk,x.1,x.2.1]
 | set r e k ih=>
  intro h b h' R W x;simp only[HM.runT]at x;simp only[HM.run];cases hg:h.get r with
  |none=>rw[hg]at x;cases x
  | some e0=>
   rw[hg]at x;simp only at x⊢;cases hk:k.runT (h.put r e)with
   |none=>rw[hk]at x;cases x
   |some p=>
    obtain⟨a1,h1,R1,W1⟩:=p;rw[hk]at x;simp only[O5,Pq]at x;rw[ih hk,x.1,x.2.1]
theorem Heap.put_lens(h:Heap)(r:aq)(e:fg):(h.put r e).A.length=h.A.length/\(h.put r e).L.length=h.L.length:=by cases r<;>simp[Heap.put]
def Cu(g h:Heap)(l:List aq):Prop:=∀r∈l,g.get r=h.get r
theorem Heap.put_alike{g h:Heap}{r:aq}{e e0:fg}{l:List aq}(ha:Cu g h l)(hr:r∈l)(hh:h.get r=some e0):Cu (g.put r e) (h.put r e) l:=by
 intro q hq;by_cases hqr:q=r
 ·subst hqr;have hg:g.get q=some e0:=by rw[ha q hq];exact hh
  cases q with
  | a i=>
   simp only[Heap.get,Heap.put]at*;cases h1:h.A[i]? with
   |none=>rw[h1]at hh;cases hh
   |some b1=>
    cases h2:g.A[i]? with
    |none=>rw[h2]at hg;cases hg
    |some b2=>rw[P5 (getElem?_lt h1),P5 (getElem?_lt h2)]
  |l s=>
   simp only[Heap.get,Heap.put]at*;rw[P5 (getElem?_lt hh),P5 (getElem?_lt hg)]
  |dead=>simp[Heap.get]at hh
 ·rw[Heap.get_put_other hqr,Heap.get_put_other hqr];exact ha q hq
theorem HM.runT_frame{α:Type}:∀{m:HM α}{h:Heap}{a:α}{h':Heap}{R W:List aq},m.runT h=some (a,h',R,W)->
  (∀r,r∉W->h'.get r=h.get r)/\(h'.A.length=h.A.length/\h'.L.length=h.L.length)/\
  ∀g l,Cu g h l->(∀r∈R,r∈l)->(∀r∈W,r∈l)->∃g',m.runT g=some (a,g',R,W)/\Cu g' h' l:=by
 intro m;induction m with
 |ret a=>
  intro h b h' R W x;simp only[HM.runT,O5,Pq]at x;obtain⟨rfl,rfl,rfl,rfl⟩:=x;exact⟨λ_ _=>rfl,⟨rfl,rfl⟩,λg l ha _ _=>⟨g,rfl,ha⟩⟩
 |fail=>intro h b h' R W x;simp[HM.runT]at x
 | get r k ih=>
  intro h b h' R W x;simp only[HM.runT]at x;cases hg:h.get r with
  |none=>rw[hg]at x;cases x
  | some e=>
   rw[hg]at x;simp only at x;cases hk:(k e).runT h with
   |none=>rw[hk]at x;cases x
   |some p=>
    obtain⟨a1,h1,R1,W1⟩:=p;rw[hk]at x;simp only[O5,Pq]at x;obtain⟨rfl,rfl,rfl,rfl⟩:=x;obtain⟨i1,i2,i3⟩:=ih e hk;refine⟨i1,i2,λg l ha hR hW=>?_⟩;obtain⟨g',j1,j2⟩:=i3 g l ha (λq hq=>hR q (Pe _ hq)) hW;refine⟨g',?_,j2⟩;simp only[HM.runT];rw[ha r (hR r (Pj ..)),hg];simp only;rw[j1]
 | set r e k ih=>
  intro h b h' R W x;simp only[HM.runT]at x;cases hg:h.get r with
  |none=>rw[hg]at x;cases x
  | some e0=>
   rw[hg]at x;simp only at x;cases hk:k.runT (h.put r e)with
   |none=>rw[hk]at x;cases x
   | some p=>
    obtain⟨a1,h1,R1,W1⟩:=p;rw[hk]at x;simp only[O5,Pq]at x;obtain⟨rfl,rfl,rfl,rfl⟩:=x;obtain⟨i1,i2,i3⟩:=ih hk;obtain⟨p1,p2⟩:=Heap.put_lens h r e;refine⟨λq hq=>?_,⟨by rw[i2.1,p1],by rw[i2.2,p2]⟩,λg l ha hR hW=>?_⟩
    ·rw[i1 q (λhm=>hq (Pe _ hm)),Heap.get_put_other (λe=>hq (by rw[e];exact Pj ..))]
    ·have hrl:=hW r (Pj ..);obtain⟨g',j1,j2⟩:=i3 (g.put r e) l (Heap.put_alike ha hrl hg) hR (λq hq=>hW q (Pe _ hq));refine⟨g',?_,j2⟩;simp only[HM.runT];rw[ha r hrl,hg];simp only;rw[j1]
theorem Heap.ext_of{g h:Heap}(ha:∀r,g.get r=h.get r)(h1:g.A.length=h.A.length)(h2:g.L.length=h.L.length):g=h:=by
 cases g with|mk gA gL=>cases h with|mk hA hL=>
 congr 1
 ·apply List.ext_getElem?;intro i;have:=ha (.a i);simp only[Heap.get]at this;cases e1:gA[i]?<;>cases e2:hA[i]?<;>rw[e1,e2]at this<;>simp_all
 ·apply List.ext_getElem?;intro i;exact ha (.l i)
theorem HM.runT_comm{α β:Type}{m:HM α}{n:HM β}{h h1 h2:Heap}{a:α}{b:β}{R1 W1 R2 W2:List aq}(x:m.runT h=some (a,h1,R1,W1))(y:n.runT h1=some (b,h2,R2,W2))(hap:lw R1 W1 R2 W2=true):
  ∃g,n.runT h=some (b,g,R2,W2)/\m.runT g=some (a,h2,R1,W1):=by
 unfold lw at hap;simp only[O6,P4,PC,PW,PD]at hap;obtain⟨hw1,hw2⟩:=hap;obtain⟨x1,x2,x3⟩:=HM.runT_frame x;obtain⟨y1,y2,y3⟩:=HM.runT_frame y;obtain⟨g,g1,g2⟩:=y3 h (R2++W2) (λr hr=>by
  rw[x1 r];intro hm;obtain⟨z1,z2⟩:=hw1 r hm;rcases List.mem_append.1 hr with z|z
  ·exact z1 z
  ·exact z2 z) (λr hr=>Pc _ hr) (λr hr=>O8 _ hr)
 obtain⟨f1,f2,f3⟩:=HM.runT_frame g1;obtain⟨k,k1,k2⟩:=x3 g (R1++W1) (λr hr=>by
  rw[f1 r];intro hm;rcases List.mem_append.1 hr with z|z
  ·exact hw2 r hm z
  ·exact(hw1 r z).2 hm) (λr hr=>Pc _ hr) (λr hr=>O8 _ hr)
 obtain⟨l1,l2,l3⟩:=HM.runT_frame k1;have:k=h2:=by
  refine Heap.ext_of (λr=>?_) ?_ ?_
  ·by_cases r1:r∈W1
   ·rw[k2 r (O8 _ r1),y1 r (λhm=>(hw1 r r1).2 hm)]
   ·rw[l1 r r1];by_cases r2:r∈W2
    ·rw[g2 r (O8 _ r2)]
    ·rw[f1 r r2,y1 r r2,x1 r r1]
  ·rw[l2.1,f2.1,y2.1,x2.1]
  ·rw[l2.2,f2.2,y2.2,x2.2]
 subst this;exact⟨g,g1,k1⟩
def PO.ts:PO->List Nat
 |.t n=>[n]
 |.c _=>[]
def IV:List PO->List Nat
 |[]=>[]
 |x::xs=>x.ts++IV xs
def KC:Option PO->List Nat
 |none=>[]
 |some x=>x.ts
def Ot:List (Nat×Option Nat×PO)->List Nat
 |[]=>[]
 |(_,_,x)::ps=>x.ts++Ot ps
def IOp.ts:IOp->List Nat
 |.mov x=>x.ts
 |.pick c a b=>c.ts++a.ts++b.ts
 |.box _ x _=>x.ts
 |.boxA _ _ _=>[]
 |.build _ ps=>Ot ps
 |.buildSlice _ xs _=>IV xs
 |.load _ x=>x.ts
 |.store _ x y=>x.ts++y.ts
 |.storeA _ x y=>x.ts++y.ts
 |.nilchk x=>x.ts
 |.bin _ x y=>x.ts++y.ts
 |.eqs _ _ x y=>x.ts++y.ts
 |.eqb _ x y=>x.ts++y.ts
 |.eqn _ _ x y=>x.ts++y.ts
 |.un _ x=>x.ts
 |.toInt _ x=>x.ts
 |.b2s x=>x.ts
 |.s2b x _=>x.ts
 |.slice _ x lo hi mx=>x.ts++KC lo++KC hi++KC mx
 |.fieldAddr x _=>x.ts
 |.field _ x _=>x.ts
 |.indexAddr _ x i=>x.ts++i.ts
 |.idxArr _ _ x i=>x.ts++i.ts
 |.idxArrB _ _ x i=>x.ts++i.ts
 |.sliceArr _ _ x lo hi=>x.ts++KC lo++KC hi
 |.extract x _=>x.ts
 |.mkfn _ cs=>IV cs
 |.mkslice _ _ n _=>n.ts
 |.call _ xs _=>IV xs
 |.callv g xs _=>g.ts++IV xs
 |.append _ x y _=>x.ts++y.ts
 |.copy _ x y=>x.ts++y.ts
 |.clear _ x=>x.ts
 |.len x=>x.ts
 |.lenS x=>x.ts
 |.mm _ xs=>IV xs
 |.same x=>x.ts
 |.callD _ xs _ _=>IV xs
 |.sidx x i=>x.ts++i.ts
 |.bad=>[]
def Same(fr fr':List PV)(l:List Nat):Prop:=∀t∈l,lG fr t=lG fr' t
theorem Same.left{fr fr':List PV}{l m:List Nat}(h:Same fr fr' (l++m)):Same fr fr' l:=λt ht=>h t (Pc _ ht)
theorem Same.right{fr fr':List PV}{l m:List Nat}(h:Same fr fr' (l++m)):Same fr fr' m:=λt ht=>h t (O8 _ ht)
theorem fP{fr fr':List PV}:∀{x:PO},Same fr fr' x.ts->PO.ev fr x=PO.ev fr' x
 |.t n,h=>h n (List.mem_singleton.2 rfl)
 |.c _v,_=>rfl
theorem wg{fr fr':List PV}:∀{xs:List PO},Same fr fr' (IV xs)->kQ (PO.ev fr) xs=kQ (PO.ev fr') xs
 |[],_=>rfl
 |x::xs,h=>by simp only[kQ];rw[fP h.left,wg h.right]
theorem oC{fr fr':List PV}:∀{x:Option PO},Same fr fr' (KC x)->uC (PO.ev fr) x=uC (PO.ev fr') x
 |none,_=>rfl
 |some x,h=>by simp only[uC];rw[fP h]
theorem Aw{fr fr':List PV}:∀{ps:List (Nat×Option Nat×PO)},Same fr fr' (Ot ps)->mj (PO.ev fr) ps=mj (PO.ev fr') ps
 |[],_=>rfl
 |(_,_,x)::ps,h=>by simp only[mj];rw[fP h.left,Aw h.right]
theorem kV{RO:Nat->List Bool}{C:cG}{fr fr':List PV}{op:IOp}(h:Same fr fr' op.ts):iQ RO C (PO.ev fr) op=iQ RO C (PO.ev fr') op:=by
 cases op<;>simp only[IOp.ts]at h<;>simp only[iQ]
 all_goals first
  |rfl
  |rw[fP h]
  |rw[wg h]
  |rw[Aw h]
  |rw[fP h.left,fP h.right]
  |rw[fP h.left,wg h.right]
  |rw[fP h.left.left,fP h.left.right,fP h.right]
  |rw[fP h.left.left,oC h.left.right,oC h.right]
  |rw[fP h.left.left.left,oC h.left.left.right,oC h.left.right,oC h.right]
def IOper.uses(o:IOper):List Nat:=(match o.guard with|some (t,_)=>[t]|none=>[])++o.op.ts
def zt(o p:IOper):Bool:=
 (match o.dst with|some d=> !p.uses.contains d&&(p.dst !=some d)|none=>true)&&(match p.dst with|some d=> !o.uses.contains d|none=>true)
theorem nO{fr:List PV}{dst:Option Nat}{v:PV}{t:Nat}(h:dst≠some t):lG (aG fr dst v) t=lG fr t:=by
 cases dst with
 |none=>rfl
 |some d=>
  simp only[aG,pm];rw[Pd (λe=>h (by rw[e.1]))]
theorem AA:∀(l:List PV)(d e:Nat)(v u:PV),d≠e->upd (upd l d v) e u=upd (upd l e u) d v
 |[],d,e,v,u,_=>by cases d<;>cases e<;>rfl
 |x::xs,0,0,v,u,h=>absurd rfl h
 |x::xs,0,e+1,v,u,_=>by simp[upd]
 |x::xs,d+1,0,v,u,_=>by simp[upd]
 |x::xs,d+1,e+1,v,u,h=>by simp only[upd];rw[AA xs d e v u (λz=>h (by rw[z]))]
theorem sR{fr:List PV}{d e:Option Nat}{v u:PV}(h:∀t,d=some t->e≠some t):aG (aG fr d v) e u=aG (aG fr e u) d v:=by
 cases d with
 |none=>rfl
 |some d=>cases e with
  |none=>rfl
  |some e=>exact AA _ _ _ _ _ (λz=>h d rfl (by rw[z]))
theorem bL{fr fr':List PV}{o:IOper}(h:Same fr fr' o.uses):wanted fr o.guard=wanted fr' o.guard:=by
 unfold IOper.uses at h;cases hg:o.guard with
 |none=>rfl
 |some p=>
  obtain⟨t,b⟩:=p;rw[hg]at h;simp only[wanted];rw[h t (by simp)]
theorem Bd{RO:Nat->List Bool}{C:cG}{o p:IOper}{σ σ1 σ2:St}{R1 W1 R2 W2:List aq}(hd:zt o p=true)(x:bu RO C o σ=some (σ1,R1,W1))(y:bu RO C p σ1=some (σ2,R2,W2))
  (hap:lw R1 W1 R2 W2=true):∃τ,bu RO C p σ=some (τ,R2,W2)/\bu RO C o τ=some (σ2,R1,W1):=by
 have hop:∀t,o.dst=some t->t∉p.uses/\p.dst≠some t:=by
  intro t ht;unfold zt at hd;rw[ht]at hd;simp only[O6,PC,bne_iff_ne,PW,PD]at hd;exact hd.1
 have hpo:∀t,p.dst=some t->t∉o.uses:=by
  intro t ht;unfold zt at hd;rw[ht]at hd;simp only[O6,PC,PW,PD]at hd;exact hd.2
 have sp:∀(fr:List PV) v,Same (aG fr o.dst v) fr p.uses:=λfr v t ht=>nO (λe=>(hop t e).1 ht);have so:∀(fr:List PV) v,Same (aG fr p.dst v) fr o.uses:=λfr v t ht=>nO (λe=>hpo t e ht);have cm:∀(fr:List PV) v u,aG (aG fr o.dst v) p.dst u=aG (aG fr p.dst u) o.dst v:=λfr v u=>sR (λt e=>(hop t e).2);have shape:∀{q:IOper}{τ τ':St}{R W:List aq},bu RO C q τ=some (τ',R,W)->
   (wanted τ.fr q.guard=some true/\∃v h,(iQ RO C (PO.ev τ.fr) q.op).runT τ.h=some (v,h,R,W)/\τ'=⟨aG τ.fr q.dst v,h⟩)∨
   (wanted τ.fr q.guard=some false/\R=[]/\W=[]/\τ'=⟨aG τ.fr q.dst (.tup []),τ.h⟩):=by
  intro q τ τ' R W hh;unfold bu at hh;split at hh
  ·rename_i hw;split at hh
   ·rename_i v h' R' W' hr;simp only[O5,Pq]at hh;obtain⟨rfl,rfl,rfl⟩:=hh;exact .inl ⟨hw,v,h',hr,rfl⟩
   ·cases hh
  ·rename_i hw;simp only[O5,Pq]at hh;obtain⟨rfl,rfl,rfl⟩:=hh;exact .inr ⟨hw,rfl,rfl,rfl⟩
  ·cases hh
 have stT:∀{q:IOper}{τ:St}{v:PV}{h:Heap}{R W:List aq},wanted τ.fr q.guard=some true->(iQ RO C (PO.ev τ.fr) q.op).runT τ.h=some (v,h,R,W)->bu RO C q τ=some (⟨aG τ.fr q.dst v,h⟩,R,W):=by
  intro q τ v h R W h1 h2;unfold bu;rw[h1];simp only;rw[h2]
 have stF:∀{q:IOper}{τ:St},wanted τ.fr q.guard=some false->bu RO C q τ=some (⟨aG τ.fr q.dst (.tup []),τ.h⟩,[],[]):=by
  intro q τ h1;unfold bu;rw[h1]
 rcases shape x with⟨w1,v1,h1,r1,rfl⟩|⟨w1,rfl,rfl,rfl⟩
 ·rcases shape y with⟨w2,v2,h2,r2,rfl⟩|⟨w2,rfl,rfl,rfl⟩
  ·simp only at w2 r2;rw[bL (sp _ _)]at w2;rw[kV (Same.right (sp σ.fr v1))]at r2;obtain⟨g,g1,g2⟩:=HM.runT_comm r1 r2 hap;refine⟨⟨aG σ.fr p.dst v2,g⟩,stT w2 g1,?_⟩;rw[cm];exact stT (by rw[bL (so _ _)];exact w1) (by simp only;rw[kV (Same.right (so σ.fr v2))];exact g2)
  ·simp only at w2;rw[bL (sp _ _)]at w2;refine⟨⟨aG σ.fr p.dst (.tup []),σ.h⟩,stF w2,?_⟩;rw[cm];exact stT (by rw[bL (so _ _)];exact w1) (by simp only;rw[kV (Same.right (so σ.fr _))];exact r1)
 ·rcases shape y with⟨w2,v2,h2,r2,rfl⟩|⟨w2,rfl,rfl,rfl⟩
  ·simp only at w2 r2;rw[bL (sp _ _)]at w2;rw[kV (Same.right (sp σ.fr _))]at r2;refine⟨⟨aG σ.fr p.dst v2,h2⟩,stT w2 r2,?_⟩;rw[cm];exact stF (by rw[bL (so _ _)];exact w1)
  ·simp only at w2;rw[bL (sp _ _)]at w2;refine⟨⟨aG σ.fr p.dst (.tup []),σ.h⟩,stF w2,?_⟩;rw[cm];exact stF (by rw[bL (so _ _)];exact w1)
mutual
theorem EN:∀{a b:PV},NJ a b=true->a=b:=by
 intro a b h;cases a<;>cases b<;>simp only[NJ,O6,PG,Ps]at h<;>try(exact h.elim)
 all_goals first
  |rfl
  |(rw[yx h];done)
  |(obtain⟨rfl,h⟩:=h;rw[yx h];done)
  |(subst h;rfl)
  |(obtain⟨rfl,rfl⟩:=h;rfl)
  |(obtain⟨⟨⟨rfl,rfl⟩,rfl⟩,rfl⟩:=h;rfl)
  |(obtain⟨⟨⟨⟨⟨⟨rfl,rfl⟩,rfl⟩,rfl⟩,rfl⟩,rfl⟩,rfl⟩:=h;rfl)
theorem yx:∀{a b:List PV},wz a b=true->a=b:=by
 intro a b h;cases a with
 |nil=>cases b with
  |nil=>rfl
  |cons=>simp[wz]at h
 | cons x xs=>cases b with
  |nil=>simp[wz]at h
  |cons y ys=>
   simp only[wz,O6]at h;rw[EN h.1,yx h.2]
end
theorem AX{sz:Option Nat}{r:aq}{v i o:Nat}{h:Heap}{x:PV}(hl:pX ⟨r,v,i,o,sz⟩ (h.get r)=some x):(jN sz (.ptr r v i o)).runT h=some (x,h,[r],[]):=by
 unfold pX at hl;cases hg:h.get r with
 |none=>rw[hg]at hl;cases hl
 | some e=>
  rw[hg]at hl;simp only at hl;split at hl
  case isFalse=>cases hl
  rename_i hv;cases hb:e.blk with
  |none=>rw[hb]at hl;cases hl
  | some b=>
   rw[hb]at hl;simp only at hl;cases he:b.es[i]? with
   |none=>rw[he]at hl;cases hl
   |some el=>
    rw[he]at hl;simp only at hl;simp only[jN,bS,HM.bind,HM.runT,hg,hv,PQ,hb,HM.ofO,he,hl]
theorem pj{sz:Option Nat}{r:aq}{v i o:Nat}{h h':Heap}{x:PV}{R W:List aq}(hr:(jN sz (.ptr r v i o)).runT h=some (x,h',R,W)):h'=h/\R=[r]/\W=[]/\pX ⟨r,v,i,o,sz⟩ (h.get r)=some x:=by
 simp only[jN,bS,HM.bind,HM.runT]at hr;cases hg:h.get r with
 |none=>rw[hg]at hr;cases hr
 | some e=>
  rw[hg]at hr;simp only at hr;by_cases hv:e.ver=v
  ·rw[O9 hv]at hr;cases hb:e.blk with
   |none=>rw[hb]at hr;simp[HM.ofO,HM.bind,HM.runT]at hr
   | some b=>
    rw[hb]at hr;simp only[HM.ofO,HM.bind]at hr;cases he:b.es[i]? with
    |none=>rw[he]at hr;simp[HM.runT]at hr
    | some el=>
     rw[he]at hr;simp only at hr;cases hl:dD el.cells o sz with
     |none=>rw[hl]at hr;simp[HM.ofO,HM.runT]at hr
     |some y=>
      rw[hl]at hr;simp only[HM.ofO,HM.runT,O5,Pq]at hr;obtain⟨rfl,rfl,rfl,rfl⟩:=hr;refine⟨rfl,rfl,rfl,?_⟩;unfold pX;simp only[hv,PQ,hb,he,hl]
  ·rw[Pd hv]at hr;simp[HM.bind,HM.runT]at hr
theorem uI{ρ:PO->PV}{op:IOp}{c:GK}(h:fU ρ op=some c):∃x,op=.load c.sz x/\ρ x=.ptr c.r c.ver c.i c.o:=by
 cases op<;>simp only[fU,reduceCtorEq]at h
 rename_i sz x;split at h
 ·rename_i r v i o hx;simp only[O5]at h;subst h;exact⟨x,rfl,hx⟩
 ·cases h
theorem nX{fr fr':List PV}{op:IOp}(h:Same fr fr' op.ts):fU (PO.ev fr) op=fU (PO.ev fr') op:=by
 cases op<;>simp only[fU]
 rename_i sz x;simp only[IOp.ts]at h;rw[fP h]
theorem cH{RO:Nat->List Bool}{C:cG}{q:IOper}{τ τ':St}{R W:List aq}(hh:bu RO C q τ=some (τ',R,W)):
  (wanted τ.fr q.guard=some true/\∃v h,(iQ RO C (PO.ev τ.fr) q.op).runT τ.h=some (v,h,R,W)/\τ'=⟨aG τ.fr q.dst v,h⟩)∨
   (wanted τ.fr q.guard=some false/\R=[]/\W=[]/\τ'=⟨aG τ.fr q.dst (.tup []),τ.h⟩):=by
 unfold bu at hh;split at hh
 ·rename_i hw;split at hh
  ·rename_i v h' R' W' hr;simp only[O5,Pq]at hh;obtain⟨rfl,rfl,rfl⟩:=hh;exact .inl ⟨hw,v,h',hr,rfl⟩
  ·cases hh
 ·rename_i hw;simp only[O5,Pq]at hh;obtain⟨rfl,rfl,rfl⟩:=hh;exact .inr ⟨hw,rfl,rfl,rfl⟩
 ·cases hh
theorem uq{RO:Nat->List Bool}{C:cG}{q:IOper}{τ:St}{v:PV}{h:Heap}{R W:List aq}(h1:wanted τ.fr q.guard=some true)(h2:(iQ RO C (PO.ev τ.fr) q.op).runT τ.h=some (v,h,R,W)):bu RO C q τ=some (⟨aG τ.fr q.dst v,h⟩,R,W):=by
 unfold bu;rw[h1];simp only;rw[h2]
theorem Cm{RO:Nat->List Bool}{C:cG}{q:IOper}{τ:St}(h1:wanted τ.fr q.guard=some false):bu RO C q τ=some (⟨aG τ.fr q.dst (.tup []),τ.h⟩,[],[]):=by
 unfold bu;rw[h1]
theorem mb{RO:Nat->List Bool}{C:cG}{q:IOper}{τ τ':St}{R W:List aq}(hh:bu RO C q τ=some (τ',R,W)):∀r,r∉W->τ'.h.get r=τ.h.get r:=by
 rcases cH hh with⟨_,v,h,hr,rfl⟩|⟨_,rfl,rfl,rfl⟩
 ·exact(HM.runT_frame hr).1
 ·exactλr _=>rfl
theorem xj{c:GK}{W:List aq}{g h:Heap}(hc:qu c (W.map λr=>(r,g.get r,h.get r))=true)(hf:∀r,r∉W->h.get r=g.get r):∀v,pX c (g.get c.r)=some v↔pX c (h.get c.r)=some v:=by
 intro v;by_cases hm:c.r∈W
 ·unfold qu at hc;rw[P4]at hc;have:=hc (c.r,g.get c.r,h.get c.r) (List.mem_map.2 ⟨c.r,hm,rfl⟩);simp only[QZ,QF,QN]at this;split at this
  ·rename_i a b ha hb;have:=EN this;subst this;rw[ha,hb]
  ·cases this
 ·rw[hf _ hm]
theorem zZ{RO:Nat->List Bool}{C:cG}{o p:IOper}{σ σ1 σ2:St}{R1 W1 R2 W2:List aq}(hd:zt o p=true)(x:bu RO C o σ=some (σ1,R1,W1))(y:bu RO C p σ1=some (σ2,R2,W2))
  (hap:qm (ee o σ σ1 R1 W1) (ee p σ1 σ2 R2 W2)=true):∃τ,bu RO C p σ=some (τ,R2,W2)/\bu RO C o τ=some (σ2,R1,W1)/\ee p σ τ R2 W2=ee p σ1 σ2 R2 W2/\ee o τ σ2 R1 W1=ee o σ σ1 R1 W1:=by
 have hop:∀t,o.dst=some t->t∉p.uses/\p.dst≠some t:=by
  intro t ht;unfold zt at hd;rw[ht]at hd;simp only[O6,PC,bne_iff_ne,PW,PD]at hd;exact hd.1
 have hpo:∀t,p.dst=some t->t∉o.uses:=by
  intro t ht;unfold zt at hd;rw[ht]at hd;simp only[O6,PC,PW,PD]at hd;exact hd.2
 have sp:∀(fr:List PV) v,Same (aG fr o.dst v) fr p.uses:=λfr v t ht=>nO (λe=>(hop t e).1 ht);have so:∀(fr:List PV) v,Same (aG fr p.dst v) fr o.uses:=λfr v t ht=>nO (λe=>hpo t e ht);have cm:∀(fr:List PV) v u,aG (aG fr o.dst v) p.dst u=aG (aG fr p.dst u) o.dst v:=λfr v u=>sR (λt e=>(hop t e).2);have fx:=mb x;have fy:=mb y;have hs1:∃v,σ1.fr=aG σ.fr o.dst v:=by
  rcases cH x with⟨_,v,h,_,rfl⟩|⟨_,_,_,rfl⟩
  ·exact⟨v,rfl⟩
  ·exact⟨_,rfl⟩
 obtain⟨v1,hv1⟩:=hs1;have wp:wanted σ1.fr p.guard=wanted σ.fr p.guard:=by rw[hv1];exact bL (sp _ _)
 have cp:fU (PO.ev σ1.fr) p.op=fU (PO.ev σ.fr) p.op:=by rw[hv1];exact nX (Same.right (sp σ.fr v1))
 have ep:iQ RO C (PO.ev σ1.fr) p.op=iQ RO C (PO.ev σ.fr) p.op:=by rw[hv1];exact kV (Same.right (sp σ.fr v1))
 have isl:∀{q:IOper}{τ:St}{c:GK},fU (PO.ev τ.fr) q.op=some c->∃x,q.op=.load c.sz x/\iQ RO C (PO.ev τ.fr) q.op=jN c.sz (.ptr c.r c.ver c.i c.o):=by
  intro q τ c hc;obtain⟨x,h1,h2⟩:=uI hc;exact⟨x,h1,by rw[h1];simp only[iQ,h2]⟩
 have trT:∀{q:IOper}{τ τ':St}{R W:List aq}{c:GK},wanted τ.fr q.guard=some true->fU (PO.ev τ.fr) q.op=some c->ee q τ τ' R W=⟨[],[],some c,[]⟩:=by
  intro q τ τ' R W c h1 h2;unfold ee;rw[h1];simp only[h2]
 have trN:∀{q:IOper}{τ τ':St}{R W:List aq},wanted τ.fr q.guard=some true->fU (PO.ev τ.fr) q.op=none->ee q τ τ' R W=⟨R,W,none,W.map λr=>(r,τ.h.get r,τ'.h.get r)⟩:=by
  intro q τ τ' R W h1 h2;unfold ee;rw[h1];simp only[h2]
 have trF:∀{q:IOper}{τ τ':St}{R W:List aq},wanted τ.fr q.guard=some false->ee q τ τ' R W=⟨R,W,none,[]⟩:=by
  intro q τ τ' R W h1;unfold ee;rw[h1]
 by_cases ho:wanted σ.fr o.guard=some true/\∃c,fU (PO.ev σ.fr) o.op=some c
 ·obtain⟨how,c,hoc⟩:=ho;obtain⟨xx,_,hsem⟩:=isl (q:=o) (τ:=σ) hoc;rcases cH x with⟨_,v,h1,hr,rfl⟩|⟨hf,_,_,_⟩
  case inr=>rw[how]at hf;cases hf
  rw[hsem]at hr;obtain⟨rfl,rfl,rfl,hE⟩:=pj hr;have hv1:aG σ.fr o.dst v=aG σ.fr o.dst v:=rfl;have key:∃u h2,σ2=⟨aG (aG σ.fr o.dst v) p.dst u,h2⟩/\bu RO C p σ=some (⟨aG σ.fr p.dst u,h2⟩,R2,W2):=by
   rcases cH y with⟨g1,u,h2,g2,rfl⟩|⟨g1,rfl,rfl,rfl⟩
   ·refine⟨u,h2,rfl,uq (by rw[<-wp];exact g1) ?_⟩;rw[<-ep];exact g2
   ·exact⟨_,_,rfl,Cm (by rw[<-wp];exact g1)⟩
  obtain⟨u,h2,rfl,hp⟩:=key;refine⟨_,hp,?_,?_,?_⟩
  ·have hE2:pX c (h2.get c.r)=some v:=by
    rw[trT how hoc]at hap;by_cases hpw:wanted σ.fr p.guard=some true
    ·cases hpc:fU (PO.ev σ.fr) p.op with
     | some c2=>
      obtain⟨_,_,hs2⟩:=isl (q:=p) (τ:=σ) hpc;rcases cH hp with⟨_,u',h',hr2,he⟩|⟨hf,_,_,_⟩
      ·rw[hs2]at hr2;obtain⟨rfl,_⟩:=pj hr2;simp only[St.mk.injEq]at he;rw[he.2];exact hE
      ·rw[hpw]at hf;cases hf
     |none=>
      rw[trN (q:=p) (by rw[wp];exact hpw) (by rw[cp];exact hpc)]at hap;exact((xj (g:=σ.h) (h:=h2) hap fy) v).1 hE
    ·rcases cH hp with⟨hf,_⟩|⟨_,_,_,he⟩
     ·exact absurd hf hpw
     ·simp only[St.mk.injEq]at he;rw[he.2];exact hE
   rw[cm];refine uq (τ:=⟨aG σ.fr p.dst u,h2⟩) (by show wanted (aG σ.fr p.dst u) o.guard=_;rw[bL (so _ _)];exact how) ?_;show(iQ RO C (PO.ev (aG σ.fr p.dst u)) o.op).runT h2=_;rw[kV (Same.right (so σ.fr u)),hsem];exact AX hE2
  ·unfold ee;rw[wp,cp]
  ·rw[trT how hoc,trT (by show wanted (aG σ.fr p.dst u) o.guard=_;rw[bL (so _ _)];exact how) (by show fU (PO.ev (aG σ.fr p.dst u)) o.op=_;rw[nX (Same.right (so σ.fr u))];exact hoc)]
 ·
  have htro:(ee o σ σ1 R1 W1).c=none/\(ee o σ σ1 R1 W1).R=R1/\(ee o σ σ1 R1 W1).W=W1:=by
   unfold ee;split
   ·rename_i hw;split
    ·rename_i c hc;exact absurd ⟨hw,c,hc⟩ ho
    ·exact⟨rfl,rfl,rfl⟩
   ·exact⟨rfl,rfl,rfl⟩
  have hoD:qu (c:=⟨.dead,0,0,0,none⟩) []=true:=rfl;by_cases hp:wanted σ.fr p.guard=some true/\∃c,fU (PO.ev σ.fr) p.op=some c
  ·obtain⟨hpw,c,hpc⟩:=hp;obtain⟨_,_,hs1⟩:=isl (q:=p) (τ:=σ1) (by rw[cp];exact hpc);obtain⟨_,_,hs0⟩:=isl (q:=p) (τ:=σ) hpc;rcases cH y with⟨_,u,h2,hr,rfl⟩|⟨hf,_,_,_⟩
   case inr=>rw[wp,hpw]at hf;cases hf
   rw[hs1]at hr;obtain⟨rfl,rfl,rfl,hE⟩:=pj hr;have hE0:pX c (σ.h.get c.r)=some u:=by
    rw[trT (q:=p) (τ:=σ1) (by rw[wp];exact hpw) (by rw[cp];exact hpc)]at hap;by_cases how:wanted σ.fr o.guard=some true
    ·cases hoc:fU (PO.ev σ.fr) o.op with
     |some c2=>exact absurd ⟨how,c2,hoc⟩ ho
     |none=>
      rw[trN how hoc]at hap;exact((xj (g:=σ.h) (h:=σ1.h) hap fx) u).2 hE
    ·rcases cH x with⟨hf,_⟩|⟨_,_,_,he⟩
     ·exact absurd hf how
     ·rw[he]at hE;exact hE
   refine⟨⟨aG σ.fr p.dst u,σ.h⟩,uq hpw (by rw[hs0];exact AX hE0),?_,?_,?_⟩
   ·rcases cH x with⟨g1,v,h1,g2,rfl⟩|⟨g1,rfl,rfl,rfl⟩
    ·rw[cm];refine uq (τ:=⟨aG σ.fr p.dst u,σ.h⟩) (by show wanted (aG σ.fr p.dst u) o.guard=_;rw[bL (so _ _)];exact g1) ?_;show(iQ RO C (PO.ev (aG σ.fr p.dst u)) o.op).runT σ.h=_;rw[kV (Same.right (so σ.fr u))];exact g2
    ·rw[cm];exact Cm (τ:=⟨aG σ.fr p.dst u,σ.h⟩) (by show wanted (aG σ.fr p.dst u) o.guard=_;rw[bL (so _ _)];exact g1)
   ·rw[trT (q:=p) (τ:=σ) hpw hpc,trT (q:=p) (τ:=σ1) (by rw[wp];exact hpw) (by rw[cp];exact hpc)]
   ·have hw:wanted (aG σ.fr p.dst u) o.guard=wanted σ.fr o.guard:=bL (so _ _);have hcr:fU (PO.ev (aG σ.fr p.dst u)) o.op=fU (PO.ev σ.fr) o.op:=nX (Same.right (so σ.fr u));unfold ee;simp only[hw,hcr]
  ·
   have htrp:(ee p σ1 σ2 R2 W2).c=none/\(ee p σ1 σ2 R2 W2).R=R2/\(ee p σ1 σ2 R2 W2).W=W2:=by
    unfold ee;rw[wp,cp];split
    ·rename_i hw;split
     ·rename_i c hc;exact absurd ⟨hw,c,hc⟩ hp
     ·exact⟨rfl,rfl,rfl⟩
    ·exact⟨rfl,rfl,rfl⟩
   have hap1:lw R1 W1 R2 W2=true:=by
    unfold qm at hap;rw[htro.1,htrp.1]at hap;simp only[htro.2.1,htro.2.2,htrp.2.1,htrp.2.2]at hap;exact hap
   obtain⟨τ,t1,t2⟩:=Bd hd x y hap1;have hdis:∀r,r∈W1->r∉W2:=by
    intro r h1 h2;unfold lw at hap1;simp only[O6,P4,PC,PW,PD]at hap1;exact(hap1.1 r h1).2 h2
   have f1:=mb t1;have f2:=mb t2;have hτ:∃u,τ.fr=aG σ.fr p.dst u:=by
    rcases cH t1 with⟨_,v,h,_,rfl⟩|⟨_,_,_,rfl⟩
    ·exact⟨v,rfl⟩
    ·exact⟨_,rfl⟩
   obtain⟨u,hu⟩:=hτ;have hw:wanted τ.fr o.guard=wanted σ.fr o.guard:=by rw[hu];exact bL (so _ _)
   have hcr:fU (PO.ev τ.fr) o.op=fU (PO.ev σ.fr) o.op:=by rw[hu];exact nX (Same.right (so σ.fr u))
   refine⟨τ,t1,t2,?_,?_⟩
   ·unfold ee;rw[wp,cp];have:(W2.map λr=>(r,σ.h.get r,τ.h.get r))=W2.map λr=>(r,σ1.h.get r,σ2.h.get r):=by
     apply List.map_congr_left;intro r hr;rw[fx r (λh=>hdis r h hr),f2 r (λh=>hdis r h hr)]
    rw[this]
   ·unfold ee;rw[hw,hcr];have:(W1.map λr=>(r,τ.h.get r,σ2.h.get r))=W1.map λr=>(r,σ.h.get r,σ1.h.get r):=by
     apply List.map_congr_left;intro r hr;rw[f1 r (hdis r hr),fy r (hdis r hr)]
    rw[this]
theorem B1{o p:IOper}{σ σ1 τ τ1:St}{R1 W1 R2 W2:List aq}{RO:Nat->List Bool}{C:cG}(x:bu RO C o σ=some (σ1,R1,W1))(y:bu RO C p τ=some (τ1,R2,W2))(h:lw R1 W1 R2 W2=true):qm (ee o σ σ1 R1 W1) (ee p τ τ1 R2 W2)=true:=by
 have isl:∀{q:IOper}{τ τ':St}{R W:List aq}{c:GK},bu RO C q τ=some (τ',R,W)->wanted τ.fr q.guard=some true->fU (PO.ev τ.fr) q.op=some c->R=[c.r]/\W=[]:=by
  intro q τ τ' R W c hh hw hc;obtain⟨x,h1,h2⟩:=uI hc;rcases cH hh with⟨_,v,h',hr,_⟩|⟨hf,_⟩
  ·rw[h1]at hr;simp only[iQ,h2]at hr;obtain⟨_,h3,h4,_⟩:=pj hr;exact⟨h3,h4⟩
  ·rw[hw]at hf;cases hf
 have clr:∀{c:GK}{W:List aq}{g h:Heap},c.r∉W->qu c (W.map λr=>(r,g.get r,h.get r))=true:=by
  intro c W g h hm;unfold qu;rw[P4];intro d hd;obtain⟨r,hr,rfl⟩:=List.mem_map.1 hd;have:decide (r=c.r)=false:=Po (λe=>hm (by rw[<-e];exact hr));simp[this]
 unfold lw at h;simp only[O6,P4,PC,PW,PD]at h;have h0:lw R1 W1 R2 W2=true:=by
  unfold lw;simp only[O6,P4,PC,PW,PD];exact h
 have ht:∀{q:IOper}{τ τ':St}{R W:List aq},bu RO C q τ=some (τ',R,W)->(∃c,ee q τ τ' R W=⟨[],[],some c,[]⟩/\R=[c.r]/\W=[])∨(ee q τ τ' R W=⟨R,W,none,W.map λr=>(r,τ.h.get r,τ'.h.get r)⟩):=by
  intro q τ τ' R W hh;rcases cH hh with⟨hw,_⟩|⟨hw,rfl,rfl,_⟩
  ·cases hc:fU (PO.ev τ.fr) q.op with
   |some c=>
    left;exact⟨c,by unfold ee;rw[hw];simp only[hc],isl hh hw hc⟩
   |none=>right;unfold ee;rw[hw];simp only[hc]
  ·right;unfold ee;rw[hw];rfl
 rcases ht x with⟨c,e1,r1,w1⟩|e1
 ·rcases ht y with⟨c2,e2,r2,w2⟩|e2
  ·rw[e1,e2];rfl
  ·rw[e1,e2];exact clr (λhm=>h.2 _ hm (by rw[r1];exact List.mem_singleton.2 rfl))
 ·rcases ht y with⟨c2,e2,r2,w2⟩|e2
  ·rw[e1,e2];exact clr (λhm=>(h.1 _ hm).1 (by rw[r2];exact List.mem_singleton.2 rfl))
  ·rw[e1,e2];exact h0
theorem wY{RO:Nat->List Bool}{C:cG}:∀{os:List IOper}{j:Nat}{acc:List (Nat×List aq×List aq)}{acc2:List (Nat×Tr)}{σ σ':St},
  (∀x∈acc2,∃(o:IOper)(τ τ1:St)(R W:List aq),bu RO C o τ=some (τ1,R,W)/\x.2=ee o τ τ1 R W/\(x.1,R,W)∈acc)->lU RO C j acc os σ=some σ'->fj RO C j acc2 os σ=some σ'
 |[],j,acc,acc2,σ,σ',_,h=>h
 | o::os,j,acc,acc2,σ,σ',hA,h=>by
  simp only[lU]at h;simp only[fj];cases hs:bu RO C o σ with
  |none=>rw[hs]at h;cases h
  | some q=>
   obtain⟨σ1,R,W⟩:=q;rw[hs]at h;simp only at h⊢;split at h
   case isFalse=>cases h
   rename_i hall;have hc:acc2.all (λx=>o.bef.contains x.1||qm x.2 (ee o σ σ1 R W))=true:=by
    rw[P4]at hall⊢;intro x hx;obtain⟨o',τ,τ1,R',W',h1,h2,h3⟩:=hA x hx;have:=hall _ h3;simp only[Qt]at this⊢;refine this.imp id (λha=>?_);rw[h2];exact B1 h1 hs ha
   rw[O9 hc];refine wY (λx hx=>?_) h;rcases List.mem_cons.1 hx with rfl|hx
   ·exact⟨o,σ,σ1,R,W,hs,rfl,Pj ..⟩
   ·obtain⟨o',τ,τ1,R',W',h1,h2,h3⟩:=hA x hx;exact⟨o',τ,τ1,R',W',h1,h2,Pe _ h3⟩
structure tW (ah:Nat->FuncId) (M:Mp) (σ:St) (a:Act) (w:World):Prop where
 h:HR ah M σ.h w
 f:FrR ah M σ.fr a.tmps
 d:a.defers=[]
def ve(ops:Array Oper)(g:Option (Nat×Bool))(g':Option (Nat×Bool)):Bool:=
 match g,g' with
 |none,none=>true
 |some (t,b),some (j,b')=>(match ops[j]? with|some o=>o.dst==some t|none=>false)&&b==b'
 |_,_=>false
def rD(P:Program)(ah:Nat->FuncId)(ops:Array Oper)(o:Oper)(io:IOper):Bool:=
 (io.dst==o.dst)&&ve ops io.guard o.guard&&cf P ah o io.op
def ek(P:Program)(ah:Nat->FuncId)(ops:Array Oper):List Oper->List IOper->Bool
 |[],[]=>true
 |o::os,io::ios=>rD P ah ops o io&&ek P ah ops os ios
 |_,_=>false
section
variable{ah:Nat->FuncId}{P:Program}{M:Mp}{w:World}{a:Act}{σ:St}{C:cG}{RO:Nat->List Bool}{ops:Array Oper}{Q:Exit->Act->World->Prop}
theorem zg{io:IOper}{o:Oper}{b:Bool}(hc:ve ops io.guard o.guard=true)(F:FrR ah M σ.fr a.tmps)(hw:wanted σ.fr io.guard=some b):Region.wanted o (yielded ops a.tmps)=b:=by
 unfold ve at hc;split at hc
 ·rename_i h1 h2;rw[h1]at hw;simp only[wanted,O5]at hw;simp only[Region.wanted,h2];exact hw
 ·rename_i t b1 j b2 h1 h2;simp only[O6,PF]at hc;obtain⟨hc,rfl⟩:=hc;split at hc
  case h_2=>cases hc
  rename_i oj hj;simp only[PF]at hc;rw[h1]at hw;simp only[wanted]at hw;simp only[Region.wanted,h2];have hy:yielded ops a.tmps j=match a.tmps[t]? with|some (.bool b)=>some b|_=>none:=by
   unfold yielded;rw[hj];simp only[Option.bind_some,hc];cases a.tmps[t]? with
   |none=>rfl
   |some v=>cases v<;>rfl
  have hv:=F.at_ t;have hlt:lG σ.fr t≠ .junk->t<a.tmps.size:=by
   intro hn;rw[<-F.len];rcases Pt t σ.fr.length with z|z
   ·exact z
   ·exact absurd (vV z) hn
  rw[hy];split at hw
  ·rename_i c hc';rw[hc']at hv;have hb:=hv.bool_inv;have hl:=hlt (by rw[hc'];simp);rw[Ql,Pv hl]at hb;rw[Pv hl];simp only[PK]at hb;rw[hb];simp only[O5]at hw;rw[<-hw];cases c<;>cases b1<;>rfl
  ·rename_i hc';rw[hc']at hv;obtain⟨us,hb,h1,_⟩:=hv.tup_inv;have h0:us= #[]:=Array.eq_empty_of_size_eq_zero (by simpa using h1.symm);subst h0;have hl:=hlt (by rw[hc'];simp);rw[Ql,Pv hl]at hb;rw[Pv hl];simp only[PK]at hb;rw[hb];simp only[O5]at hw;rw[<-hw];rfl
  ·cases hw
 ·cases hc
theorem vP(a:Act)(dst:Option Tmp)(c:Value):(a.put dst c).defers=a.defers:=by cases dst<;>rfl
theorem Ci(hC:iX P ah C)(hE:∀f args G r,C f args G=some r->nT P (ah f)){o:Oper}{io:IOper}{σ':St}(hc:rD P ah ops o io=true)(hs:jd RO C io σ=some σ')(S:tW ah M σ a w)
  {K:Act->World->Prop}(hK:∀a' w' M',Stp M w M' w'->tW ah M' σ' a' w'->K a' w'):
  if Region.wanted o (yielded ops a.tmps)then o.wp P a w K Q else K (a.put o.dst undef) w:=by
 unfold rD at hc;simp only[O6,PF]at hc;obtain⟨⟨h1,h2⟩,h3⟩:=hc;unfold jd at hs;split at hs
 ·rename_i hw;rw[zg h2 S.f hw,O9 rfl];split at hs
  ·rename_i v h' hr;simp only[O5]at hs;subst hs;refine MG hC hE h3 hr S.h S.f K Q (λc w' M' Sp H' V=>hK _ _ M' Sp ⟨H',?_,by rw[vP];exact S.d⟩);rw[h1];exact(S.f.mono Sp.le).put V
  ·cases hs
 ·rename_i hw;rw[zg h2 S.f hw,Pd (by decide)];simp only[O5]at hs;subst hs;refine hK _ _ M (.refl _ _) ⟨S.h,?_,by rw[vP];exact S.d⟩;rw[h1];exact S.f.put (.fr (.tup [] #[] rfl (λi c u hi=>by simp at hi)))
 ·cases hs
theorem CL(hC:iX P ah C)(hE:∀f args G r,C f args G=some r->nT P (ah f)):∀{os:List Oper}{ios:List IOper}{M:Mp}{σ σ':St}{a:Act}{w:World},ek P ah ops os ios=true->gX RO C ios σ=some σ'->tW ah M σ a w->
  (∀a' w' M',Stp M w M' w'->tW ah M' σ' a' w'->Q .normal a' w')->wpList P ops Q os a w
 |[],[],M,σ,σ',a,w,_,hr,S,hQ=>by
  simp only[gX,O5]at hr;subst hr;exact hQ a w M (.refl _ _) S
 |[],_::_,M,σ,σ',a,w,hc,_,_,_=>by simp[ek]at hc
 |_::_,[],M,σ,σ',a,w,hc,_,_,_=>by simp[ek]at hc
 | o::os,io::ios,M,σ,σ',a,w,hc,hr,S,hQ=>by
  simp only[ek,O6]at hc;simp only[gX]at hr;cases hs:jd RO C io σ with
  |none=>rw[hs]at hr;cases hr
  |some σ1=>
   rw[hs]at hr;simp only at hr;refine wpList_step (λK hK=>?_);exact Ci hC hE hc.1 hs S (λa' w' M' S1 S'=>hK _ _ (CL hC hE hc.2 hr S' (λa2 w2 M2 S2 S2'=>hQ _ _ _ (S1.trans S2) S2')))
structure Rm where
 i:Nat
 o:Oper
 io:IOper
inductive BZ (RO:Nat->List Bool) (C:cG):List Rm->St->St->List (List Nat×Tr)->Prop
 |nil (σ:St):BZ RO C [] σ σ []
 | cons (x:Rm) (xs:List Rm) (σ σ1 σ':St) (R W:List aq) (tr:List (List Nat×Tr)) (hs:bu RO C x.io σ=some (σ1,R,W)) (hr:BZ RO C xs σ1 σ' tr)
   (hap:∀y∈tr,x.i∈y.1∨qm (ee x.io σ σ1 R W) y.2=true):BZ RO C (x::xs) σ σ' ((x.io.bef,ee x.io σ σ1 R W)::tr)
theorem wm{io:IOper}{σ':St}{R W:List aq}(h:bu RO C io σ=some (σ',R,W)):jd RO C io σ=some σ':=by
 unfold bu at h;unfold jd;split at h
 ·rename_i hw;split at h
  ·rename_i v h' R' W' hr;simp only[O5,Pq]at h;rw[HM.runT_run hr];simp only[h.1]
  ·cases h
 ·rename_i hw;simp only[O5,Pq]at h;simp only[h.1]
 ·cases h
theorem C6:∀{xs:List Rm}{j:Nat}{acc:List (Nat×Tr)}{σ σ':St},(∀(k:Nat)(x:Rm),xs[k]?=some x->x.i=j+k)->fj RO C j acc (xs.map Rm.io) σ=some σ'->
  ∃tr,BZ RO C xs σ σ' tr/\∀y∈acc,∀x∈tr,y.1∈x.1∨qm y.2 x.2=true
 |[],j,acc,σ,σ',_,h=>by
  simp only[QM,fj,O5]at h;subst h;exact⟨[],.nil _,λy _ x hx=>by simp at hx⟩
 | x::xs,j,acc,σ,σ',hi,h=>by
  simp only[PM,fj]at h;cases hs:bu RO C x.io σ with
  |none=>rw[hs]at h;cases h
  | some p=>
   obtain⟨σ1,R,W⟩:=p;rw[hs]at h;simp only at h;split at h
   case isFalse=>cases h
   rename_i hall;obtain⟨tr,h1,h2⟩:=C6 (λk y hy=>by rw[hi (k+1) y hy];omega) h;have hxi:x.i=j:=by rw[hi 0 x rfl];rfl
   refine⟨_,.cons x xs σ σ1 σ' R W tr hs h1 (λy hy=>?_),λy hy z hz=>?_⟩
   ·have:=h2 (j,ee x.io σ σ1 R W) (Pj ..) y hy;rw[hxi];exact this
   ·rcases List.mem_cons.1 hz with rfl|hz
    ·rw[P4]at hall;have:=hall y hy;simp only[Qt,PW,PG]at this;exact this
    ·exact h2 y (Pe _ hy) z hz
theorem Gj{x:Rm}{post:List Rm}:∀{pre:List Rm}{σ σ':St}{tr:List (List Nat×Tr)},BZ RO C (pre++x::post) σ σ' tr->(∀p∈pre,p.i∉x.io.bef)->(∀p∈pre,zt p.io x.io=true)->
  ∃σ1 R W tr',bu RO C x.io σ=some (σ1,R,W)/\BZ RO C (pre++post) σ1 σ' tr'/\(x.io.bef,ee x.io σ σ1 R W)∈tr/\∀y∈tr',y∈tr
 |[],σ,σ',tr,h,_,_=>by
  cases h with
  |cons _ _ _ σ1 _ R W tr0 hs hr hap=>exact⟨σ1,R,W,tr0,hs,hr,Pj ..,λy hy=>Pe _ hy⟩
 | p::pre,σ,σ',tr,h,hb,hd=>by
  cases h with
  |cons _ _ _ σp _ Rp Wp tr0 hs hr hap=>
   obtain⟨σ1,R,W,tr',h1,h2,h3,h4⟩:=Gj hr (λq hq=>hb q (Pe _ hq)) (λq hq=>hd q (Pe _ hq));have hap':=(hap _ h3).resolve_left (hb p (Pj ..));obtain⟨τ,t1,t2,t3,t4⟩:=zZ (hd p (Pj ..)) hs h1 hap';refine⟨τ,R,W,(p.io.bef,ee p.io τ σ1 Rp Wp)::tr',t1,.cons p _ τ σ1 σ' Rp Wp tr' t2 h2 (λy hy=>by rw[t4];exact hap y (h4 y hy)),by rw[t3];exact Pe _ h3,λy hy=>?_⟩;rcases List.mem_cons.1 hy with rfl|hy
   ·rw[t4];exact Pj ..
   ·exact Pe _ (h4 y hy)
def IG(ios:List IOper)(o:Oper)(io:IOper):Bool:=
 io.bef.all λk=>o.after.toList.any λe=>Region.binds .any e&&(e.on==k||(match ios[e.on]? with|some p=>p.bef.contains k|none=>false))
def E7(i:Nat)(o:Oper):Bool:=o.after.toList.all λe=> !Region.binds .any e||decide (e.on<i)
def mr(x y:Rm):Bool:=decide (x.i<y.i)&&(y.io.bef.contains x.i||zt x.io y.io)
def qG:List Rm->Bool
 |[]=>true
 |x::xs=>xs.all (mr x)&&qG xs
theorem tz:∀{l:List Rm},qG l=true->l.Pairwise λx y=>mr x y=true
 |[],_=>.nil
 |x::xs,h=>by
  simp only[qG,O6,P4]at h;exact .cons (λy hy=>h.1 y hy) (tz h.2)
def pV:Nat->List Oper->List IOper->List Rm
 |k,o::os,io::ios=>⟨k,o,io⟩::pV (k+1) os ios
 |_,_,_=>[]
def ug(P:Program)(ah:Nat->FuncId)(ops:Array Oper)(ios:List IOper):Bool:=
 ek P ah ops ops.toList ios&&qG (pV 0 ops.toList ios)&&(pV 0 ops.toList ios).all λx=>IG ios x.o x.io&&E7 x.i x.o
theorem pK:∀{os:List Oper}{ios:List IOper}{k j:Nat}{x:Rm},(pV k os ios)[j]?=some x->x.i=k+j/\os[j]?=some x.o/\ios[j]?=some x.io
 |[],_,k,j,x,h=>by simp[pV]at h
 |_::_,[],k,j,x,h=>by simp[pV]at h
 |o::os,io::ios,k,0,x,h=>by simp only[pV,Pg,O5]at h;subst h;exact⟨rfl,rfl,rfl⟩
 |o::os,io::ios,k,j+1,x,h=>by
  obtain⟨h1,h2,h3⟩:=pK (by simpa[pV]using h);exact⟨by omega,h2,h3⟩
theorem pb:∀{os:List Oper}{ios:List IOper},ek P ah ops os ios=true->os.length=ios.length
 |[],[],_=>rfl
 |[],_::_,h=>by simp[ek]at h
 |_::_,[],h=>by simp[ek]at h
 |o::os,io::ios,h=>by simp only[ek,O6]at h;simp[pb h.2]
theorem te:∀{os:List Oper}{ios:List IOper},ek P ah ops os ios=true->∀(j:Nat)(o:Oper)(io:IOper),os[j]?=some o->ios[j]?=some io->rD P ah ops o io=true
 |o::os,io::ios,h,0,o',io',h1,h2=>by simp only[ek,O6]at h;simp at h1 h2;subst h1;subst h2;exact h.1
 |o::os,io::ios,h,j+1,o',io',h1,h2=>by simp only[ek,O6]at h;exact te h.2 j o' io' (by simpa using h1) (by simpa using h2)
 |[],_,_,j,o',io',h1,_=>by simp at h1
 |_::_,[],_,j,o',io',_,h2=>by simp at h2
theorem ql:∀{os:List Oper}{ios:List IOper}(k:Nat),os.length=ios.length->(pV k os ios).length=os.length
 |[],[],k,_=>rfl
 |[],_::_,k,h=>by simp at h
 |_::_,[],k,h=>by simp at h
 |o::os,io::ios,k,h=>by simp only[pV,PJ];rw[ql (k+1) (by simpa using h)]
theorem Ft:∀{os:List Oper}{ios:List IOper}(k:Nat),os.length=ios.length->(pV k os ios).map Rm.io=ios
 |[],[],k,_=>rfl
 |[],_::_,k,h=>by simp at h
 |_::_,[],k,h=>by simp at h
 |o::os,io::ios,k,h=>by simp only[pV,PM];rw[Ft (k+1) (by simpa using h)]
theorem vN{α:Type}{f g:α->Bool}{l pre post:List α}{x:α}(hl:l.filter f=pre++x::post)(hx:g x=false)(hg:∀y∈pre++post,g y=f y)(hsub:∀y,g y=true->f y=true):l.filter g=pre++post:=by
 have h1:l.filter g=(l.filter f).filter g:=by
  rw[List.filter_filter];congr 1;funext y;cases h2:g y with
  |false=>simp
  |true=>simp[hsub y h2]
 have hf:∀y∈pre++x::post,f y=true:=λy hy=>by rw[<-hl]at hy;exact(List.mem_filter.1 hy).2
 rw[h1,hl,QX,List.filter_cons,hx];simp only[Ps,PS];rw[List.filter_eq_self.2 (λy hy=>by rw[hg y (Pc _ hy)];exact hf y (Pc _ hy)),
  List.filter_eq_self.2 (λy hy=>by rw[hg y (O8 _ hy)];exact hf y (O8 _ (Pe _ hy)))]
theorem Ii(hC:iX P ah C)(hE:∀f args G r,C f args G=some r->nT P (ah f)){ios:List IOper}(hc:ug P ah ops ios=true):∀(n:Nat){listed:Array Bool}{M:Mp}{σ σ':St}{a:Act}{w:World}{tr:List (List Nat×Tr)},
  listed.size=ops.size->BZ RO C ((pV 0 ops.toList ios).filter λx=> !listed.getD x.i true) σ σ' tr->((pV 0 ops.toList ios).filter λx=> !listed.getD x.i true).length<=n->
  (∀x∈pV 0 ops.toList ios,listed.getD x.i true=true->∀k∈x.io.bef,listed.getD k false=true)->tW ah M σ a w->
  (∀a' w' M',Stp M w M' w'->tW ah M' σ' a' w'->Q .normal a' w')->wpAny P .any ops Q n listed a w:=by
 unfold ug at hc;simp only[O6,P4]at hc;obtain⟨⟨hc1,hc2⟩,hc3⟩:=hc;have hlen:=pb hc1;have hpair:=tz hc2;have hmem:∀i,i<ops.size->∃x,x∈pV 0 ops.toList ios/\x.i=i/\ops[i]?=some x.o:=by
  intro i hi;have hl:i<(pV 0 ops.toList ios).length:=by rw[ql 0 hlen];simpa using hi
  have hx:=Pa hl;obtain⟨h1,h2,_⟩:=pK hx;exact⟨_,Pl hx,by omega,by simpa using h2⟩
 have hof:∀x,x∈pV 0 ops.toList ios->x.i<ops.size/\ops[x.i]?=some x.o/\ios[x.i]?=some x.io:=by
  intro x hx;obtain⟨j,hj⟩:=List.mem_iff_getElem?.1 hx;obtain⟨h1,h2,h3⟩:=pK hj;have:x.i=j:=by omega
  subst this;have hl:=getElem?_lt h2;exact⟨by simpa using hl,by simpa using h2,h3⟩
 have huniq:∀x y,x∈pV 0 ops.toList ios->y∈pV 0 ops.toList ios->x.i=y.i->x=y:=by
  intro x y hx hy he;obtain⟨_,h1,h2⟩:=hof x hx;obtain⟨_,h3,h4⟩:=hof y hy;rw[he,h3]at h1;rw[he,h4]at h2;cases x;cases y;simp_all
 have hnone:∀listed:Array Bool,listed.size=ops.size->((pV 0 ops.toList ios).filter λx=> !listed.getD x.i true)=[]->Region.ready .any ops listed=[]:=by
  intro listed hsz h0;unfold Region.ready;rw[List.filter_eq_nil_iff];intro i hi;have hi':i<ops.size:=by simpa using hi
  obtain⟨x,hx,rfl,_⟩:=hmem i hi';have:=List.filter_eq_nil_iff.1 h0 x hx;simp only[PC,Bool.not_eq_false]at this;simp[this]
 intro n;induction n with
 |zero=>
  intro listed M σ σ' a w tr hsz hr hn hd S hQ;have h0:((pV 0 ops.toList ios).filter λx=> !listed.getD x.i true)=[]:=List.length_eq_zero_iff.1 (by omega);rw[h0]at hr;cases hr;exact⟨hnone listed hsz h0,hQ a w M (.refl _ _) S⟩
 | succ n ih=>
  intro listed M σ σ' a w tr hsz hr hn hd S hQ;refine⟨λhready=>?_,λi hi=>?_⟩
  ·cases hrem:((pV 0 ops.toList ios).filter λx=> !listed.getD x.i true)with
   |nil=>rw[hrem]at hr;cases hr;exact hQ a w M (.refl _ _) S
   | cons x rest=>
    exfalso;have hxm:x∈(pV 0 ops.toList ios).filter λx=> !listed.getD x.i true:=by rw[hrem];exact Pj ..
    obtain⟨hx,hxl⟩:=List.mem_filter.1 hxm;obtain⟨g1,g2,g3⟩:=hof x hx;have hsorted:((pV 0 ops.toList ios).filter λx=> !listed.getD x.i true).Pairwise λx y=>mr x y=true:=hpair.sublist List.filter_sublist;rw[hrem,List.pairwise_cons]at hsorted;have:x.i∈Region.ready .any ops listed:=by
     unfold Region.ready;rw[List.mem_filter];refine⟨by simpa using g1,?_⟩;rw[g2];simp only[Py,PK,O6];refine⟨hxl,?_⟩;rw[<-Array.all_toList,P4];intro e he;have hb:=(hc3 x hx).2;unfold E7 at hb;rw[P4]at hb;have hb:=hb e he;simp only[Qt,PG]at hb⊢;rcases hb with hb|hb
     ·exact .inl hb
     ·right;cases hl:listed.getD e.on false with
      |true=>rfl
      | false=>
       exfalso;obtain⟨y,hy,hyi,_⟩:=hmem e.on (by omega);have hym:y∈(pV 0 ops.toList ios).filter λx=> !listed.getD x.i true:=by
        rw[List.mem_filter];refine⟨hy,?_⟩;have h1:e.on<listed.size:=by omega
        rw[hyi];simp[Array.getD,h1]at hl⊢;exact hl
       rw[hrem]at hym;rcases List.mem_cons.1 hym with rfl|hym
       ·omega
       ·have:=hsorted.1 y hym;unfold mr at this;simp only[O6,PG]at this;omega
    rw[hready]at this;simp at this
  ·
   unfold Region.ready at hi;rw[List.mem_filter]at hi;obtain⟨hi1,hi2⟩:=hi;have hi':i<ops.size:=by simpa using hi1
   obtain⟨x,hx,rfl,hxo⟩:=hmem i hi';rw[hxo]at hi2;simp only[Py,PK,O6]at hi2;obtain⟨hxl,hafter⟩:=hi2;have hbl:∀k∈x.io.bef,listed.getD k false=true:=by
    intro k hk;have hb:=(hc3 x hx).1;unfold IG at hb;rw[P4]at hb;have hb:=hb k hk;rw[List.any_eq_true]at hb;obtain⟨e,he,hb⟩:=hb;simp only[O6,Qt,PF]at hb;obtain⟨hb1,hb2⟩:=hb;rw[<-Array.all_toList,P4]at hafter;have h2:=hafter e he;rw[hb1]at h2;simp only[QF,QN]at h2;rcases hb2 with rfl|hb2
    ·exact h2
    ·split at hb2
     case h_2=>cases hb2
     rename_i p hp;have hlt:e.on<ops.size:=by
      have:=getElem?_lt hp;rw[<-hlen]at this;simpa using this
     obtain⟨y,hy,hyi,_⟩:=hmem e.on hlt;obtain⟨_,_,hy3⟩:=hof y hy;rw[hyi,hp]at hy3;simp only[O5]at hy3;subst hy3;have h3:listed.getD y.i true=true:=by
      rw[hyi];have h1:e.on<listed.size:=by omega
      simp[Array.getD,h1]at h2⊢;exact h2
     exact hd y hy h3 k (by simpa using hb2)
   have hxm:x∈(pV 0 ops.toList ios).filter λx=> !listed.getD x.i true:=List.mem_filter.2 ⟨hx,hxl⟩;obtain⟨pre,post,hsplit⟩:=List.append_of_mem hxm;have hpr:((pV 0 ops.toList ios).filter λx=> !listed.getD x.i true).Pairwise λx y=>mr x y=true:=hpair.sublist List.filter_sublist;rw[hsplit]at hpr hr hn;have hpre:∀p∈pre,mr p x=true:=λp hp=>(List.pairwise_append.1 hpr).2.2 p hp x (Pj ..);have hpost:∀p∈post,mr x p=true:=λp hp=>(List.pairwise_cons.1 (List.pairwise_append.1 hpr).2.1).1 p hp;have hunl:∀p∈pre++post,listed.getD p.i true=false:=by
    intro p hp;have:p∈(pV 0 ops.toList ios).filter λx=> !listed.getD x.i true:=by
     rw[hsplit];rcases List.mem_append.1 hp with z|z
     ·exact Pc _ z
     ·exact O8 _ (Pe _ z)
    simpa using(List.mem_filter.1 this).2
   have hnb:∀p∈pre,p.i∉x.io.bef:=by
    intro p hp hm;have h1:=hbl _ hm;have h2:=hunl p (Pc _ hp);by_cases hlt:p.i<listed.size
    ·simp[Array.getD,hlt]at h1 h2;rw[h1]at h2;cases h2
    ·simp[Array.getD,hlt]at h1
   obtain⟨σ1,R,W,tr',t1,t2,_,_⟩:=Gj hr hnb (λp hp=>by
    have:=hpre p hp;unfold mr at this;simp only[O6,Qt,PW,PG]at this;exact this.2.resolve_left (hnb p hp))
   unfold wpOp;rw[hxo];simp only;have hlx:x.i<listed.size:=by omega
   have hgetD:∀k d,(listed.setIfInBounds x.i true).getD k d=if k=x.i then true else listed.getD k d:=by
    intro k d;by_cases hk:k=x.i
    ·subst hk;simp[Array.getD,hlx]
    ·rw[Pd hk,Ql,Ql,Qe (λe=>hk e.symm)]
   have hne:∀p∈pre++post,p.i≠x.i:=by
    intro p hp;rcases List.mem_append.1 hp with z|z
    ·have:=hpre p z;unfold mr at this;simp only[O6,PG]at this;omega
    ·have:=hpost p z;unfold mr at this;simp only[O6,PG]at this;omega
   have hfil:((pV 0 ops.toList ios).filter λy=> !(listed.setIfInBounds x.i true).getD y.i true)=pre++post:=by
    refine vN hsplit ?_ (λy hy=>?_) (λy hy=>?_)
    ·rw[hgetD,O9 rfl];rfl
    ·rw[hgetD,Pd (hne y hy)]
    ·rw[hgetD]at hy;split at hy
     ·simp at hy
     ·exact hy
   have hcx:rD P ah ops x.o x.io=true:=by
    obtain⟨_,h1,h2⟩:=hof x hx;exact te hc1 x.i _ _ (by simpa using h1) h2
   have key:=Ci (Q:=Q) (K:=wpAny P .any ops Q n (listed.setIfInBounds x.i true)) hC hE hcx (wm t1) S (λa' w' M' S1 S'=>by
    refine ih (by simpa using hsz) (tr:=tr') ?_ ?_ ?_ S' (λa2 w2 M2 S2 S2'=>hQ _ _ _ (S1.trans S2) S2')
    ·rw[hfil];exact t2
    ·rw[hfil];simp at hn⊢;omega
    ·intro y hy hyl k hk;rw[hgetD]at hyl⊢;by_cases hkx:k=x.i
     ·rw[O9 hkx]
     ·rw[Pd hkx];by_cases hyx:y.i=x.i
      ·have:=huniq y x hy hx hyx;subst this;exact hbl k hk
      ·rw[Pd hyx]at hyl;exact hd y hy hyl k hk)
   split
   ·rename_i hw;rw[O9 hw]at key;exact .inl key
   ·rename_i hw;rw[Pd hw]at key;exact key
end
def i4(P:Program):List uR->List ResultVar->Bool
 |[],[]=>true
 |.tmp t::xs,.tmp u::ys=>t==u&&i4 P xs ys
 |.cell sz t::xs,.cell u ty::ys=>t==u&&ku P ty sz&&i4 P xs ys
 |_,_=>false
section
variable{ah:Nat->FuncId}{P:Program}{M:Mp}{w:World}{a:Act}{σ:St}{h:Heap}
theorem vC:∀{rs:List uR}{vs:List PV}{qs:List ResultVar}{h h':Heap}{fr:List PV},i4 P rs qs=true->(mS fr rs).run h=some (vs,h')->HR ah M h w->FrR ah M fr a.tmps->
  h'=h/\∃us:List Value,(qs.mapM (λ(r:ResultVar)=>(match r with|.tmp t=>pure (a.tmps.getD t undef)|.cell x t=>do loadVar t (<-asAddr (a.tmps.getD x undef)):Sem Value))).run P w=.ok us w/\
   vs.length=us.length/\∀(i:Nat)(e:PV)(u:Value),vs[i]?=some e->us[i]?=some u->VR ah M e u
 |[],vs,[],h,h',fr,_,hv,H,F=>by
  unfold mS at hv;obtain⟨rfl,rfl⟩:=HM.run_ret_some hv;exact⟨rfl,[],rfl,rfl,λi e u hi=>by simp at hi⟩
 |[],vs,_::_,h,h',fr,hc,_,_,_=>by simp[i4]at hc
 |.tmp t::rs,vs,[],h,h',fr,hc,_,_,_=>by simp[i4]at hc
 |.cell sz t::rs,vs,[],h,h',fr,hc,_,_,_=>by simp[i4]at hc
 |.tmp t::rs,vs,.cell _ _::_,h,h',fr,hc,_,_,_=>by simp[i4]at hc
 |.cell sz t::rs,vs,.tmp _::_,h,h',fr,hc,_,_,_=>by simp[i4]at hc
 | .tmp t::rs,vs,.tmp u::qs,h,h',fr,hc,hv,H,F=>by
  simp only[i4,O6,PF]at hc;obtain⟨rfl,hc⟩:=hc;unfold mS at hv;obtain⟨ys,h1,hy,hv2⟩:=HM.run_bind_some hv;obtain⟨rfl,rfl⟩:=HM.run_ret_some hv2;obtain⟨rfl,us,e1,e2,e3⟩:=vC hc hy H F;refine⟨rfl,a.tmps.getD t undef::us,?_,by simp[e2],λi e u hi hu=>?_⟩
  ·simp only[List.mapM_cons,Sem.run_bind,Sem.run_pure,Result.andThen_ok,e1]
  ·cases i with
   |zero=>simp only[Pg,O5]at hi hu;subst hi;subst hu;exact F.at_ t
   |succ i=>exact e3 i e u (by simpa using hi) (by simpa using hu)
 | .cell sz t::rs,vs,.cell u ty::qs,h,h',fr,hc,hv,H,F=>by
  simp only[i4,O6,PF]at hc;obtain⟨⟨rfl,hz⟩,hc⟩:=hc;unfold mS at hv;obtain⟨y,h0,hl,hv1⟩:=HM.run_bind_some hv;obtain⟨ys,h1,hy,hv2⟩:=HM.run_bind_some hv1;obtain⟨rfl,rfl⟩:=HM.run_ret_some hv2;obtain⟨rfl,ad,g1,z,g2,g3⟩:=xF hz hl (F.at_ t) H;obtain⟨rfl,us,e1,e2,e3⟩:=vC hc hy H F;refine⟨rfl,z::us,?_,by simp[e2],λi e u hi hu=>?_⟩
  ·have e0:(asAddr (a.tmps.getD t undef)).run P w=.ok ad w:=by rw[g1];rfl
   simp only[List.mapM_cons,Sem.run_bind,e0,Sem.run_pure,Result.andThen_ok,g2,e1]
  ·cases i with
   |zero=>simp only[Pg,O5]at hi hu;subst hi;subst hu;exact g3
   |succ i=>exact e3 i e u (by simpa using hi) (by simpa using hu)
theorem Bs{F:am}{fn:Func}{vs:List PV}{h':Heap}{fr:List PV}(hc:i4 P F.res fn.results.toList=true)(hv:(mS fr F.res).run h=some (vs,h'))(H:HR ah M h w)(Fr:FrR ah M fr a.tmps):
  h'=h/\∃c,(results fn a.tmps).run P w=.ok c w/\VR ah M (one vs) c:=by
 obtain⟨rfl,us,e1,e2,e3⟩:=vC hc hv H Fr;refine⟨rfl,?_⟩;unfold results;have hm:(fn.results.mapM (λ(r:ResultVar)=>(match r with|.tmp t=>pure (a.tmps.getD t undef)|.cell x t=>do loadVar t (<-asAddr (a.tmps.getD x undef)):Sem Value))).run P w=.ok us.toArray w:=by
  rw[Array.mapM_eq_mapM_toList];show Sem.run P (_<$>_) w=_;rw[map_eq_pure_bind,Sem.run_bind,e1];simp
 rw[Sem.run_bind];refine⟨if hh:us.toArray.size=1 then us.toArray[0]else .tuple us.toArray,?_,?_⟩
 ·have:∀{f g:ResultVar->Sem Value},f=g->(fn.results.mapM g).run P w=.ok us.toArray w->(fn.results.mapM f).run P w=.ok us.toArray w:=by
   intro f g h1 h2;rw[h1];exact h2
  rw[this ?_ hm]
  ·rfl
  ·funext r;cases r<;>rfl
 ·by_cases h1:us.length=1
  ·obtain⟨u,rfl⟩:=List.length_eq_one_iff.1 h1;obtain⟨v,rfl⟩:=List.length_eq_one_iff.1 (by rw[e2];exact h1);exact e3 0 v u rfl rfl
  ·have hone:one vs=.tup vs:=by
    cases vs with
    |nil=>rfl
    |cons v vs=>cases vs with
     |nil=>simp at e2;omega
     |cons v2 vs=>rfl
   rw[hone,dif_neg (by simpa using h1)];exact .tup _ _ (by simpa using e2) (λi e u hi hu=>e3 i e u hi (by simpa using hu))
theorem vU:∀(n:Nat){i:Nat}{bs:List (Option Blk)}{h':Heap},(lZ n i).run h=some (bs,h')->h'=h/\bs.length=n/\∀(k:Nat)(b:Option Blk),bs[k]?=some b->h.get (.a (i+k))=some ⟨0,b⟩
 |0,i,bs,h',hv=>by
  obtain⟨rfl,rfl⟩:=HM.run_ret_some hv;exact⟨rfl,rfl,λk b hk=>by simp at hk⟩
 | n+1,i,bs,h',hv=>by
  simp only[lZ,HM.run]at hv;cases hg:h.get (.a i)with
  |none=>rw[hg]at hv;cases hv
  | some e=>
   rw[hg]at hv;simp only at hv;obtain⟨ys,h1,hy,hv2⟩:=HM.run_bind_some hv;obtain⟨rfl,rfl⟩:=HM.run_ret_some hv2;obtain⟨rfl,l1,f1⟩:=vU n hy;refine⟨rfl,by simp[l1],λk b hk=>?_⟩;cases k with
   |zero=>
    simp only[Pg,O5]at hk;subst hk;have:=Heap.ver_a hg;rw[Qp,hg];cases e;simp only at this;subst this;rfl
   |succ k=>rw[show i+(k+1)=i+1+k by omega];exact f1 k b (by simpa using hk)
theorem ef:∀(n:Nat){todo:List (aq×Nat)}{acc bor:List (aq×Nat×Blk)}{h h':Heap},(cY n todo acc).run h=some (bor,h')->sM h acc->acc.Pairwise (λx y=>x.1≠y.1)->(∀x∈acc,∃s,x.1=.l s)->
  h'=h/\sM h bor/\bor.Pairwise (λx y=>x.1≠y.1)/\∀x∈bor,∃s,x.1=.l s
 |0,todo,acc,bor,h,h',hv,_,_,_=>by simp[cY,HM.run]at hv
 |n+1,[],acc,bor,h,h',hv,hL,hP,hS=>by
  simp only[cY]at hv;obtain⟨rfl,rfl⟩:=HM.run_ret_some hv;exact⟨rfl,hL,hP,hS⟩
 |n+1,(.a i,v)::rest,acc,bor,h,h',hv,hL,hP,hS=>by
  simp only[cY]at hv;exact ef n hv hL hP hS
 |n+1,(.dead,v)::rest,acc,bor,h,h',hv,hL,hP,hS=>by
  simp only[cY]at hv;exact ef n hv hL hP hS
 | n+1,(.l s,v)::rest,acc,bor,h,h',hv,hL,hP,hS=>by
  simp only[cY]at hv;split at hv
  ·exact ef n hv hL hP hS
  rename_i hany;simp only[HM.run]at hv;cases hg:h.get (.l s)with
  |none=>rw[hg]at hv;cases hv
  | some e=>
   rw[hg]at hv;simp only at hv;cases hb:e.blk with
   |none=>rw[hb]at hv;exact ef n hv hL hP hS
   | some b=>
    rw[hb]at hv;simp only at hv;split at hv
    ·rename_i hev;have hg':h.get (.l s)=some ⟨v,some b⟩:=by rw[hg,<-hev,<-hb]
     refine ef n hv (λx hx=>?_) ?_ (λx hx=>?_)
     ·rcases List.mem_append.1 hx with z|z
      ·exact hL x z
      ·simp only[Px]at z;subst z;exact hg'
     ·rw[List.pairwise_append];refine⟨hP,List.pairwise_singleton ..,λx hx y hy=>?_⟩;simp only[Px]at hy;subst hy;intro he;apply hany;rw[List.any_eq_true];refine⟨x,hx,?_⟩;have h1:=hL x hx;simp only at he;rw[he,hg']at h1;simp only[O5,fg.mk.injEq]at h1;simp[he,h1.1]
     ·rcases List.mem_append.1 hx with z|z
      ·exact hS x z
      ·simp only[Px]at z;subst z;exact⟨s,rfl⟩
    ·exact ef n hv hL hP hS
def oz(M:Mp)(m:Nat)(new:List (aq×Nat×Blk)):Mp:=
 ⟨M.rd,λr v=>match r with
  |.a i=>if i<m/\v=0 then M.io (.a i) 0 else none
  |.l k=>if v=0 then(match new[k]? with|some x=>M.io x.1 x.2.1|none=>none)else none
  |.dead=>none,λr=>match r with|.a i=>M.cv (.a i)|_=>0⟩
def eH(new:List (aq×Nat×Blk)):aq->Nat->Option (aq×Nat):=λq v=>match q with
 |.a i=>some (.a i,v)
 |.dead=>none
 |.l _=>match fV q v new 0 with|some k=>some (.l k,0)|none=>none
theorem gQ{m:Nat}{new:List (aq×Nat×Blk)}{r:aq}{v:Nat}{loc:C3}(hl:(oz M m new).io r v=some loc):
  v=0/\((∃i,r=.a i/\i<m/\M.io (.a i) 0=some loc)∨∃k x,r=.l k/\new[k]?=some x/\M.io x.1 x.2.1=some loc):=by
 cases r with
 |a i=>
  simp only[oz]at hl;split at hl
  ·rename_i hc;exact⟨hc.2,.inl ⟨i,rfl,hc.1,hl⟩⟩
  ·cases hl
 | l k=>
  simp only[oz]at hl;split at hl
  ·rename_i hv;split at hl
   ·rename_i x hx;exact⟨hv,.inr ⟨k,x,rfl,hx,hl⟩⟩
   ·cases hl
  ·cases hl
 |dead=>simp[oz]at hl
theorem uv{m:Nat}{new:List (aq×Nat×Blk)}:xw M (oz M m new) (eH new) where
 rd:=.refl _
 some r v r' v' hv hf:=by
  cases r with
  |a i=>
   simp only[eH,O5,Pq]at hf;obtain⟨rfl,rfl⟩:=hf;refine⟨hv,λloc hl=>?_⟩;obtain⟨rfl,⟨j,e,_,h⟩|⟨k,x,e,_⟩⟩:=gQ hl
   ·cases e;exact h
   ·cases e
  |l s=>
   simp only[eH]at hf;split at hf
   case h_2=>cases hf
   rename_i k hk;simp only[O5,Pq]at hf;obtain⟨rfl,rfl⟩:=hf;refine⟨Qf _,λloc hl=>?_⟩;obtain⟨j,b,e,hj⟩:=dN hk;have:k=j:=by omega
   subst this;obtain⟨_,⟨i,e,_⟩|⟨k',x,e,hx,h⟩⟩:=gQ hl
   ·cases e
   ·cases e;rw[hj]at hx;cases hx;exact h
  |dead=>simp[eH]at hf
 dead:=rfl
theorem CK{m:Nat}{new:List (aq×Nat×Blk)}{b:Nat}(ho:own (oz M m new) b):own M b:=by
 obtain⟨r,v,loc,hl,rfl⟩:=ho;obtain⟨_,⟨i,_,_,h⟩|⟨k,x,_,_,h⟩⟩:=gQ hl<;>exact dx h
theorem Gs{m:Nat}{new:List (aq×Nat×Blk)}{bs:List (Option Blk)}(H:HR ah M h w)(hbl:bs.length=m)(hbs:∀(k:Nat)(b:Option Blk),bs[k]?=some b->h.get (.a k)=some ⟨0,b⟩)
  (hL:sM h new)(hP:new.Pairwise (λx y=>x.1≠y.1))(hS:∀x∈new,∃s,x.1=.l s):
  HR ah (oz M m new) ⟨bs.map (Option.map (Blk.ren (eH new))),new.map λx=>⟨0,some (x.2.2.ren (eH new))⟩⟩ w:=by
 have hget:∀(r:aq)(e:fg),(⟨bs.map (Option.map (Blk.ren (eH new))),new.map λx=>⟨0,some (x.2.2.ren (eH new))⟩⟩:Heap).get r=some e->
   e.ver=0/\((∃i b,r=.a i/\bs[i]?=some b/\e=⟨0,b.map (Blk.ren (eH new))⟩)∨∃k x,r=.l k/\new[k]?=some x/\e=⟨0,some (x.2.2.ren (eH new))⟩):=by
  intro r e he;cases r with
  |a i=>
   simp only[Heap.get,Pk]at he;cases hx:bs[i]? with
   |none=>rw[hx]at he;cases he
   |some x=>rw[hx]at he;simp only[Py,O5]at he;subst he;exact⟨rfl,.inl ⟨i,x,rfl,hx,rfl⟩⟩
  |l k=>
   simp only[Heap.get,Pk]at he;cases hx:new[k]? with
   |none=>rw[hx]at he;cases he
   |some x=>rw[hx]at he;simp only[Py,O5]at he;subst he;exact⟨rfl,.inr ⟨k,x,rfl,hx,rfl⟩⟩
  |dead=>simp[Heap.get]at he
 refine⟨?_,?_,?_,?_,?_,?_,H.rd⟩
 ·intro r e he;obtain⟨h0,h2⟩:=hget r e he;rcases h2 with⟨i,b,rfl,hb,rfl⟩|⟨k,x,rfl,hx,rfl⟩
  ·have:=H.cv _ _ (hbs i b hb);exact this
  ·rfl
 ·intro r e v he hn;cases hl:(oz M m new).io r v with
  |none=>exact absurd hl hn
  | some loc=>
   obtain⟨rfl,h1⟩:=gQ hl;obtain⟨h0,h2⟩:=hget r e he;refine⟨h0.symm,?_⟩;rcases h2 with⟨i,b,rfl,hb,rfl⟩|⟨k,x,rfl,hx,rfl⟩
   ·rcases h1 with⟨j,e,_,h1⟩|⟨j,y,e,_⟩
    ·cases e;have:=(H.dom _ _ 0 (hbs i b hb) (by rw[h1];simp)).2;cases b with
     |none=>exact absurd rfl this
     |some b=>simp
    ·cases e
   ·simp
 ·intro r e he hb;obtain⟨h0,h2⟩:=hget r e he;rcases h2 with⟨i,b,rfl,hbi,rfl⟩|⟨k,x,rfl,hx,rfl⟩
  ·cases b with
   |none=>exact absurd rfl hb
   |some b=>
    have:=H.has _ _ (hbs i _ hbi) (by simp);have hi:i<m:=by rw[<-hbl];exact getElem?_lt hbi
    show(if i<m/\(0:Nat)=0 then M.io (.a i) 0 else none)≠none;rw[O9 ⟨hi,rfl⟩];exact this
  ·have:=H.has _ _ (hL x (Pl hx)) (by simp);have:(oz M m new).io (.l k) 0=M.io x.1 x.2.1:=by simp[oz,hx]
   show(oz M m new).io (.l k) 0≠none;rw[this];assumption
 ·intro r v he;cases hl:(oz M m new).io r v with
  |none=>rfl
  | some loc=>
   obtain⟨_,⟨i,rfl,hi,_⟩|⟨k,x,rfl,hx,_⟩⟩:=gQ hl
   ·have:bs[i]?=some bs[i]:=Pa (by omega);simp[Heap.get,Pk,this]at he
   ·simp[Heap.get,Pk,hx]at he
 ·intro r e b loc he hb hl;obtain⟨h0,h2⟩:=hget r e he;obtain⟨_,h1⟩:=gQ hl;rcases h2 with⟨i,b',rfl,hbi,rfl⟩|⟨k,x,rfl,hx,rfl⟩
  ·rcases h1 with⟨j,e,_,h1⟩|⟨j,y,e,_⟩
   ·cases e;cases b' with
    |none=>cases hb
    |some b'=>
     simp only[Py,O5]at hb;subst hb;obtain⟨c,t,lo,hi,B⟩:=H.blk _ _ _ loc (hbs i _ hbi) rfl h1;exact⟨c,t,lo,hi,B.ren uv (λq=>B.rw_ q)⟩
   ·cases e
  ·rcases h1 with⟨j,e,_,h1⟩|⟨j,y,e,hy,h1⟩
   ·cases e
   ·cases e;rw[hx]at hy;cases hy;simp only[O5]at hb;subst hb;obtain⟨c,t,lo,hi,B⟩:=H.blk _ _ _ loc (hL x (Pl hx)) rfl h1;exact⟨c,t,lo,hi,B.ren uv (λq=>B.rw_ q)⟩
 ·intro r v loc r' v' loc' h1 h2 hb;obtain⟨_,a1⟩:=gQ h1;obtain⟨_,a2⟩:=gQ h2;rcases a1 with⟨i,rfl,_,a1⟩|⟨k,x,rfl,hx,a1⟩
  ·rcases a2 with⟨j,rfl,_,a2⟩|⟨j,y,rfl,hy,a2⟩
   ·exact H.inj _ _ _ _ _ _ a1 a2 hb
   ·have:=H.inj _ _ _ _ _ _ a1 a2 hb;obtain⟨s,hs⟩:=hS y (Pl hy);rw[hs]at this;cases this
  ·rcases a2 with⟨j,rfl,_,a2⟩|⟨j,y,rfl,hy,a2⟩
   ·have:=H.inj _ _ _ _ _ _ a1 a2 hb;obtain⟨s,hs⟩:=hS x (Pl hx);rw[hs]at this;cases this
   ·have:=H.inj _ _ _ _ _ _ a1 a2 hb;rw[dV hP hx hy this]
theorem Eo{F:am}{fn:Func}{m:Nat}{M0:Mp}{w0:World}{r:PV}{G:List (Option Blk)}{h':Heap}(hc:i4 P F.res fn.results.toList=true)(hv:(nG F m σ.fr).run σ.h=some ((r,G),h'))(S:tW ah M σ a w)
  (S0:Stp M0 w0 M w):
  ∃c M',(results fn a.tmps).run P w=.ok c w/\StpI M0 w0 M' w/\HR ah M' ⟨G.take m,(G.drop m).map λb=>⟨0,b⟩⟩ w/\VR ah M' r c/\∀i,M'.io (.a i) 0=M0.io (.a i) 0∨M'.io (.a i) 0=none:=by
 unfold nG at hv;obtain⟨vs,h1,hr,hv1⟩:=HM.run_bind_some hv;obtain⟨rv,h2,hfz,hv2⟩:=HM.run_bind_some hv1;obtain⟨bs,h3,hab,hv3⟩:=HM.run_bind_some hv2;obtain⟨new,h4,hcl,hv4⟩:=HM.run_bind_some hv3;obtain⟨hx,rfl⟩:=HM.run_ret_some hv4;clear hv hv1 hv2 hv3 hv4;obtain⟨rfl,c,hres,V⟩:=Bs hc hr S.h S.f;have hfz':∃M2,Stp M w M2 w/\HR ah M2 h2 w/\VR ah M2 rv c:=by
  cases hf:F.frz with
  |true=>
   rw[hf]at hfz;obtain⟨M2,S2,H2,F2⟩:=iY 9 hfz S.h V;exact⟨M2,S2,H2,.fr F2⟩
  |false=>
   rw[hf]at hfz;obtain⟨rfl,rfl⟩:=HM.run_ret_some hfz;exact⟨M,.refl _ _,S.h,V⟩
 obtain⟨M2,S2,H2,V2⟩:=hfz';obtain⟨rfl,l1,f1⟩:=vU m hab;obtain⟨rfl,L1,P1,Q1⟩:=ef 99 hcl (λx hx=>by simp at hx) .nil (λx hx=>by simp at hx);have hcv:∀i,(oz M2 m new).io (.a i) 0=M2.io (.a i) 0∨(oz M2 m new).io (.a i) 0=none:=by
  intro i;show(if i<m/\(0:Nat)=0 then M2.io (.a i) 0 else none)=_∨_;by_cases hi:i<m
  ·left;rw[O9 ⟨hi,rfl⟩]
  ·right;show(if i<m/\(0:Nat)=0 then M2.io (.a i) 0 else none)=none;rw[Pd (λq=>hi q.1)]
 have key:∃M',StpI M0 w0 M' w/\HR ah M' ⟨G.take m,(G.drop m).map λb=>⟨0,b⟩⟩ w/\VR ah M' r c/\∀i,M'.io (.a i) 0=M0.io (.a i) 0∨M'.io (.a i) 0=none:=by
  have hG:G=bs.map (Option.map (Blk.ren (eH new)))++new.map λx=>some (x.2.2.ren (eH new)):=by
   have:=congrArg Prod.snd hx;simp only at this;rw[<-this];congr 1;apply List.map_congr_left;intro b _;cases b<;>rfl
  have hrr:r=ren (eH new) rv:=(congrArg Prod.fst hx).symm;have e1:G.take m=bs.map (Option.map (Blk.ren (eH new))):=by rw[hG,List.take_left' (by simpa using l1)]
  have e2:(G.drop m).map (λb=>(⟨0,b⟩:fg))=new.map λx=>⟨0,some (x.2.2.ren (eH new))⟩:=by
   rw[hG,List.drop_left' (by simpa using l1),List.map_map];rfl
  have St:=S0.trans S2;have H3:=Gs (m:=m) (bs:=bs) H2 l1 (λk b hk=>by have:=f1 k b hk;simpa using this) L1 P1 Q1;refine⟨oz M2 m new,⟨St.rd,St.os,St.tape,St.output,St.size,St.frame,λb hb=>St.own b (CK hb),St.rdn⟩,by rw[e1,e2];exact H3,by rw[hrr];exact V2.ren uv,λi=>?_⟩;rcases hcv i with z|z
  ·rw[z];exact St.le.io (.a i) 0 (Qf _)
  ·exact .inr z
 obtain⟨M',k1,k2,k3,k4⟩:=key;exact⟨c,M',hres,k1,k2,k3,k4⟩
end
def bt(P:Program)(ah:Nat->FuncId):Code->eZ->Bool
 |c,.adj _ x=>bt P ah c x
 |c,.post x _=>bt P ah c x
 |.skip,.skip=>true
 |.region _ ops false,.reg ios false=>ek P ah ops ops.toList ios
 |.region _ ops true,.reg ios true=>ug P ah ops ios
 |.seq a b,.seq x y=>bt P ah a x&&bt P ah b y
 |.cond c a b,.cond d x y=>bz ah d c&&bt P ah a x&&bt P ah b y
 |.block i a,.block j x=>i==j&&bt P ah a x
 |.loop a,.loop x=>bt P ah a x
 |.exit i,.exit j=>i==j
 |.ret,.ret=>true
 |_,_=>false
def nr(P:Program)(ah:Nat->FuncId)(f:Nat)(F:am):Bool:=
 match P.funcs[ah f]? with
 |some fn=>(match fn.body with|some c=>bt P ah c F.body|none=>false)&&i4 P F.res fn.results.toList&&fn.ntmps==F.ntmps&& !(fn.name=="runtime.NumGoroutine")
 |none=>false
def EU:Ex->Exit
 |.norm=>.normal
 |.exit i=>.exit i
 |.ret=>.ret
section
variable{ah:Nat->FuncId}{M:Mp}{w:World}{h:Heap}
theorem FC{s:Nat}{x x':PV}{h':Heap}{u:Value}(hv:(o7 s x).run h=some (x',h'))(H:HR ah M h w)(hx:VR ah M x u):∃M',Stp M w M' w/\HR ah M' h' w/\VR ah M' x' u:=by
 unfold o7 at hv;split at hv
 ·rename_i s' ver sz off len room c0;obtain⟨b,h1,hb,hv2⟩:=HM.run_bind_some hv;obtain⟨rfl,hg⟩:=bh hb;obtain⟨_,_,hv3⟩:=bA hv2;obtain⟨v,h2,hn,hv4⟩:=HM.run_bind_some hv3;obtain⟨rfl,rfl⟩:=HM.run_ret_some hv4;obtain⟨e,he,rfl,rfl⟩:=jG hn;obtain⟨loc,c,t,lo,hi,hl,B⟩:=H.live hg;obtain⟨H1,S1,io1,self1⟩:=H.drop hg;obtain⟨H2,le2,l2,cv2,io2,all2⟩:=H1.take he (loc:=loc) (b:=b) (λr v loc' hr h3 e1=>by
   by_cases hq:r=.l s'
   ·subst hq;rw[self1]at h3;cases h3
   ·rw[io1 r hq]at h3;exact hq (H.inj _ _ _ _ _ _ h3 hl e1)) (λM' le hrd=>⟨c,t,lo,hi,⟨B.heap,B.sz,B.size,B.free,B.lohi,B.fits,λq=>by rw[hrd];exact B.ro q,λq=>by rw[hrd];exact B.rw_ q,(B.cells.mono S1.le).mono le⟩⟩)
  obtain⟨a,cap,rfl,g1,g2,g3,g4,g5⟩:=hx.tok_inv;refine⟨(M.at (.l s') ver none M.rd).at (.l s) (e.ver+1) (some loc) M.rd,⟨⟨.refl _,rfl,rfl,rfl,Pf _,λ_ _ _=>rfl,λk hk=>?_,λk hk=>.inl hk⟩,S1.le.trans le2⟩,H2,.tok _ _ _ _ _ _ _ a cap cv2 g2 g3 g4 (λloc' hl'=>?_)⟩
  ·obtain⟨r,v,l3,h3,rfl⟩:=hk;by_cases hr:r=.l s
   ·subst hr;rw[all2 _ _ h3];exact .inl (dx hl)
   ·have h4:=(congrFun (io2 r hr) v).symm.trans h3;by_cases hq:r=.l s'
    ·subst hq;have:=(self1 v).symm.trans h4;cases this
    ·exact .inl (dx ((congrFun (io1 r hq) v).symm.trans h4))
  ·rw[all2 _ _ hl'];exact g5 loc hl
 ·obtain⟨rfl,rfl⟩:=HM.run_ret_some hv;exact⟨M,.refl _ _,H,hx⟩
theorem CA{o:Option Nat}{x x':PV}{h':Heap}{u:Value}(hv:(Fx o x).run h=some (x',h'))(H:HR ah M h w)(hx:VR ah M x u):∃M',Stp M w M' w/\HR ah M' h' w/\VR ah M' x' u:=by
 cases o with
 |some s=>exact FC hv H hx
 |none=>obtain⟨M',S,H',F⟩:=iY 9 hv H hx;exact⟨M',S,H',.fr F⟩
theorem Bm{x:PV}{j:Nat}{o:Option Nat}{q:PV}{h':Heap}(hv:(uh x j o).run h=some (q,h'))(H:HR ah M h w):∃M',Stp M w M' w/\HR ah M' h' w:=by
 unfold uh at hv;split at hv
 case h_2=>simp[HM.run]at hv
 rename_i r v;obtain⟨b,h1,hb,hv⟩:=HM.run_bind_some hv;obtain⟨rfl,hg⟩:=bh hb;split at hv
 case h_2=>simp[HM.run]at hv
 rename_i e he;split at hv
 case h_2=>simp[HM.run]at hv
 rename_i y hy;obtain⟨y',h2,hc,hv⟩:=HM.run_bind_some hv;simp only[fK]at hv;obtain⟨b',h3,hb',hv⟩:=HM.run_bind_some hv;obtain⟨rfl,hg'⟩:=bh hb';split at hv
 case h_2=>simp[HM.run]at hv
 rename_i e' he';split at hv
 case isFalse=>simp[HM.run]at hv
 rename_i hro;obtain⟨hfit,hok,hle,hro⟩:=hro;obtain⟨_,_,hv⟩:=bA hv;obtain⟨_,rfl⟩:=HM.run_ret_some hv;have hyc:y'.cells=[y']:=by cases y'<;>first|rfl|simp[PV.fits]at hfit
 rw[hyc]at hok hle⊢;obtain⟨loc,c,t,lo,hi,hl,B⟩:=H.live hg;obtain⟨_,u,hu,hyu⟩:=(B.cells 0 e he).2 j y hy;obtain⟨M',S,H',V⟩:=CA hc H hyu;obtain⟨loc',c',t',lo',hi',hl',B'⟩:=H'.live hg';have hloc:loc'=loc:=by
  rcases S.le.io r v (by rw[H.cv _ _ hg];exact Pf _)with z|z
  ·rw[z,hl]at hl';cases hl';rfl
  ·rw[z]at hl';cases hl'
 subst hloc;have hcc:c'=c:=by have:=B'.heap;rw[B.heap]at this;cases this;rfl
 subst hcc;have hsz:b'.sz=b.sz:=by rw[<-B.sz,<-B'.sz]
 obtain⟨q1,q2⟩:=B'.cells 0 e' he';refine⟨M',S,H'.upd hg' (λi hi=>by subst hi;have:=Heap.ver_a hg';exact this) (.refl _) (λ_ _=>rfl) (λ_ _=>rfl) (by have:=H'.cv _ _ hg';exact this) (λu hu=>⟨(H'.dom _ _ u hg' hu).1,by simp⟩) (λ_=>by have:=H'.has _ _ hg' (by simp);exact this) (λb1 l1 hb1 hl1=>?_)
  (λu l1 r2 v2 l2 hr h4 h5 h6=>hr (H'.inj _ _ _ _ _ _ h5 h4 h6.symm)) (λ_ _ _ _ _=>⟨rfl,rfl⟩) H'.rd⟩
 simp only[O5]at hb1;subst hb1;rw[hl']at hl1;cases hl1;simp only[List.length_singleton]at hle;have hcell:y'.isCell=true:=by simpa[aj]using hok
 have hcells:(e'.withCells (e'.cells.take j++[y']++e'.cells.drop (j+[y'].length))).cells=e'.cells.take j++[y']++e'.cells.drop (j+1):=by
  cases e'<;>simp only[PV.withCells,PV.cells,List.length_singleton]<;>first|rfl|(
   simp only[PV.cells,List.length_singleton]at hle;obtain rfl:j=0:=by omega
   simp only[List.take_zero,Pi,PZ,List.drop_succ_cons,Rf,PB,List.headD_cons,Qu];cases y'<;>first|rfl|(simp[PV.isCell]at hcell))
 refine⟨_,t',lo',hi',⟨B'.heap,B'.sz,B'.size,B'.free,B'.lohi,by rw[Rk];exact B'.fits,(λq=>by cases q),λ_=>B'.rw_ hro,λi e2 hi2=>?_⟩⟩;rw[List.getElem?_set]at hi2;split at hi2
 case isFalse=>exact B'.cells i e2 hi2
 rename_i hi0;subst hi0;split at hi2
 case isFalse=>cases hi2
 simp only[O5]at hi2;subst hi2;rw[hcells];refine⟨by simp only[Pu,Pw,List.length_singleton,P7];rw[q1]at hle⊢;omega,λk z hz=>?_⟩;rw[P6]at hz;rcases Nat.lt_trichotomy k j with hk|rfl|hk
 ·rw[Pz (by rw[Pw];omega),PN,O9 hk]at hz;exact q2 k z hz
 ·rw[Pp (by rw[Pw];omega),Pw,Nat.min_eq_left (by omega),Nat.sub_self]at hz;simp only[Qu,Pg,O5]at hz;subst hz;exact⟨hcell,u,by simpa[hsz]using hu,V⟩
 ·rw[Pp (by rw[Pw];omega),Pw,Nat.min_eq_left (by omega)]at hz;obtain⟨d,rfl⟩:∃d,k=j+(d+1):=⟨k-j-1,by omega⟩;rw[show j+(d+1)-j=d+1 by omega]at hz;simp only[Qu,Pi,Qc,PP]at hz;exact q2 _ z (by rw[<-hz];congr 1;omega)
theorem HN{fr fr':List PV}{a:Adj}{h':Heap}{tmps:Array Value}(hv:(BW fr a).run h=some (fr',h'))(H:HR ah M h w)(F:FrR ah M fr tmps):∃M',Stp M w M' w/\HR ah M' h' w/\FrR ah M' fr' tmps:=by
 cases a with
 |cell t j o=>
  obtain⟨_,h1,hc,hv⟩:=HM.run_bind_some hv;obtain⟨rfl,rfl⟩:=HM.run_ret_some hv;obtain⟨M',S,H'⟩:=Bm hc H;exact⟨M',S,H',F.mono S.le⟩
 |tmp t o=>
  obtain⟨v,h1,hc,hv⟩:=HM.run_bind_some hv;obtain⟨rfl,rfl⟩:=HM.run_ret_some hv;obtain⟨M',S,H',V⟩:=CA hc H (F.at_ t);refine⟨M',S,H',by rw[nw];exact F.len,λt'=>?_⟩;rw[pm];split
  ·rename_i ht;rw[ht.1];exact V
  ·exact(F.at_ t').mono S.le
theorem y8:∀{js:List Adj}{fr fr':List PV}{M:Mp}{h h':Heap}{tmps:Array Value},(DZ js fr).run h=some (fr',h')->HR ah M h w->FrR ah M fr tmps->∃M',Stp M w M' w/\HR ah M' h' w/\FrR ah M' fr' tmps
 |[],fr,fr',M,h,h',tmps,hv,H,F=>by
  obtain⟨rfl,rfl⟩:=HM.run_ret_some hv;exact⟨M,.refl _ _,H,F⟩
 |a::js,fr,fr',M,h,h',tmps,hv,H,F=>by
  obtain⟨fr1,h1,h2,hv⟩:=HM.run_bind_some hv;obtain⟨M1,S1,H1,F1⟩:=HN h2 H F;obtain⟨M2,S2,H2,F2⟩:=y8 hv H1 F1;exact⟨M2,S1.trans S2,H2,F2⟩
end
structure TabOk (P:Program) (ah:Nat->FuncId) (FT:Nat->Option am):Prop where
 walk:∀f F,FT f=some F->F.intr=none->nr P ah f F=true
 intr:∀f F g,FT f=some F->F.intr=some g->iX P ah (λk args G=>if k=f then g args G else none)/\nT P (ah f)
 mixed:P.follows .mixedOrders=true
section
variable{ah:Nat->FuncId}{P:Program}{FT:Nat->Option am}
theorem p4{f:Nat}{F:am}(h:nr P ah f F=true):nT P (ah f):=by
 unfold nr at h;split at h
 case h_2=>cases h
 rename_i fn hf;simp only[O6,PC]at h;obtain⟨⟨⟨h1,h2⟩,h3⟩,h4⟩:=h;split at h1
 case h_2=>cases h1
 rename_i c hb;exact⟨fn,c,hf,h4,hb⟩
theorem xY(hT:TabOk P ah FT):∀(n:Nat)(f:Nat)(args:List PV)(G:List Blk)(r:PV×List (Option Blk)),bf FT n f args G=some r->nT P (ah f)
 |0,f,args,G,r,h=>by simp[bf]at h
 | n+1,f,args,G,r,h=>by
  simp only[bf]at h;cases hF:FT f with
  |none=>rw[hF]at h;cases h
  |some F=>
   cases hi:F.intr with
   |none=>exact p4 (hT.walk f F hF hi)
   |some g=>exact(hT.intr f F g hF hi).2
theorem vk{l:List PV}{k t:Nat}:lG (l++List.replicate k .junk) t=if t<l.length then lG l t else .junk:=by
 by_cases ht:t<l.length
 ·rw[O9 ht];have h1:(l++List.replicate k PV.junk)[t]?=some l[t]:=by rw[Pz ht];exact Pa ht
  rw[pM h1,pM (Pa ht)]
 ·rw[Pd ht];by_cases h2:t<(l++List.replicate k PV.junk).length
  ·have h1:(l++List.replicate k PV.junk)[t]?=some .junk:=by
    rw[Pp (by omega),Qd,O9 (by simp at h2;omega)]
   exact pM h1
  ·exact vV (by omega)
theorem sound(hT:TabOk P ah FT):∀(n:Nat),
  (∀(c:Code)(ic:eZ)(σ σ':St)(ex:Ex)(M:Mp)(a:Act)(w:World)(Q:Exit->Act->World->Prop),bt P ah c ic=true->bF FT n ic σ=some (ex,σ')->tW ah M σ a w->
   (∀a' w' M',Stp M w M' w'->tW ah M' σ' a' w'->Q (EU ex) a' w')->c.wp P Q a w)/\
  (∀(c:Code)(ic:eZ)(σ σ':St)(ex:Ex)(M:Mp)(a:Act)(w:World)(Q:Exit->Act->World->Prop),bt P ah c ic=true->bF FT n (.loop ic) σ=some (ex,σ')->tW ah M σ a w->
   (∀a' w' M',Stp M w M' w'->tW ah M' σ' a' w'->Q (EU ex) a' w')->Code.rounds P c Q n a w)/\
  iX P ah (bf FT n):=by
 intro n;induction n with
 |zero=>
  refine⟨λc ic σ σ' ex M a w Q hc hx=>by simp[bF]at hx,λc ic σ σ' ex M a w Q hc hx=>by simp[bF]at hx,λf args G0 r G M w cargs hx=>by simp[bf]at hx⟩
 | succ n ih=>
  obtain⟨ihA,ihB,ihC⟩:=ih;have hE:=xY (ah:=ah) (P:=P) hT n;refine⟨?_,?_,?_⟩
  ·intro c ic σ σ' ex M a w Q hc hx S hQ;cases ic with
   |skip=>
    simp only[bF,O5,Pq]at hx;obtain⟨rfl,rfl⟩:=hx;cases c<;>first|(simp[bt]at hc;done)|skip
    exact wp_skip (hQ a w M (.refl _ _) S)
   | reg ios d=>
    cases d with
    | false=>
     simp only[bF]at hx;split at hx
     case h_2=>cases hx
     rename_i σ1 hr;simp only[O5,Pq]at hx;obtain⟨rfl,rfl⟩:=hx;cases c<;>first|(simp[bt]at hc;done)|skip
     rename_i id ops dr;cases dr with
     |true=>simp[bt]at hc
     |false=>
      simp only[bt]at hc;exact wp_region_list (CL ihC hE hc hr S (λa' w' M' S1 S'=>hQ a' w' M' S1 S'))
    | true=>
     simp only[bF]at hx;split at hx
     case h_2=>cases hx
     rename_i σ1 hr;simp only[O5,Pq]at hx;obtain⟨rfl,rfl⟩:=hx;cases c<;>first|(simp[bt]at hc;done)|skip
     rename_i id ops dr;cases dr with
     |false=>simp[bt]at hc
     | true=>
      simp only[bt]at hc;have hcl:ek P ah ops ops.toList ios=true:=by
       have:=hc;unfold ug at this;simp only[O6]at this;exact this.1.1
      have hlen:=pb hcl;refine wp_region_any hT.mixed ?_;obtain⟨tr,hR,_⟩:=C6 (xs:=pV 0 ops.toList ios) (j:=0) (acc:=[]) (λk x hx=>(pK hx).1) (by rw[Ft 0 hlen];exact hr);have hfl:((pV 0 ops.toList ios).filter λx=> !(Array.replicate ops.size false).getD x.i true)=pV 0 ops.toList ios:=by
       rw[List.filter_eq_self];intro x hx;obtain⟨j,hj⟩:=List.mem_iff_getElem?.1 hx;obtain⟨h1,h2,_⟩:=pK hj;have hl:=getElem?_lt h2;have:x.i<ops.size:=by simp at hl;omega
       simp[Array.getD,this]
      refine Ii ihC hE hc ops.size (M:=M) (by simp) (by rw[hfl];exact hR) (by rw[hfl,ql 0 hlen];simp) (λx hx hl=>?_) ⟨HR.drew S.h,S.f,S.d⟩ (λa' w' M' S1 S'=>hQ a' w' M' (Stp.drew.trans S1) S');exfalso;obtain⟨j,hj⟩:=List.mem_iff_getElem?.1 hx;obtain⟨h1,h2,_⟩:=pK hj;have hll:=getElem?_lt h2;have:x.i<ops.size:=by simp at hll;omega
      simp[Array.getD,this]at hl
   | seq x y=>
    cases c<;>first|(simp[bt]at hc;done)|skip
    rename_i p q;simp only[bt,O6]at hc;simp only[bF]at hx;split at hx
    ·rename_i σ1 h1;refine wp_seq (ihA p x σ σ1 .norm M a w _ hc.1 h1 S (λa' w' M' S1 S'=>?_));exact ihA q y σ1 σ' ex M' a' w' Q hc.2 hx S' (λa2 w2 M2 S2 S2'=>hQ _ _ _ (S1.trans S2) S2')
    ·rename_i hnn;refine wp_seq (ihA p x σ σ' ex M a w _ hc.1 hx S (λa' w' M' S1 S'=>?_));have:=hQ a' w' M' S1 S';cases ex with
     |norm=>exact absurd hx (by intro e;exact hnn σ' e)
     |exit i=>exact this
     |ret=>exact this
   | cond d x y=>
    cases c<;>first|(simp[bt]at hc;done)|skip
    rename_i o p q;simp only[bt,O6]at hc;have hv:=aA hc.1.1 S.f;simp only[bF]at hx;split at hx
    ·rename_i hd;rw[hd]at hv;exact wp_cond (t:=true) hv.bool_inv (ihA p x σ σ' ex M a w Q hc.1.2 hx S hQ)
    ·rename_i hd;rw[hd]at hv;exact wp_cond (t:=false) hv.bool_inv (ihA q y σ σ' ex M a w Q hc.2 hx S hQ)
    ·cases hx
   | block id x=>
    cases c<;>first|(simp[bt]at hc;done)|skip
    rename_i id' p;simp only[bt,O6,PF]at hc;obtain⟨rfl,hc⟩:=hc;simp only[bF]at hx;refine wp_block ?_;split at hx
    ·rename_i i σ1 h1;refine ihA p x σ σ1 (.exit i) M a w _ hc h1 S (λa' w' M' S1 S'=>?_);show if i=id' then Q .normal a' w' else Q (.exit i) a' w';split at hx
     ·rename_i hi;simp only[O5,Pq]at hx;obtain⟨rfl,rfl⟩:=hx;rw[O9 hi];exact hQ a' w' M' S1 S'
     ·rename_i hi;simp only[O5,Pq]at hx;obtain⟨rfl,rfl⟩:=hx;rw[Pd hi];exact hQ a' w' M' S1 S'
    ·rename_i hnn;refine ihA p x σ σ' ex M a w _ hc hx S (λa' w' M' S1 S'=>?_);have:=hQ a' w' M' S1 S';cases ex with
     |norm=>exact this
     |exit i=>exact absurd hx (by intro e;exact hnn i σ' e)
     |ret=>exact this
   | loop x=>
    cases c<;>first|(simp[bt]at hc;done)|skip
    rename_i p;simp only[bt]at hc;refine wp_loop_rounds (n+1) ?_;simp only[bF]at hx;rw[rounds_succ];split at hx
    ·rename_i σ1 h1;refine ihA p x σ σ1 .norm M a w _ hc h1 S (λa' w' M' S1 S'=>?_);exact ihB p x σ1 σ' ex M' a' w' Q hc hx S' (λa2 w2 M2 S2 S2'=>hQ _ _ _ (S1.trans S2) S2')
    ·rename_i hnn;refine ihA p x σ σ' ex M a w _ hc hx S (λa' w' M' S1 S'=>?_);have:=hQ a' w' M' S1 S';cases ex with
     |norm=>exact absurd hx (by intro e;exact hnn σ' e)
     |exit i=>exact this
     |ret=>exact this
   |exit i=>
    simp only[bF,O5,Pq]at hx;obtain⟨rfl,rfl⟩:=hx;cases c<;>first|(simp[bt]at hc;done)|skip
    simp only[bt,PF]at hc;subst hc;exact wp_exit (hQ a w M (.refl _ _) S)
   |ret=>
    simp only[bF,O5,Pq]at hx;obtain⟨rfl,rfl⟩:=hx;cases c<;>first|(simp[bt]at hc;done)|skip
    exact wp_ret (hQ a w M (.refl _ _) S)
   | post x js=>
    simp only[bF]at hx;have hc':bt P ah c x=true:=by simpa only[bt]using hc
    split at hx
    ·rename_i σ1 h1;split at hx
     case h_2=>cases hx
     rename_i fr1 h2 hj;simp only[O5,Pq]at hx;obtain⟨rfl,rfl⟩:=hx;refine ihA c x σ σ1 .norm M a w Q hc' h1 S (λa' w' M' S1 S1'=>?_);obtain⟨M2,S2,H2,F2⟩:=y8 hj S1'.h S1'.f;exact hQ a' w' M2 (S1.trans S2) ⟨H2,F2,S1'.d⟩
    ·exact ihA c x σ σ' ex M a w Q hc' hx S hQ
   |adj js x=>
    simp only[bF]at hx;split at hx
    case h_2=>cases hx
    rename_i fr1 h1 hj;obtain⟨M1,S1,H1,F1⟩:=y8 hj S.h S.f;have hc':bt P ah c x=true:=by simpa only[bt]using hc
    exact ihA c x ⟨fr1,h1⟩ σ' ex M1 a w Q hc' hx ⟨H1,F1,S.d⟩ (λa' w' M' S2 S2'=>hQ a' w' M' (S1.trans S2) S2')
  ·intro c ic σ σ' ex M a w Q hc hx S hQ;simp only[bF]at hx;rw[rounds_succ];split at hx
   ·rename_i σ1 h1;refine ihA c ic σ σ1 .norm M a w _ hc h1 S (λa' w' M' S1 S'=>?_);exact ihB c ic σ1 σ' ex M' a' w' Q hc hx S' (λa2 w2 M2 S2 S2'=>hQ _ _ _ (S1.trans S2) S2')
   ·rename_i hnn;refine ihA c ic σ σ' ex M a w _ hc hx S (λa' w' M' S1 S'=>?_);have:=hQ a' w' M' S1 S';cases ex with
    |norm=>exact absurd hx (by intro e;exact hnn σ' e)
    |exit i=>exact this
    |ret=>exact this
  ·intro f args G0 r G M w cargs hx H hcv hl ha;simp only[bf]at hx;cases hF:FT f with
   |none=>rw[hF]at hx;cases hx
   | some F=>
    rw[hF]at hx;simp only at hx;cases hi:F.intr with
    |some g=>
     rw[hi]at hx;simp only at hx;exact(hT.intr f F g hF hi).1 f args G0 r G M w cargs (by simp[hx]) H hcv hl ha
    | none=>
     rw[hi]at hx;simp only at hx;have hcf:=hT.walk f F hF hi;unfold nr at hcf;split at hcf
     case h_2=>cases hcf
     rename_i fn hfn;simp only[O6,PC,PF]at hcf;obtain⟨⟨⟨h1,h2⟩,h3⟩,h4⟩:=hcf;split at h1
     case h_2=>cases h1
     rename_i c hb;have hfin:∃ex σ' h',bF FT n F.body ⟨args++List.replicate (F.ntmps-args.length) .junk,⟨G0.map some,List.replicate F.nslots ⟨0,none⟩⟩⟩=some (ex,σ')/\(ex=.norm∨ex=.ret)/\(nG F G0.length σ'.fr).run σ'.h=some ((r,G),h'):=by
      split at hx
      ·rename_i σ' he;split at hx
       ·rename_i x h' hf;simp only[O5]at hx;exact⟨.norm,σ',h',he,.inl rfl,by rw[hf,hx]⟩
       ·cases hx
      ·rename_i σ' he;split at hx
       ·rename_i x h' hf;simp only[O5]at hx;exact⟨.ret,σ',h',he,.inr rfl,by rw[hf,hx]⟩
       ·cases hx
      ·cases hx
     obtain⟨ex,σ',h',he,hex,hf⟩:=hfin;refine calls_of_wp hfn hb ?_;have S0:tW ah M ⟨args++List.replicate (F.ntmps-args.length) .junk,⟨G0.map some,List.replicate F.nslots ⟨0,none⟩⟩⟩ {tmps:=cargs++Array.replicate (fn.ntmps-cargs.size) undef,defers:=[]} w:=by
      refine⟨?_,⟨?_,λt=>?_⟩,rfl⟩
      ·have hgl:∀s e,(⟨G0.map some,List.replicate F.nslots ⟨0,none⟩⟩:Heap).get (.l s)=some e->e=⟨0,none⟩:=by
        intro s e he;simp only[Heap.get,Qd]at he;split at he
        ·simpa using he.symm
        ·cases he
       refine⟨λr e he=>?_,λr e v he hn=>?_,λr e he hb=>?_,λr v he=>?_,λr e b loc he hb hl=>?_,H.inj,H.rd⟩
       ·cases r with
        |a i=>exact H.cv (.a i) e he
        |l s=>rw[hgl s e he];exact hcv _
        |dead=>simp[Heap.get]at he
       ·cases r with
        |a i=>exact H.dom (.a i) e v he hn
        |l s=>exact absurd (H.out (.l s) v rfl) hn
        |dead=>simp[Heap.get]at he
       ·cases r with
        |a i=>exact H.has (.a i) e he hb
        |l s=>rw[hgl s e he]at hb;exact absurd rfl hb
        |dead=>simp[Heap.get]at he
       ·cases r with
        |a i=>exact H.out (.a i) v he
        |l s=>exact H.out (.l s) v rfl
        |dead=>exact H.out .dead v rfl
       ·cases r with
        |a i=>exact H.blk (.a i) e b loc he hb hl
        |l s=>rw[hgl s e he]at hb;cases hb
        |dead=>simp[Heap.get]at he
      ·simp[hl,h3]
      ·simp only[vk];by_cases ht:t<args.length
       ·rw[O9 ht];have ht':t<cargs.size:=by omega
        rw[pM (Pa ht)];have:(cargs++Array.replicate (fn.ntmps-cargs.size) undef).getD t undef=cargs[t]:=by
         rw[Ql,Qr ht',Pv ht'];rfl
        rw[this];exact ha t _ _ (Pa ht) (Pv ht')
       ·rw[Pd ht];exact .junk _
     refine ihA c F.body _ σ' ex M _ w _ h1 he S0 (λa' w' M' S1 S'=>?_);obtain⟨cv,M2,g1,g2,g3,g4,g5⟩:=Eo h2 hf S' S1;rcases hex with rfl|rfl
     ·exact⟨S'.d,cv,g1,cv,M2,rfl,g2,g3,g4,g5⟩
     ·exact⟨S'.d,cv,g1,cv,M2,rfl,g2,g3,g4,g5⟩
end
def sd(w:World):RD:=λb=>match w.heap[b]? with|some (.cells c _ _)=>some c|_=>none
theorem H4(w:World):RdOk ⟨sd w,λ_ _=>none,λ_=>0⟩ w:=by
 intro b vs h;have h':sd w b=some vs:=h;unfold sd at h';split at h'
 ·rename_i c t fz hh;simp only[O5]at h';subst h';exact⟨t,fz,hh⟩
 ·cases h'
theorem Gb{P:Program}{ah:Nat->FuncId}{FT:Nat->Option am}(hT:TabOk P ah FT){n f:Nat}{args:List PV}{cargs:Array Value}{w:World}(hx:bf FT n f args []=some (.bool true,[]))
  (hl:args.length=cargs.size)(ha:∀(i:Nat)(e:PV)(u:Value),args[i]?=some e->cargs[i]?=some u->FR ah (sd w) e u):
  Calls P (ah f) cargs w λe w'=>e=.returned (.bool true)/\RowKit.Below w.heap.size w w':=by
 have H:HR ah ⟨sd w,λ_ _=>none,λ_=>0⟩ ⟨([]:List Blk).map some,[]⟩ w:=by
  have hn:∀r,(⟨([]:List Blk).map some,[]⟩:Heap).get r=none:=by intro r;cases r<;>simp[Heap.get]
  refine⟨λr e he=>?_,λr e v he=>?_,λr e he=>?_,λ_ _ _=>rfl,λr e b loc he=>?_,λr v loc r' v' loc' h=>(by cases h),H4 w⟩
  all_goals rw[hn]at he;cases he
 refine Calls.mono ((sound hT n).2.2 f args [] _ [] _ w cargs hx H (λ_=>rfl) hl (λi e u a b=>.fr (ha i e u a b))) ?_
 rintro e w' ⟨c,M',rfl,S,H',V,_⟩
 have:=V.bool_inv;subst this;exact⟨rfl,S.os,S.tape,S.output,S.size,λk hk=>S.frame k hk (by rintro ⟨r,v,loc,h,_⟩;cases h)⟩
inductive tI where
 |int (k:IntKind)
 |bool
 |str
 |slice (ag:Bool) (cs:List tI)
def KD(P:Program)(g:TypeId->Option (Bool×List tI)):Nat->List Field->Option (List tI)
 |_,[]=>some []
 |off,f::fs=>match g f.type with
  |some (_,cs)=>if f.offset=off/\P.cellsOf f.type=cs.length then(match KD P g (off+cs.length) fs with|some r=>some (cs++r)|none=>none)else none
  |none=>none
def Ey(P:Program):Nat->TypeId->Option (Bool×List tI)
 |0,_=>none
 | n+1,t=>match P.underlying t with
  |some .bool=>some (false,[.bool])
  |some (.int k)=>some (false,[.int k])
  |some .string=>some (false,[.str])
  |some (.slice e)=>match Ey P n e with
   |some (ag,cs)=>if P.cellsOf e=cs.length/\0<cs.length/\(ag=true∨cs.length=1)then some (false,[.slice ag cs])else none
   |none=>none
  |some (.struct fs)=>match KD P (Ey P n) 0 fs.toList with
   |some cs=>if P.cellsOf t=cs.length then some (true,cs)else none
   |none=>none
  |_=>none
inductive CT:tI->PV->Prop
 |int (k:IntKind) (n:Int) (h:(Lit.int k n).wf=true):CT (.int k) (.int k n)
 |bool (b:Bool):CT .bool (.bool b)
 |str (s:List UInt8) (h:s.length<=maxLen):CT .str (.str s)
 |nils (ag:Bool) (cs:List tI):CT (.slice ag cs) .nils
 | lst (ag:Bool) (cs:List tI) (es:List PV) (c0:Bool) (h0:c0=true->es=[]) (hl:es.length<=maxLen)
   (h1:∀(i:Nat)(e:PV),es[i]?=some e->e.cells.length=cs.length/\(ag=true->∃xs,e=.agg xs)/\(ag=false->e.isCell=true))
   (h2:∀(i:Nat)(e:PV)(j:Nat)(c:tI)(x:PV),es[i]?=some e->cs[j]?=some c->e.cells[j]?=some x->CT c x):CT (.slice ag cs) (.lst es c0)
structure VT (ag:Bool) (cs:List tI) (e:PV):Prop where
 len:e.cells.length=cs.length
 agg:ag=true->∃xs,e=.agg xs
 one:ag=false->e.isCell=true
 at_:∀(j:Nat)(c:tI)(x:PV),cs[j]?=some c->e.cells[j]?=some x->CT c x
def Nu(ag:Bool)(xs:List PV):PV:=match ag with|true=>.agg xs|false=>xs.headD .junk
theorem D8{ag:Bool}{xs:List PV}(h:ag=true∨xs.length=1)(hc:∀x∈xs,x.isCell=true):(Nu ag xs).cells=xs:=by
 cases ag with
 |true=>rfl
 |false=>
  have h1:=h.resolve_left (by decide);obtain⟨x,rfl⟩:=List.length_eq_one_iff.1 h1;exact kK (hc x (List.mem_singleton.2 rfl))
section
variable{ah:Nat->FuncId}{P:Program}{w:World}{H:Type}{enc:TypeId×Value->H}
def CellsR(ah:Nat->FuncId)(w:World)(cts:List tI)(xs:List PV)(cs:List Value):Prop:=
 xs.length=cts.length/\cs.length=cts.length/\(∀x∈xs,x.isCell=true)/\∀(j:Nat)(c:tI)(x:PV)(u:Value),cts[j]?=some c->xs[j]?=some x->cs[j]?=some u->CT c x/\FR ah (sd w) x u
theorem CellsR.one{c:tI}{x:PV}{u:Value}(hx:x.isCell=true)(h1:CT c x)(h2:FR ah (sd w) x u):CellsR ah w [c] [x] [u]:=by
 refine⟨rfl,rfl,λy hy=>by simp at hy;subst hy;exact hx,λj c' x' u' a b d=>?_⟩;cases j with
 |zero=>simp at a b d;subst a;subst b;subst d;exact⟨h1,h2⟩
 |succ j=>simp at a
theorem CellsR.append{a b:List tI}{xs ys:List PV}{us vs:List Value}(h:CellsR ah w a xs us)(k:CellsR ah w b ys vs):CellsR ah w (a++b) (xs++ys) (us++vs):=by
 obtain⟨h1,h2,h3,h4⟩:=h;obtain⟨k1,k2,k3,k4⟩:=k;refine⟨by simp[h1,k1],by simp[h2,k2],λx hx=>(List.mem_append.1 hx).elim (h3 x) (k3 x),λj c x u p q r=>?_⟩;rcases Pt j a.length with z|z
 ·rw[Pz z]at p;rw[Pz (by omega)]at q;rw[Pz (by omega)]at r;exact h4 j c x u p q r
 ·rw[Pp z]at p;rw[Pp (by omega),h1]at q;rw[Pp (by omega),h2]at r;exact k4 _ c x u p q r
theorem DQ{a:Addr}{k:Nat}{u:Value}(hs:a.spot=none)(h:w.cell? (a.add k)=some u):RdAt (sd w) a k u:=by
 rw[gk hs]at h;unfold World.cell? at h;split at h
 ·rename_i c t fz hh;simp only[QW,Ps,PS]at h;exact⟨hs,c,by unfold sd;rw[hh],h⟩
 ·cases h
theorem DY{a:Addr}{u:Value}(h:w.cell? a=some u):a.spot=none:=by
 unfold World.cell? at h;split at h
 ·split at h
  ·cases h
  ·rename_i hn;simpa using hn
 ·cases h
theorem wW{spare:Nat->Bool}{held:Bool}{fuel:Nat}{g:TypeId->Option (Bool×List tI)}(ih:∀{t:TypeId}{cs:List Value}{r:DataW H×List MemPlace}{ag:Bool}{cts:List tI},DataW.trod enc P w 0 spare held fuel t cs=some r->g t=some (ag,cts)->∃xs,CellsR ah w cts xs cs):
  ∀{fs:List Field}{off:Nat}{cts:List tI}{cs:List Value},(∀(i:Nat)(f:Field),fs[i]?=some f->∃r,DataW.trod enc P w 0 spare held fuel f.type ((cs.drop f.offset).take (P.cellsOf f.type))=some r)->KD P g off fs=some cts->
   off+cts.length<=cs.length->∃xs,CellsR ah w cts xs ((cs.drop off).take cts.length)
 |[],off,cts,cs,_,h,hl=>by
  simp only[KD,O5]at h;subst h;exact⟨[],rfl,by simp,λx hx=>by simp at hx,λj c x u a=>by simp at a⟩
 | f::fs,off,cts,cs,hm,h,hl=>by
  simp only[KD]at h;cases hg:g f.type with
  |none=>rw[hg]at h;cases h
  | some p=>
   obtain⟨ag,c1⟩:=p;rw[hg]at h;simp only at h;split at h
   case isFalse=>cases h
   rename_i hc;obtain⟨rfl,hc⟩:=hc;cases hr:KD P g (f.offset+c1.length) fs with
   |none=>rw[hr]at h;cases h
   | some r=>
    rw[hr]at h;simp only[O5]at h;subst h;obtain⟨d1,h1⟩:=hm 0 f rfl;obtain⟨xs,hx⟩:=ih h1 hg;rw[Pu]at hl;obtain⟨ys,hy⟩:=wW ih (λi f' hf=>hm (i+1) f' hf) hr (by omega);refine⟨xs++ys,?_⟩;have:=hx.append hy;rw[hc]at this;have e:(cs.drop f.offset).take (c1++r).length=(cs.drop f.offset).take c1.length++(cs.drop (f.offset+c1.length)).take r.length:=by
     rw[Pu,List.take_add,Rd]
    rw[e];exact this
theorem ym{spare:Nat->Bool}{held:Bool}:∀(n:Nat){fuel:Nat}{t:TypeId}{cs:List Value}{r:DataW H×List MemPlace}{ag:Bool}{cts:List tI},DataW.trod enc P w 0 spare held fuel t cs=some r->Ey P n t=some (ag,cts)->
  ∃xs,CellsR ah w cts xs cs
 |0,fuel,t,cs,r,ag,cts,_,h=>by simp[Ey]at h
 | n+1,fuel,t,cs,r,ag,cts,hd,h=>by
  simp only[Ey]at h;split at h
  ·rename_i hu;simp only[O5,Pq]at h;obtain⟨rfl,rfl⟩:=h;obtain⟨b,rfl,_⟩:=DataW.trod_bool hu hd;exact⟨_,.one rfl (.bool _) (.bool _)⟩
  ·rename_i k hu;simp only[O5,Pq]at h;obtain⟨rfl,rfl⟩:=h;obtain⟨m,rfl,_,hw⟩:=DataW.trod_int hu hd;exact⟨_,.one rfl (.int _ _ hw) (.int _ _)⟩
  ·rename_i hu;simp only[O5,Pq]at h;obtain⟨rfl,rfl⟩:=h;obtain⟨s,rfl,_,hs⟩:=DataW.trod_string hu hd;have e:(Value.string s)=.string ⟨s.data.toList.toArray⟩:=by cases s;simp
   refine⟨[.str s.data.toList],.one rfl (.str _ (by rw[QT];exact hs)) ?_⟩;rw[e];exact .str _
  ·rename_i e hu;split at h
   case h_2=>cases h
   rename_i ag' ecs he;split at h
   case isFalse=>cases h
   rename_i hc;obtain⟨hc1,hc2,hc3⟩:=hc;simp only[O5,Pq]at h;obtain⟨rfl,rfl⟩:=h;rcases DataW.trod_slice hu hd with⟨rfl,_⟩|⟨a,len,cap,elems,rest,m,_,rfl,_,_,hlc,hcm,hel,hg,_,_⟩
   ·exact⟨_,.one rfl (.nils _ _) .nils⟩
   ·have hex:∀i,i<len->∃(xs:List PV)(ci:List Value),CellsR ah w ecs xs ci/\(∀j,j<ecs.length->w.cell? ((a.add (i*ecs.length)).add j)=ci[j]?):=by
     intro i hi;have h1:=hg i hi;rw[Pa (by omega)]at h1;cases hci:w.cells? 0 (a.add (i*P.cellsOf e)) (P.cellsOf e)with
     |none=>rw[hci]at h1;cases h1
     |some ci=>
      rw[hci]at h1;obtain⟨xs,hx⟩:=ym n h1 he;obtain⟨_,hl,hcell⟩:=World.cells?_some hci;rw[hc1]at hcell;exact⟨xs,ci,hx,hcell⟩
    have hch:∃(X:Nat->List PV)(U:Nat->List Value),∀i,i<len->CellsR ah w ecs (X i) (U i)/\∀j,j<ecs.length->w.cell? ((a.add (i*ecs.length)).add j)=(U i)[j]?:=by
     refine⟨λi=>if hi:i<len then Classical.choose (hex i hi)else[],λi=>if hi:i<len then Classical.choose (QK (hex i hi))else[],λi hi=>?_⟩;simp only[dif_pos hi];exact QK (QK (hex i hi))
    obtain⟨X,U,hXU⟩:=hch
    let es:=(List.range len).map λi=>Nu ag' (X i)
    have hes:∀(i:Nat)(x:PV),es[i]?=some x->i<len/\x=Nu ag' (X i):=by
     intro i x hx;simp only[es,Pk]at hx;by_cases hi:i<len
     ·rw[Qi hi]at hx;simp only[Py,O5]at hx;exact⟨hi,hx.symm⟩
     ·rw[Ph (by simpa using hi)]at hx;cases hx
    have hcl:∀i,i<len->(Nu ag' (X i)).cells=X i:=λi hi=>D8 (by rw[(hXU i hi).1.1];exact hc3) (hXU i hi).1.2.2.1;have hspot:0<len->a.spot=none:=by
     intro h0;obtain⟨⟨q1,q2,_,_⟩,q5⟩:=hXU 0 h0;have:=q5 0 hc2;rw[Pa (by omega)]at this;have h9:=DY this;simpa[Addr.add]using h9
    have hlen:es.length=len:=by simp[es]
    refine⟨[.lst es (decide (cap=0))],.one rfl ?_ ?_⟩
    ·refine .lst _ _ _ _ (λh0=>?_) (by rw[hlen];omega) (λi x hx=>?_) (λi x j c y hx hj hy=>?_)
     ·have:cap=0:=by simpa using h0
      apply P9;omega
     ·obtain⟨hi,rfl⟩:=hes i x hx;rw[hcl i hi];refine⟨(hXU i hi).1.1,λht=>?_,λht=>?_⟩
      ·subst ht;exact⟨_,rfl⟩
      ·subst ht;have h1:=hc3.resolve_left (by decide);obtain⟨y,hy⟩:=List.length_eq_one_iff.1 (show(X i).length=1 by rw[(hXU i hi).1.1];exact h1);have:=(hXU i hi).1.2.2.1 y (by rw[hy];simp);show(Nu false (X i)).isCell=true;rw[hy];exact this
     ·obtain⟨hi,rfl⟩:=hes i x hx;rw[hcl i hi]at hy;obtain⟨q1,q2,_,q4⟩:=(hXU i hi).1;have hjl:j<(U i).length:=by rw[q2];exact getElem?_lt hj
      exact(q4 j c y _ hj hy (Pa hjl)).1
    ·have key:FR ah (sd w) (.lst es (decide (cap=0))) (.slice (some a) es.length cap):=by
      refine .lst es _ a cap ecs.length (λi j=>(U i).getD j undef) (by rw[hlen];exact hlc) (by simp) (λi x hx=>?_) (λi x j y hx hy=>?_) (λi x j y hx hy=>?_)
      ·obtain⟨hi,rfl⟩:=hes i x hx;rw[hcl i hi];exact(hXU i hi).1.1
      ·obtain⟨hi,rfl⟩:=hes i x hx;rw[hcl i hi]at hy;obtain⟨⟨q1,q2,q3,q4⟩,q5⟩:=hXU i hi;have hjc:j<ecs.length:=by rw[<-q1];exact getElem?_lt hy
       have hju:j<(U i).length:=by omega
       refine⟨q3 y (Pl hy),DQ (hspot (by omega)) ?_⟩;have h9:=q5 j hjc;rw[Pa hju,gk (hspot (by omega)),nK]at h9;rw[gk (hspot (by omega))];simp only[List.getD,Pa hju,PK];rw[<-h9];congr 2;omega
      ·obtain⟨hi,rfl⟩:=hes i x hx;rw[hcl i hi]at hy;obtain⟨q1,q2,q3,q4⟩:=(hXU i hi).1;have hjc:j<ecs.length:=by rw[<-q1];exact getElem?_lt hy
       have hju:j<(U i).length:=by omega
       have:=(q4 j ecs[j] y _ (Pa hjc) hy (Pa hju)).2;simpa[List.getD,hju]using this
     rw[hlen]at key;exact key
  ·rename_i fs hu;split at h
   case h_2=>cases h
   rename_i cs' hf;split at h
   case isFalse=>cases h
   rename_i hc;simp only[O5,Pq]at h;obtain⟨rfl,rfl⟩:=h;obtain⟨xs,m,rfl,_,hl,hxl,hfs⟩:=DataW.trod_struct hu hd;obtain⟨ys,hy⟩:=wW (fuel:=m) (λh1 h2=>ym n h1 h2) (fs:=fs.toList) (off:=0) (cs:=cs) (λi f hfi=>by
    have hfi':fs[i]?=some f:=by simpa using hfi
    have:=hfs i f hfi';have hi:i<xs.length:=by
     rw[hxl];have:=getElem?_lt hfi;simpa using this
    rw[Pa hi]at this;exact⟨_,this⟩) hf (by omega)
   rw[Rf,Qv (by omega)]at hy;exact⟨ys,hy⟩
  ·cases h
theorem oW{spare:Nat->Bool}{held:Bool}{n:Nat}{t:TypeId}{v:Value}{d:DataW H}{ps:List MemPlace}{ag:Bool}{cts:List tI}(hd:DataW.Trod enc P w 0 spare held t v d ps)(h:Ey P n t=some (ag,cts))
  (hv:ag=true->∃cs,v=.agg cs)(h1:ag=false->cts.length=1/\v.cells= #[v]):∃x,VT ag cts x/\FR ah (sd w) x v:=by
 obtain⟨fuel,hf⟩:=hd;obtain⟨xs,q1,q2,q3,q4⟩:=ym (ah:=ah) n hf h;cases ag with
 | true=>
  obtain⟨cs,rfl⟩:=hv rfl;refine⟨.agg xs,⟨q1,λ_=>⟨_,rfl⟩,λh=>(by cases h),λj c x hj hx=>?_⟩,.agg _ _ ?_ ?_⟩
  ·have hl:j<(Value.agg cs).cells.toList.length:=by rw[q2];exact getElem?_lt hj
   exact(q4 j c x _ hj hx (Pa hl)).1
  ·have:cs.toList.length=cts.length:=q2;rw[q1,<-this];simp
  ·intro i c u hi hu;have hl:i<cts.length:=by rw[<-q1];exact getElem?_lt hi
   exact(q4 i cts[i] c u (Pa hl) hi (by simpa[Value.cells]using hu)).2
 | false=>
  obtain⟨h2,h3⟩:=h1 rfl;obtain⟨x,rfl⟩:=List.length_eq_one_iff.1 (show xs.length=1 by rw[q1];exact h2);have hx:=q3 x (by simp);have hc0:cts[0]?=some cts[0]:=Pa (by omega);refine⟨x,⟨by rw[kK hx];exact q1,λh=>(by cases h),λ_=>hx,λj c y hj hy=>?_⟩,(q4 0 cts[0] x v hc0 rfl (by rw[h3];rfl)).2⟩;rw[kK hx]at hy;cases j with
  |zero=>
   simp only[Pg,O5]at hy;subst hy;exact(q4 0 c x v hj rfl (by rw[h3];rfl)).1
  |succ j=>simp at hy
theorem rb{spare:Nat->Bool}{held:Bool}{n:Nat}{t:TypeId}{v:Value}{d:DataW H}{ps:List MemPlace}{ag:Bool}{cts:List tI}{q:Reach}{base:Nat}(hd:DataW.Trod enc P w 0 spare held t v d ps)(hw:Value.okWide P w q base t v)
  (h:Ey P (n+1) t=some (ag,cts)):∃x,VT ag cts x/\FR ah (sd w) x v:=by
 have h0:=h;simp only[Ey]at h;split at h
 ·rename_i hu;simp only[O5,Pq]at h;obtain⟨rfl,rfl⟩:=h;obtain⟨b,rfl⟩:=WideShapes.okWide_bool hu hw;exact oW hd h0 (λh=>(by cases h)) (λ_=>⟨rfl,rfl⟩)
 ·rename_i k hu;simp only[O5,Pq]at h;obtain⟨rfl,rfl⟩:=h;obtain⟨b,rfl⟩:=WideShapes.okWide_int hu hw;exact oW hd h0 (λh=>(by cases h)) (λ_=>⟨rfl,rfl⟩)
 ·rename_i hu;simp only[O5,Pq]at h;obtain⟨rfl,rfl⟩:=h;obtain⟨b,rfl⟩:=WideShapes.okWide_string hu hw;exact oW hd h0 (λh=>(by cases h)) (λ_=>⟨rfl,rfl⟩)
 ·rename_i e hu;obtain⟨a,len,cap,rfl⟩:=WideShapes.okWide_slice hu hw;split at h
  case h_2=>cases h
  split at h
  case isFalse=>cases h
  simp only[O5,Pq]at h;obtain⟨rfl,rfl⟩:=h;exact oW hd h0 (λh=>(by cases h)) (λ_=>⟨rfl,rfl⟩)
 ·rename_i fs hu;obtain⟨cs,rfl,_⟩:=WideShapes.okWide_struct hu hw;split at h
  case h_2=>cases h
  split at h
  case isFalse=>cases h
  simp only[O5,Pq]at h;obtain⟨rfl,rfl⟩:=h;exact oW hd h0 (λ_=>⟨_,rfl⟩) (λh=>(by cases h))
 ·cases h
inductive FRs (ah:Nat->FuncId) (rd:RD):List PV->List Value->Prop
 |nil:FRs ah rd [] []
 |cons {x:PV} {v:Value} {xs:List PV} {vs:List Value} (h:FR ah rd x v) (t:FRs ah rd xs vs):FRs ah rd (x::xs) (v::vs)
theorem FRs.len{rd:RD}{xs:List PV}{vs:List Value}(h:FRs ah rd xs vs):xs.length=vs.length:=by
 induction h with
 |nil=>rfl
 |cons _ _ ih=>simp[ih]
theorem FRs.at_{rd:RD}{xs:List PV}{vs:List Value}(h:FRs ah rd xs vs):∀(i:Nat)(e:PV)(u:Value),xs[i]?=some e->vs[i]?=some u->FR ah rd e u:=by
 induction h with
 |nil=>intro i e u hi;simp at hi
 |cons h _ ih=>
  intro i e u hi hu;cases i with
  |zero=>simp at hi hu;subst hi;subst hu;exact h
  |succ i=>exact ih i e u (by simpa using hi) (by simpa using hu)
theorem DK{FT:Nat->Option am}(hT:TabOk P ah FT){f g:Nat}(hg:ah f=g){args:List PV}{vs:List Value}(hx:∃n,bf FT n f args []=some (.bool true,[]))(ha:FRs ah (sd w) args vs):
  Calls P g vs.toArray w λe w'=>e=.returned (.bool true)/\RowKit.Below w.heap.size w w':=by
 obtain⟨n,hx⟩:=hx;rw[<-hg];exact Gb hT hx (by simpa using ha.len) (λi e u hi hu=>ha.at_ i e u hi (by simpa using hu))
end
inductive HM.Le {α:Type}:HM α->HM α->Prop
 |fail (m:HM α):Le .fail m
 |ret (a:α):Le (.ret a) (.ret a)
 |get (r:aq) (k k':fg->HM α) (h:∀e,Le (k e) (k' e)):Le (.get r k) (.get r k')
 |set (r:aq) (e:fg) (k k':HM α) (h:Le k k'):Le (.set r e k) (.set r e k')
theorem HM.Le.refl{α:Type}:∀m:HM α,Le m m:=by
 intro m;induction m with
 |ret a=>exact .ret a
 |fail=>exact .fail _
 |get r k ih=>exact .get r k k ih
 |set r e k ih=>exact .set r e k k ih
theorem HM.Le.bind{α β:Type}{m m':HM α}{f f':α->HM β}(h:Le m m')(hf:∀a,Le (f a) (f' a)):Le (m.bind f) (m'.bind f'):=by
 induction h with
 |fail m=>exact .fail _
 |ret a=>exact hf a
 |get r k k' _ ih=>exact .get r _ _ ih
 |set r e k k' _ ih=>exact .set r e _ _ ih
theorem HM.Le.run{α:Type}{m m':HM α}(h:Le m m'):∀{g:Heap}{x:α×Heap},m.run g=some x->m'.run g=some x:=by
 induction h with
 |fail m=>intro g x hx;simp[HM.run]at hx
 |ret a=>intro g x hx;exact hx
 |get r k k' _ ih=>
  intro g x hx;simp only[HM.run]at hx⊢;cases hg:g.get r with
  |none=>rw[hg]at hx;cases hx
  |some e=>rw[hg]at hx;exact ih e hx
 |set r e k k' _ ih=>
  intro g x hx;simp only[HM.run]at hx⊢;cases hg:g.get r with
  |none=>rw[hg]at hx;cases hx
  |some e=>rw[hg]at hx;exact ih hx
theorem HM.Le.runT{α:Type}{m m':HM α}(h:Le m m'):∀{g:Heap}{x:α×Heap×List aq×List aq},m.runT g=some x->m'.runT g=some x:=by
 induction h with
 |fail m=>intro g x hx;simp[HM.runT]at hx
 |ret a=>intro g x hx;exact hx
 | get r k k' _ ih=>
  intro g x hx;simp only[HM.runT]at hx⊢;cases hg:g.get r with
  |none=>rw[hg]at hx;cases hx
  |some e=>
   rw[hg]at hx;simp only at hx⊢;cases hk:(k e).runT g with
   |none=>rw[hk]at hx;cases hx
   |some p=>rw[hk]at hx;rw[ih e hk];exact hx
 | set r e k k' _ ih=>
  intro g x hx;simp only[HM.runT]at hx⊢;cases hg:g.get r with
  |none=>rw[hg]at hx;cases hx
  |some e0=>
   rw[hg]at hx;simp only at hx⊢;cases hk:k.runT (g.put r e)with
   |none=>rw[hk]at hx;cases hx
   |some p=>rw[hk]at hx;rw[ih hk];exact hx
def GN(C C':cG):Prop:=∀f a G r,C f a G=some r->C' f a G=some r
theorem pu{C C':cG}(h:GN C C')(ro:List Bool)(f:Nat)(args:List PV)(s:Nat):HM.Le (fc C ro f args s) (fc C' ro f args s):=by
 unfold fc;refine(HM.Le.refl _).bind (λa=>(HM.Le.refl _).bind (λb=>?_));cases lB a.2 b with
 |true=>exact .fail _
 |false=>
  simp only[Ps,PS];cases hc:C f (co (cU b) a.1) (b.map λx=>x.2.2.ren (cU b))with
  |none=>exact .fail _
  |some r=>rw[h _ _ _ _ hc];exact .refl _
theorem Fc{RO:Nat->List Bool}{C C':cG}(h:GN C C')(ρ:PO->PV)(op:IOp):HM.Le (iQ RO C ρ op) (iQ RO C' ρ op):=by
 cases op with
 |call f args s=>exact pu h _ _ _ _
 | callD f args s n=>
  simp only[iQ];have:∀(n s:Nat),HM.Le (sI (λs=>fc C (RO f) f (kQ ρ args) s) s n) (sI (λs=>fc C' (RO f) f (kQ ρ args) s) s n):=by
   intro n;induction n with
   |zero=>exactλs=>pu h _ _ _ _
   |succ n ih=>
    intro s;refine .get _ _ _ (λe=>?_);split
    ·exact pu h _ _ _ _
    ·exact ih (s+1)
  exact this n s
 |callv g args s=>
  simp only[iQ];unfold pi;split
  ·exact pu h _ _ _ _
  ·exact .fail _
 |_=>exact .refl _
theorem Dw{RO:Nat->List Bool}{C C':cG}(h:GN C C'){o:IOper}{σ σ':St}(hs:jd RO C o σ=some σ'):jd RO C' o σ=some σ':=by
 unfold jd at hs⊢;split at hs
 ·rename_i hw;split at hs
  ·rename_i v h' hr;rw[(Fc h _ _).run hr];exact hs
  ·cases hs
 ·exact hs
 ·cases hs
theorem rB{RO:Nat->List Bool}{C C':cG}(h:GN C C'){o:IOper}{σ:St}{r:St×List aq×List aq}(hs:bu RO C o σ=some r):bu RO C' o σ=some r:=by
 unfold bu at hs⊢;split at hs
 ·rename_i hw;split at hs
  ·rename_i v h' R W hr;rw[(Fc h _ _).runT hr];exact hs
  ·cases hs
 ·exact hs
 ·cases hs
theorem pO{RO:Nat->List Bool}{C C':cG}(h:GN C C'):∀{os:List IOper}{σ σ':St},gX RO C os σ=some σ'->gX RO C' os σ=some σ'
 |[],σ,σ',hs=>hs
 |o::os,σ,σ',hs=>by
  simp only[gX]at hs⊢;cases h1:jd RO C o σ with
  |none=>rw[h1]at hs;cases hs
  |some σ1=>rw[h1]at hs;rw[Dw h h1];exact pO h hs
theorem uW{RO:Nat->List Bool}{C C':cG}(h:GN C C'):∀{os:List IOper}{j:Nat}{acc:List (Nat×List aq×List aq)}{σ σ':St},lU RO C j acc os σ=some σ'->lU RO C' j acc os σ=some σ'
 |[],j,acc,σ,σ',hs=>hs
 | o::os,j,acc,σ,σ',hs=>by
  simp only[lU]at hs⊢;cases h1:bu RO C o σ with
  |none=>rw[h1]at hs;cases hs
  |some p=>
   rw[h1]at hs;rw[rB h h1];simp only at hs⊢;split at hs
   ·rename_i hc;rw[O9 hc];exact uW h hs
   ·cases hs
theorem tq{RO:Nat->List Bool}{C C':cG}(h:GN C C'):∀{os:List IOper}{j:Nat}{acc:List (Nat×Tr)}{σ σ':St},fj RO C j acc os σ=some σ'->fj RO C' j acc os σ=some σ'
 |[],j,acc,σ,σ',hs=>hs
 | o::os,j,acc,σ,σ',hs=>by
  simp only[fj]at hs⊢;cases h1:bu RO C o σ with
  |none=>rw[h1]at hs;cases hs
  |some p=>
   rw[h1]at hs;rw[rB h h1];simp only at hs⊢;split at hs
   ·rename_i hc;rw[O9 hc];exact tq h hs
   ·cases hs
theorem I3{FT:Nat->Option am}:∀(n:Nat),GN (bf FT n) (bf FT (n+1))/\∀(c:eZ)(σ:St)(r:Ex×St),bF FT n c σ=some r->bF FT (n+1) c σ=some r:=by
 intro n;induction n with
 |zero=>exact⟨λf a G r h=>by simp[bf]at h,λc σ r h=>by simp[bF]at h⟩
 | succ n ih=>
  obtain⟨ihC,ihE⟩:=ih;refine⟨?_,?_⟩
  ·intro f a G r h;rw[bf]at h⊢;cases hF:FT f with
   |none=>rw[hF]at h;cases h
   | some F=>
    rw[hF]at h;simp only at h⊢;cases hi:F.intr with
    |some g=>rw[hi]at h;exact h
    |none=>
     rw[hi]at h;simp only at h⊢;cases he:bF FT n F.body ⟨a++List.replicate (F.ntmps-a.length) .junk,⟨G.map some,List.replicate F.nslots ⟨0,none⟩⟩⟩with
     |none=>rw[he]at h;cases h
     |some p=>rw[he]at h;rw[ihE _ _ _ he];exact h
  ·intro c σ r h;rw[bF.eq_def]at h⊢;simp only at h⊢;cases c with
   |skip=>exact h
   | reg ops d=>
    cases d with
    |false=>
     simp only at h⊢;split at h
     ·rename_i σ1 h1;rw[pO ihC h1];exact h
     ·cases h
    |true=>
     simp only at h⊢;split at h
     ·rename_i σ1 h1;rw[tq ihC h1];exact h
     ·cases h
   | seq a b=>
    simp only at h⊢;cases h1:bF FT n a σ with
    |none=>rw[h1]at h;cases h
    |some p=>
     obtain⟨e,σ1⟩:=p;rw[h1]at h;rw[ihE _ _ _ h1];cases e with
     |norm=>exact ihE _ _ _ h
     |exit i=>exact h
     |ret=>exact h
   |cond d x y=>
    simp only at h⊢;split at h
    ·exact ihE _ _ _ h
    ·exact ihE _ _ _ h
    ·cases h
   |block id x=>
    simp only at h⊢;cases h1:bF FT n x σ with
    |none=>rw[h1]at h;cases h
    |some p=>rw[h1]at h;rw[ihE _ _ _ h1];exact h
   | loop x=>
    simp only at h⊢;cases h1:bF FT n x σ with
    |none=>rw[h1]at h;cases h
    |some p=>
     obtain⟨e,σ1⟩:=p;rw[h1]at h;rw[ihE _ _ _ h1];cases e with
     |norm=>exact ihE _ _ _ h
     |exit i=>exact h
     |ret=>exact h
   |exit i=>exact h
   |ret=>exact h
   | post x js=>
    simp only at h⊢;cases h1:bF FT n x σ with
    |none=>rw[h1]at h;cases h
    |some p=>
     obtain⟨e,σ1⟩:=p;rw[h1]at h;rw[ihE _ _ _ h1];cases e with
     |norm=>exact h
     |exit i=>exact h
     |ret=>exact h
   |adj js x=>
    simp only at h⊢;split at h
    ·exact ihE _ _ _ h
    ·cases h
theorem ja{FT:Nat->Option am}{n m:Nat}(h:n<=m):GN (bf FT n) (bf FT m):=by
 induction h with
 |refl=>exactλ_ _ _ _ h=>h
 |step _ ih=>exactλf a G r h=>(I3 _).1 f a G r (ih f a G r h)
theorem pF{FT:Nat->Option am}{n m:Nat}(h:n<=m){c:eZ}{σ:St}{r:Ex×St}(hx:bF FT n c σ=some r):bF FT m c σ=some r:=by
 induction h with
 |refl=>exact hx
 |step _ ih=>exact(I3 _).2 _ _ _ ih
def Ai(L:List (Option am))(f:Nat):Option am:=L.getD f none
def sj(P:Program)(ah:Nat->FuncId):Nat->List (Option am)->Bool
 |_,[]=>true
 |k,none::L=>sj P ah (k+1) L
 |k,some F::L=>F.intr.isNone&&nr P ah k F&&sj P ah (k+1) L
theorem qk{P:Program}{ah:Nat->FuncId}:∀{L:List (Option am)}{k j:Nat}{F:am},sj P ah k L=true->L[j]?=some (some F)->F.intr=none/\nr P ah (k+j) F=true
 |[],k,j,F,_,h=>by simp at h
 |none::L,k,0,F,_,h=>by simp at h
 |none::L,k,j+1,F,hc,h=>by
  have:=qk (k:=k+1) hc (by simpa using h);rw[show k+(j+1)=k+1+j by omega];exact this
 |some G::L,k,0,F,hc,h=>by
  simp only[Pg,O5]at h;subst h;simp only[sj,O6,Option.isNone_iff_eq_none]at hc;exact⟨hc.1.1,hc.1.2⟩
 |some G::L,k,j+1,F,hc,h=>by
  simp only[sj,O6]at hc;have:=qk (k:=k+1) hc.2 (by simpa using h);rw[show k+(j+1)=k+1+j by omega];exact this
theorem TabOk.of_list{P:Program}{ah:Nat->FuncId}{L:List (Option am)}(h:sj P ah 0 L=true)(hm:P.follows .mixedOrders=true):TabOk P ah (Ai L):=by
 have key:∀f F,Ai L f=some F->F.intr=none/\nr P ah f F=true:=by
  intro f F hf;unfold Ai at hf;rw[QU]at hf;cases hl:L[f]? with
  |none=>rw[hl]at hf;cases hf
  |some x=>
   rw[hl]at hf;simp only[PK]at hf;subst hf;have:=qk h hl;rw[PZ]at this;exact this
 exact⟨λf F hf _=>(key f F hf).2,λf F g hf hg=>(by rw[(key f F hf).1]at hg;cases hg),hm⟩
def PV.cellP:PV->Bool
  |.int _ _|.bool _|.str _|.nils|.lst _ _|.nilp|.lptr _|.nilfn=>true
  |.fn _ cs=>cs.isEmpty
  |_=>false
def PV.plain:PV->Bool
  |.agg cs=>cs.all PV.cellP
  |.tup cs=>cs.all PV.cellP
  |v=>v.cellP
end Gv
