/- A part of the proof that the law is true of all its inputs, by an interpreter that is proved sound. -/
import Derived.Test.YtfaeljmkbadgdaaGreatVb
import Derived.Test.YtfaeljmkbadgdaaGreatEc
namespace Gv
open Go (IntKind BinOp UnOp)
def eY(new:List B3):aq->Nat->Option (aq×Nat):=λq v=>match q with
 |.a i=>some (.a i,v)
 |.dead=>none
 |.l _=>match fV q v new 0 with|some k=>some (.l k,0)|none=>none
theorem Eb(F:am)(m:Nat)(fr:List PV):nG F m fr=(mS fr F.res).bind λvs=>(if F.frz then bp 9 (Gv.one vs)else .ret (Gv.one vs)).bind λr=>(lZ m 0).bind λbs=>(cY 99 (kt r++fI bs) []).bind λnew=>
  .ret (ren (eY new) r,bs.map (λb=>match b with|some b=>some (b.ren (eY new))|none=>none)++new.map λx=>some (x.2.2.ren (eY new))):=rfl
theorem HK{sg:Sig}{F:am}{G:List Blk}{P:Nat->aq->Prop}{args xs:List PV}{I:Inv}{c:Cx}{a:Abs}{env:Env}{σ:St}{ex:X×List X×List X}
  (kr:KRs (HA G) P sg.ps 0 args xs)(uP:∀i j q,P i q->P j q->i=j)(loc:∀i q,P i q->∃k,q=.a k/\k<G.length)(hG:∀(k:Nat)(b:Blk),G[k]?=some b->(.a k,0,b)∈jS (HA G) sg.ps args)
  (hal:∀j k,P j (.a k)->I.al k=j)(hIm:I.m=G.length)(hIkp:I.kp=sg.kp)(hIfl:I.fl=sg.fl)(hI0:∀k,I.h0.get (.a k)=(HA G).get (.a k))(hsg:oo sg=true)
  (S:Sim I c a env σ)(hE:EntB c sg.ps args 0)(H:sa I.st sg F.res F.frz a=some ex)(hg:ao env ex.2.2=true):
  ∃rE G' h' r outs,(nG F G.length σ.fr).run σ.h=some ((rE,G'),h')/\ex.1.ev env=some r/\eO env ex.2.1=some outs/\ExitOk sg P args G G' rE r outs:=by
 simp only[oo,O6,PG]at hsg;obtain⟨⟨⟨⟨⟨hps,hnq⟩,hwt⟩,hwa⟩,hqb⟩,hqp⟩:=hsg;simp only[sa,ab]at H;obtain⟨av,h1,rp,h2,op,h3,H⟩:=H;split at H
 ·rename_i hc;obtain⟨d1,d2,d3,d4,d5⟩:=hc;cases H;obtain⟨vs,R0,r1,r2⟩:=vW S h1 hg;obtain⟨rv,x,h',R1,W1,f1,f2,f3,f4,f5⟩:=GT S r2 h2;have hlens:=kr.lens;obtain⟨o1,outs,o2,o3⟩:=pD S sg.r.n hE hlens.1 hps h3;have hbp:∀(i:Nat)(ks:List K)(v:PV),sg.ps[i]?=some (.B false ks)->args[i]?=some v->∃k ver,v=.ptr (.a k) ver 0 0:=λi ks v e1 e2=>by
   obtain⟨r,ver,p,h1,h2⟩:=KRs.box kr i ks v e1 e2;obtain⟨k,rfl,_⟩:=loc p r h2;exact⟨k,ver,h1⟩
  have hsa:∀i,h'.get (.a i)=σ.h.get (.a i):=λi=>f5.same _ λhm=>by
   have:=List.all_eq_true.1 d5 _ hm;rw[S.nm.a i]at this;have h0:(2*I.al i+1) %2=0:=by simp at this
   omega
  let Pm:Nat->aq->Prop:=λi q=>Pn c (rp.2.1++op.2) i q
  have k1:KR h' Pm sg.r 0 rv x:=f4.mono λi q _ hi hP=>by
   obtain⟨l,hl,hq⟩:=hP;exact⟨l,by rw[Pz (by rw[f3];omega)];exact hl,hq⟩
  have hmono:∀{ps:List K}{vs:List PV}{j:Nat}{xs:List PV}{P P':Nat->aq->Prop}{h:Heap},(∀i q,j<=i->P i q->P' i q)->KOuts h P ps vs j xs->KOuts h P' ps vs j xs:=by
   intro ps;induction ps with
   |nil=>intro vs j xs P P' h _ H;cases vs<;>cases xs<;>first|trivial|(simp[KOuts]at H)
   | cons k ps ih=>
    intro vs j xs P P' h hp H;cases vs with
    |nil=>cases k<;>simp[KOuts]at H
    | cons v vs=>
     cases k with
     | B ro ks=>
      cases ro with
      |true=>exact ih hp H
      | false=>
       cases xs with
       |nil=>simp[KOuts]at H
       |cons x xs=>
        obtain⟨⟨r,ver,n,e,os,q1,q2,q3,q4,q5⟩,H2⟩:=H;exact⟨⟨r,ver,n,e,os,q1,q2,q3,q4,q5.mono λi q h1 _=>hp i q h1⟩,ih (λi q h=>hp i q (by omega)) H2⟩
     |F=>exact ih hp H
     |O sz wf=>exact ih hp H
     |Q=>exact ih hp H
     |A ks=>exact ih hp H
     |T ks=>exact ih hp H
  have hgo:∀i q,Pn c op.2 i q->h'.get q=σ.h.get q:=λi q hP=>by
   obtain⟨l,hl,hq⟩:=hP;refine f5.same q λhm=>?_;have:=List.all_eq_true.1 (List.all_eq_true.1 d4 l (Pl hl)) _ hq;simp only[PC,PW,PD]at this;exact this hm
  have k2:KOuts h' Pm sg.ps args sg.r.n outs:=hmono (λi q hi hP=>by
   obtain⟨l,hl,hq⟩:=hP;exact⟨l,by rw[Pp (by rw[f3];exact hi),f3];exact hl,hq⟩) (KOuts.heap (λi q _ hP=>hgo _ q hP) hsa hbp o3)
  have u1:∀i j q,Pm i q->Pm j q->i=j:=λi j q hi hj=>by
   obtain⟨l,hl,hq⟩:=hi;obtain⟨m,hm,hq'⟩:=hj;exact vE d1 hl hm hq hq'
  have kb:=xI k1;obtain⟨kc1,kc2,kc3⟩:=AK k2 hbp
  let L:List B3:=KB h' sg.r rv++aU h' sg.ps args
  have hLive:∀y∈L,h'.get y.1=some ⟨y.2.1,some y.2.2⟩:=λy hy=>by
   rcases List.mem_append.1 hy with hy|hy
   ·exact(kb.b y hy).1
   ·exact(kc1 y hy).1
  have hLcl:∀y∈L,∀q∈bi y.2.2.es,inB L q:=λy hy q hq=>by
   rcases List.mem_append.1 hy with hy|hy
   ·exact((kb.b y hy).2.2 q hq).mono λz hz=>Pc _ hz
   ·exact((kc1 y hy).2.2 q hq).mono λz hz=>O8 _ hz
  have hLP:∀y∈L,∃i,i<sg.nown/\Pm i y.1:=λy hy=>by
   rcases List.mem_append.1 hy with hy|hy
   ·obtain⟨i,a1,a2,a3⟩:=(kb.b y hy).2.1;exact⟨i,by simp only[Sig.nown];omega,a3⟩
   ·obtain⟨i,a1,a2,a3⟩:=(kc1 y hy).2.1;exact⟨i,by simp only[Sig.nown];omega,a3⟩
  have hLone:∀i,∀y∈L,∀z∈L,Pm i y.1->Pm i z.1->y.1=z.1:=λi y hy z hz e1 e2=>by
   have hh:∀w∈KB h' sg.r rv,Pm i w.1->i<sg.r.n:=λw hw hP=>by
    obtain⟨i',a1,a2,a3⟩:=(kb.b w hw).2.1;have:=u1 _ _ _ hP a3;omega
   have ht:∀w∈aU h' sg.ps args,Pm i w.1->sg.r.n<=i:=λw hw hP=>by
    obtain⟨i',a1,a2,a3⟩:=(kc1 w hw).2.1;have:=u1 _ _ _ hP a3;omega
   rcases List.mem_append.1 hy with hy|hy
   ·rcases List.mem_append.1 hz with hz|hz
    ·exact Cb u1 hnq k1 i y hy z hz e1 e2
    ·have:=hh y hy e1;have:=ht z hz e2;omega
   ·rcases List.mem_append.1 hz with hz|hz
    ·have:=ht y hy e1;have:=hh z hz e2;omega
    ·exact Eg u1 hps k2 hbp i y hy z hz e1 e2
  have hA':h'.A.length=G.length:=by rw[f5.la,S.ha,hIm]
  obtain⟨bs,R2,b1,b2,b3⟩:=th G.length (i:=0) (h:=h') (by omega);have b3':∀k,k<G.length->∃b,bs[k]?=some b/\h'.get (.a k)=some ⟨0,b⟩:=λk hk=>by
   obtain⟨b,e1,e2⟩:=b3 k hk;exact⟨b,e1,by simpa using e2⟩
  have hpart:∀k,k<G.length->∃p,P p (.a k)/\I.al k=p:=λk hk=>by
   obtain⟨p,hp⟩:=KR.isPart kr (hG k _ (Pa hk));exact⟨p,hp,hal p k hp⟩
  have hflat:∀k ver b p,P p (.a k)->p∉aV sg.ps 0->h'.get (.a k)=some ⟨ver,some b⟩->bX b.es=true:=λk ver b p hP hnb hgk=>by
   rw[hsa]at hgk;refine S.fl k ver b ?_ hgk;rw[hIfl,hal p k hP];simp only[Sig.fl,PC,PW,PD];exact hnb
  have hboxk:∀k p,k<G.length->P p (.a k)->p∈aV sg.ps 0->k∈jO sg.ps args:=λk p hk hP hpb=>by
   obtain⟨i,ks,v,e1,e2,⟨ver,e3⟩,_⟩:=C7 uP hps kr p hpb _ (hG k _ (Pa hk)) hP;simp only at e3;obtain⟨k',ver',e4⟩:=hbp i ks v e1 e2;rw[e3]at e4;cases e4;exact AR hlens.1 e1 (by rw[e2,e3])
  have hzero:∀k,k∉jO sg.ps args->jM h' k=0:=λk hk=>by
   unfold jM;split
   ·rename_i ver b hgk;have hkl:k<G.length:=by
     simp only[Heap.get]at hgk;by_cases hlt:k<h'.A.length
     ·omega
     ·rw[Ph (by omega)]at hgk;cases hgk
    obtain⟨p,hp,_⟩:=hpart k hkl;by_cases hpb:p∈aV sg.ps 0
    ·exact absurd (hboxk k p hkl hp hpb) hk
    ·rw[nc (hflat k ver b p hp hpb hgk)];rfl
   ·rfl
  have hblen:(fI bs).length<=((jO sg.ps args).map (jM h')).sum:=by
   rw[tj (h:=h') (i:=0) b2 b3];simp only[PZ];exact sH (jM h') _ _ _ hzero
  have htodo:∀q∈kt rv++fI bs,inB L q:=λq hq=>by
   rcases List.mem_append.1 hq with hq|hq
   ·exact(kb.t q hq).mono λz hz=>Pc _ hz
   ·obtain⟨k,b,e1,e2⟩:=oI hq;have hkl:k<G.length:=by have:=getElem?_lt e1;omega
    obtain⟨b',e3,e4⟩:=b3' k hkl;rw[e1]at e3;cases e3;obtain⟨p,hp,_⟩:=hpart k hkl;by_cases hpb:p∈aV sg.ps 0
    ·exact(kc3 k (hboxk k p hkl hp hpb) _ _ e4 q e2).mono λz hz=>O8 _ hz
    ·rw[nc (hflat k _ b p hp hpb e4)]at e2;cases e2
  obtain⟨new,R3,n1,_,n3,n4,n5⟩:=ir (L:=L) (λy hy=>⟨hLive y hy,hLcl y hy⟩) 99 (todo:=kt rv++fI bs) (acc:=[]) (Rm:=L)
   (by
    have w1:=kb.w;rw[Pu,vG];omega) htodo (λy hy=>.inr hy) (λy hy=>by cases hy)
  obtain⟨_,nlive,npw,nloc⟩:=ef 99 (HM.runT_run n1) (λ_ h=>by cases h) List.Pairwise.nil (λ_ h=>by cases h);have hclS:Closed h' (new++L.filter λy=> !GO y.1):=by
   refine⟨λy hy=>?_,λy hy q hq=>?_⟩
   ·rcases List.mem_append.1 hy with hy|hy
    ·exact nlive y hy
    ·exact hLive y (List.mem_filter.1 hy).1
   ·have hin:inB L q:=by
     rcases List.mem_append.1 hy with hy|hy
     ·exact hLcl y (n3 y hy) q hq
     ·exact hLcl y (List.mem_filter.1 hy).1 q hq
    by_cases hl:GO q.1=true
    ·have:inB new q:=by
      rcases List.mem_append.1 hy with hy|hy
      ·rcases n5 y hy with h0|h0
       ·cases h0
       ·exact h0 q hq hl
      ·obtain⟨hyL,hya⟩:=List.mem_filter.1 hy;have hg0:=hLive y hyL;obtain⟨yr,yv,yb⟩:=y;cases yr with
       |l s=>simp[GO]at hya
       |dead=>simp[Heap.get]at hg0
       | a k=>
        have hkl:k<G.length:=by
         simp only[Heap.get]at hg0;by_cases hlt:k<h'.A.length
         ·omega
         ·rw[Ph (by omega)]at hg0;cases hg0
        obtain⟨b',e3,e4⟩:=b3' k hkl;simp only at hg0;rw[hg0]at e4;cases e4;exact n4 q (O8 _ (lV e3 hq)) hl
     exact this.mono λz hz=>Pc _ hz
    ·obtain⟨b,hb⟩:=hin;exact⟨b,O8 _ (List.mem_filter.2 ⟨hb,by simpa using hl⟩)⟩
  have hcov:∀y∈L,GO y.1=true->y∈new:=λy hy hl=>by
   have hS:y∈new++L.filter λy=> !GO y.1:=by
    rcases List.mem_append.1 hy with hy|hy
    ·refine Gz hclS k1 (λq hq=>?_) y hy;by_cases hl:GO q.1=true
     ·exact(n4 q (Pc _ hq) hl).mono λz hz=>Pc _ hz
     ·obtain⟨b,hb⟩:=(kb.t q hq).mono (m:=L) λz hz=>Pc _ hz;exact⟨b,O8 _ (List.mem_filter.2 ⟨hb,by simpa using hl⟩)⟩
    ·
     have aux:∀{ps:List K}{vs:List PV}{j:Nat}{xs:List PV},KOuts h' Pm ps vs j xs->(∀(i:Nat)(ks:List K)(v:PV),ps[i]?=some (.B false ks)->vs[i]?=some v->∃k ver,v=.ptr (.a k) ver 0 0/\k<G.length)->
       (∀y∈aU h' ps vs,y∈L)->∀y∈aU h' ps vs,y∈new++L.filter λy=> !GO y.1:=by
      intro ps;induction ps with
      |nil=>intro vs j xs _ _ _ y hy;cases hy
      | cons k ps ih=>
       intro vs j xs H hb hsub y hy;cases vs with
       |nil=>cases k<;>simp[KOuts]at H
       | cons v vs=>
        have hb':∀(i:Nat)(ks:List K)(v:PV),ps[i]?=some (.B false ks)->vs[i]?=some v->∃k ver,v=.ptr (.a k) ver 0 0/\k<G.length:=λi ks w h1 h2=>hb (i+1) ks w (by simpa using h1) (by simpa using h2);cases k with
        | B ro ks=>
         cases ro with
         |true=>exact ih (j:=j) (xs:=xs) H hb' (by simpa only[aU,Pi]using hsub) y (by simpa only[aU,Pi]using hy)
         | false=>
          cases xs with
          |nil=>simp[KOuts]at H
          | cons x xs=>
           obtain⟨⟨r,ver,n,e,os,q1,q2,q3,q4,q5⟩,H2⟩:=H;obtain⟨k,ver',hk,hkl⟩:=hb 0 ks v rfl rfl;rw[q1]at hk;cases hk;subst q1;have hout:aU h' (.B false ks::ps) (.ptr (.a k) ver 0 0::vs)=jS h' ks e.cells++aU h' ps vs:=by simp only[aU,q2]
           rw[hout]at hy hsub;rcases List.mem_append.1 hy with hy|hy
           ·refine pz hclS q5 (λq hq=>?_) y hy;obtain⟨b,hb0⟩:=(ga q5).t q hq;have hbL:=hsub _ (Pc _ hb0);by_cases hl:GO q.1=true
            ·obtain⟨b',e3,e4⟩:=b3' k hkl;rw[q2]at e4;simp only[O5,fg.mk.injEq]at e4;have htk:q∈bi ([e]:List PV):=by
              simp only[bi,PB];rw[jF e (dR q3)];exact hq
             exact(n4 q (O8 _ (lV (b:=⟨n,[e],false⟩) (by rw[e3,<-e4.2]) htk)) hl).mono λz hz=>Pc _ hz
            ·exact⟨b,O8 _ (List.mem_filter.2 ⟨hbL,by simpa using hl⟩)⟩
           ·exact ih H2 hb' (λy hy=>hsub y (O8 _ hy)) y hy
        |F=>exact ih (j:=j) (xs:=xs) H hb' (by simpa only[aU,Pi]using hsub) y (by simpa only[aU,Pi]using hy)
        |O sz wf=>exact ih (j:=j) (xs:=xs) H hb' (by simpa only[aU,Pi]using hsub) y (by simpa only[aU,Pi]using hy)
        |Q=>exact ih (j:=j) (xs:=xs) H hb' (by simpa only[aU,Pi]using hsub) y (by simpa only[aU,Pi]using hy)
        |A ks=>exact ih (j:=j) (xs:=xs) H hb' (by simpa only[aU,Pi]using hsub) y (by simpa only[aU,Pi]using hy)
        |T ks=>exact ih (j:=j) (xs:=xs) H hb' (by simpa only[aU,Pi]using hsub) y (by simpa only[aU,Pi]using hy)
     refine aux k2 (λi ks v e1 e2=>?_) (λy hy=>O8 _ hy) y hy;obtain⟨r,ver,p,h1,h2⟩:=KRs.box kr i ks v e1 e2;obtain⟨k,rfl,hkl⟩:=loc p r h2;exact⟨k,ver,h1,hkl⟩
   rcases List.mem_append.1 hS with h0|h0
   ·exact h0
   ·have:=(List.mem_filter.1 h0).2;rw[hl]at this;cases this
  have hidx:∀y∈new,∃k,new[k]?=some y/\eY new y.1 y.2.1=some (.l k,0):=by
   intro y hy;obtain⟨k,hk⟩:=QO hy;have hne:=ri (k:=0) (r:=y.1) (v:=y.2.1) (b:=y.2.2) hk;obtain⟨s,hs⟩:=nloc y hy;cases hx:fV y.1 y.2.1 new 0 with
   |none=>exact absurd hx hne
   |some j=>
    obtain⟨i,b,e1,e2⟩:=dN hx;have:=dV npw hk e2 rfl;subst this;refine⟨k,hk,?_⟩;rw[hs]at hx⊢;simp only[eY,hx,e1,PZ]
  let G':List (Option Blk):=bs.map (λb=>match b with|some b=>some (b.ren (eY new))|none=>none)++new.map λx=>some (x.2.2.ren (eY new))
  have hGl:G'.length=G.length+new.length:=by simp only[G',Pu,PU,b2]
  have hGtake:G'.take G.length=bs.map (λb=>match b with|some b=>some (b.ren (eY new))|none=>none):=by
   simp only[G'];rw[List.take_append_of_le_length (by rw[PU,b2];exact Pf _),Qv (by rw[PU,b2];exact Pf _)]
  have hGdrop:G'.drop G.length=new.map λx=>some (x.2.2.ren (eY new)):=by
   simp only[G'];rw[List.drop_append_of_le_length (by rw[PU,b2];exact Pf _),List.drop_eq_nil_of_le (by rw[PU,b2];exact Pf _),Pi]
  have hXa:∀k b,h'.get (.a k)=some ⟨0,some b⟩->(HX G.length G').get (.a k)=some ⟨0,some (b.ren (eY new))⟩:=λk b hgk=>by
   have hkl:k<G.length:=by
    simp only[Heap.get]at hgk;by_cases hlt:k<h'.A.length
    ·omega
    ·rw[Ph (by omega)]at hgk;cases hgk
   obtain⟨b',e3,e4⟩:=b3' k hkl;rw[hgk]at e4;cases e4;simp only[HX,Heap.get,hGtake,Pk,e3,Py]
  have hXl:∀(k:Nat)(y:B3),new[k]?=some y->(HX G.length G').get (.l k)=some ⟨0,some (y.2.2.ren (eY new))⟩:=λk y hk=>by
   simp only[HX,Heap.get,hGdrop,List.map_map,Pk,hk,Py,Function.comp]
  let P':Nat->aq->Prop:=λi q=>∃y∈L,Pm i y.1/\∃u,eY new y.1 y.2.1=some (q,u)
  have hMv:∀l:List B3,(∀y∈l,y∈L)->Moved Pm P' (HX G.length G') (eY new) l:=by
   intro l hl y hy i hP;have hyL:=hl y hy;have hg0:=hLive y hyL;obtain⟨yr,yv,yb⟩:=y;cases yr with
   |dead=>simp[Heap.get]at hg0
   |a k=>
    have hv:=Heap.ver_a hg0;simp only at hv hg0;subst hv;exact⟨.a k,0,yb.ro,rfl,hXa k yb hg0,λh=>h,_,hyL,hP,0,rfl⟩
   |l s=>
    obtain⟨k,e1,e2⟩:=hidx _ (hcov _ hyL rfl);exact⟨.l k,0,yb.ro,e2,hXl k _ e1,λh=>h,_,hyL,hP,0,e2⟩
  have hinj:∀y∈L,∀z∈L,∀q u u',eY new y.1 y.2.1=some (q,u)->eY new z.1 z.2.1=some (q,u')->y.1=z.1:=by
   intro y hy z hz q u u' e1 e2;have hgy:=hLive y hy;have hgz:=hLive z hz;obtain⟨yr,yv,yb⟩:=y;obtain⟨zr,zv,zb⟩:=z;cases yr with
   |dead=>simp[Heap.get]at hgy
   | a k=>
    simp only[eY,O5,Pq]at e1;obtain⟨rfl,rfl⟩:=e1;cases zr with
    |dead=>simp[Heap.get]at hgz
    |a k'=>simp only[eY,O5,Pq]at e2;exact e2.1.symm
    |l s=>
     obtain⟨k2,_,e3⟩:=hidx _ (hcov _ hz rfl);rw[e2]at e3;cases e3
   | l s=>
    obtain⟨k1',q1,e3⟩:=hidx _ (hcov _ hy rfl);rw[e1]at e3;cases e3;cases zr with
    |dead=>simp[Heap.get]at hgz
    |a k'=>simp only[eY,O5,Pq]at e2;cases e2.1
    |l s'=>
     obtain⟨k2,q2,e4⟩:=hidx _ (hcov _ hz rfl);rw[e2]at e4;cases e4;rw[q1]at q2;cases q2;rfl
  have hren0:∀(i:Nat)(ks:List K)(v:PV),sg.ps[i]?=some (.B false ks)->args[i]?=some v->True:=λ_ _ _ _ _=>trivial;refine⟨ren (eY new) rv,G',h',x,outs,?_,f2,o2,?_⟩
  ·rw[Eb];refine HM.runT_run (HM.runT_bind_of r1 (HM.runT_bind_of f1 (HM.runT_bind_of b1 (HM.runT_bind_of n1 rfl))))
  ·refine⟨ by rw[hGl];omega,λb hb=>?_,⟨P',?_⟩,λp hp k hP=>?_,λp hp k b hP hk=>?_⟩
   ·rw[hGdrop]at hb;obtain⟨y,_,rfl⟩:=List.mem_map.1 hb;simp
   ·refine⟨ KR.ren (.inl hnq) k1 (hMv _ λy hy=>Pc _ hy),?_,?_,?_,?_,?_,?_,?_⟩
    ·
     have aux:∀{ps:List K}{vs:List PV}{j:Nat}{xs:List PV},dX ps=true->KOuts h' Pm ps vs j xs->(∀(i:Nat)(ks:List K)(v:PV),ps[i]?=some (.B false ks)->vs[i]?=some v->∃k ver,v=.ptr (.a k) ver 0 0)->(∀y∈aU h' ps vs,y∈L)->KOuts (HX G.length G') P' ps vs j xs:=by
      intro ps;induction ps with
      |nil=>intro vs j xs _ H _ _;cases vs<;>cases xs<;>first|trivial|(simp[KOuts]at H)
      | cons k ps ih=>
       intro vs j xs hnqs H hb hsub;cases vs with
       |nil=>cases k<;>simp[KOuts]at H
       | cons v vs=>
        have hb':∀(i:Nat)(ks:List K)(v:PV),ps[i]?=some (.B false ks)->vs[i]?=some v->∃k ver,v=.ptr (.a k) ver 0 0:=λi ks w h1 h2=>hb (i+1) ks w (by simpa using h1) (by simpa using h2);cases k with
        | B ro ks=>
         cases ro with
         |true=>exact ih (vs:=vs) (j:=j) (xs:=xs) (by simpa only[dX]using hnqs) H hb' (by simpa only[aU,Pi]using hsub)
         | false=>
          cases xs with
          |nil=>simp[KOuts]at H
          | cons x xs=>
           obtain⟨⟨r,ver,n,e,os,q1,q2,q3,q4,q5⟩,H2⟩:=H;simp only[dX,O6]at hnqs;obtain⟨k,ver',hk⟩:=hb 0 ks v rfl rfl;rw[q1]at hk;cases hk;subst q1;have hout:aU h' (.B false ks::ps) (.ptr (.a k) ver 0 0::vs)=jS h' ks e.cells++aU h' ps vs:=by simp only[aU,q2]
           rw[hout]at hsub;have hv:=Heap.ver_a q2;simp only at hv;subst hv;refine⟨⟨.a k,0,n,ren (eY new) e,os,rfl,?_,by rw[gF,jA];exact q3,q4,?_⟩,ih hnqs.2 H2 hb' λy hy=>hsub y (O8 _ hy)⟩
           ·have:=hXa k _ q2;simpa[Blk.ren,co]using this
           ·rw[gF];exact KRs.ren (.inl (hnqs.1)) q5 (hMv _ λy hy=>hsub y (Pc _ hy))
        |F=>exact ih (vs:=vs) (j:=j) (xs:=xs) (by simpa only[dX]using hnqs) H hb' (by simpa only[aU,Pi]using hsub)
        |O sz wf=>exact ih (vs:=vs) (j:=j) (xs:=xs) (by simpa only[dX]using hnqs) H hb' (by simpa only[aU,Pi]using hsub)
        |Q=>exact ih (vs:=vs) (j:=j) (xs:=xs) (by simpa only[dX]using hnqs) H hb' (by simpa only[aU,Pi]using hsub)
        |A ks=>exact ih (vs:=vs) (j:=j) (xs:=xs) (by simpa only[dX]using hnqs) H hb' (by simpa only[aU,Pi]using hsub)
        |T ks=>exact ih (vs:=vs) (j:=j) (xs:=xs) (by simpa only[dX]using hnqs) H hb' (by simpa only[aU,Pi]using hsub)
     exact aux (gV hps) k2 hbp λy hy=>O8 _ hy
    ·rintro i j q ⟨y,hy,hP1,u,e1⟩ ⟨z,hz,hP2,u',e2⟩
     have:=hinj y hy z hz q u u' e1 e2;rw[this]at hP1;exact u1 i j _ hP1 hP2
    ·rintro i q q' ⟨y,hy,hP1,u,e1⟩ ⟨z,hz,hP2,u',e2⟩
     have:=hLone i y hy z hz hP1 hP2;have hgy:=hLive y hy;have hgz:=hLive z hz;rw[this,hgz]at hgy;simp only[O5,fg.mk.injEq]at hgy;rw[this,<-hgy.1,e2]at e1;simp only[O5,Pq]at e1;exact e1.1.symm
    ·intro k hk;have hkn:k<new.length:=by omega
     have hy:=List.getElem_mem hkn;obtain⟨i,_,hP⟩:=hLP _ (n3 _ hy);obtain⟨k',e1,e2⟩:=hidx _ hy;have:k'=k:=dV npw e1 (Pa hkn) rfl;subst this;exact⟨i,_,n3 _ hy,hP,0,e2⟩
    ·rintro i q ⟨y,hy,hP,u,e1⟩
     obtain⟨i',hi',hP'⟩:=hLP y hy;rw[u1 _ _ _ hP hP'];exact hi'
    ·rintro i k ⟨y,hy,hP,u,e1⟩
     have hgy:=hLive y hy;obtain⟨yr,yv,yb⟩:=y;cases yr with
     |dead=>simp[Heap.get]at hgy
     |a k'=>simp only[eY,O5,Pq]at e1;cases e1.1
     |l s=>
      obtain⟨k',e2,e3⟩:=hidx _ (hcov _ hy rfl);rw[e1]at e3;cases e3;have:=getElem?_lt e2;omega
    ·rintro i k ⟨y,hy,hP,u,e1⟩
     have hgy:=hLive y hy;obtain⟨i',hi',hP'⟩:=hLP y hy;have hii:=u1 _ _ _ hP hP';subst hii;obtain⟨yr,yv,yb⟩:=y;cases yr with
     |dead=>simp[Heap.get]at hgy
     |l s=>
      obtain⟨k',e2,e3⟩:=hidx _ (hcov _ hy rfl);rw[e1]at e3;cases e3
     | a k'=>
      simp only[eY,O5,Pq]at e1;obtain⟨e1,_⟩:=e1;cases e1;have hkl:k<G.length:=by
       simp only[Heap.get]at hgy;by_cases hlt:k<h'.A.length
       ·omega
       ·rw[Ph (by omega)]at hgy;cases hgy
      obtain⟨p,hp,hpe⟩:=hpart k hkl;obtain⟨l,hl,hq⟩:=hP;rw[S.nm.a k]at hq;refine⟨p,?_,hp⟩;rw[<-hpe];by_cases hir:i<sg.r.n
      ·left;rw[Pz (by rw[f3];exact hir)]at hl;have:=List.all_eq_true.1 (List.all_eq_true.1 d2 l (Pl hl)) _ hq;rw[show(2*I.al k+1)/2=I.al k by omega]at this;have h2:((2*I.al k+1) %2==0)=false:=by simp
       rw[h2]at this;simp only[QN,PW,PG]at this;exact⟨hir,this⟩
      ·right;rw[Pp (by rw[f3];omega),f3]at hl;exact⟨by omega,qz d3 hl hq⟩
   ·
    obtain⟨k',e,hkl⟩:=loc p _ hP;cases e;have hpq:p∉aV sg.ps 0:=by
     have:=List.all_eq_true.1 hqb p hp;simpa using this
    have hkp:=S.kp (.a k) (by
     rw[S.nm.a k,hal p k hP,hIkp];exact List.mem_map.2 ⟨p,hp,rfl⟩)
    rw[hI0]at hkp;have hb0:(HA G).get (.a k)=some ⟨0,some G[k]⟩:=by
     simp[HA,Heap.get,Pa hkl]
    rw[hb0]at hkp;have hcase:∃b,h'.get (.a k)=some ⟨0,some b⟩/\b.sz=G[k].sz/\b.es=G[k].es:=by
     rw[hsa];rcases hkp with e|⟨ver,sz,es,⟨r1,e1⟩,r2,e2⟩
     ·exact⟨_,e,rfl,rfl⟩
     ·simp only[O5,fg.mk.injEq]at e2;obtain⟨rfl,e2⟩:=e2;exact⟨_,e1,by rw[e2],by rw[e2]⟩
    obtain⟨b,e1,e2,e3⟩:=hcase;have hpl:=hflat k _ b p hP hpq e1;rw[hXa k b e1,hb0];right;refine⟨0,b.sz,b.es,⟨b.ro,by simp only[Blk.ren,(fL hpl _).1]⟩,G[k].ro,by rw[e2,e3]⟩
   ·obtain⟨k',e,hkl⟩:=loc p _ hP;cases e;obtain⟨b',e3,e4⟩:=b3' k hkl;have hGk:G'[k]?=some (b'.map (Blk.ren (eY new))):=by
     simp only[G'];rw[Pz (by rw[PU,b2];exact hkl),Pk,e3];cases b'<;>rfl
    rw[hGk]at hk;cases b' with
    |none=>cases hk
    |some b'=>
     simp only[Py,O5]at hk;have hpl:=hflat k _ b' p hP hp e4;rw[<-hk];simp only[Blk.ren,(fL hpl _).1];exact hpl
 ·cases H
def sK(df:Nat->Bool)(fs:List Nat):Bool:=fs.all λn=> !df n
mutual
def AV.dg(df:Nat->Bool):AV->AV
 |.O fs w wr sz e=>.O fs w (wr&&sK df fs) sz e
 |.EP fs w wr sz e i o=>.EP fs w (wr&&sK df fs) sz e i o
 |.L fs sz cs=>if sK df fs then .L fs sz (AV.dgL df cs)else .D
 |.A cs=>.A (AV.dgL df cs)
 |.C f cs=>.C f (AV.dgL df cs)
 |.T cs=>.T (AV.dgL df cs)
 |.G g p a=>.G g p (a.dg df)
 |a=>a
def AV.dgL(df:Nat->Bool):List AV->List AV
 |[]=>[]
 |a::as=>a.dg df::AV.dgL df as
end
structure uV (nf df idf vf:Nat->Bool) (c c':Cx) (h h':Heap) (env env':Env):Prop where
 n:∀r,nf (c.nm r)=false->SameRo (h'.get r) (h.get r)/\c'.nm r=c.nm r
 e:∀r,nf (c.nm r)=false->df (c.nm r)=false->h'.get r=h.get r
 i:∀w,idf w=false->c'.nu w=c.nu w/\c'.be w=c.be w
 v:∀n,vf n=false->env' n=env n
section
variable{nf df idf vf:Nat->Bool}{c c':Cx}{h h':Heap}{env env':Env}
theorem SameRo.blk{x:Option fg}{ver:Nat}{b:Blk}(h:SameRo x (some ⟨ver,some b⟩)):∃ro,x=some ⟨ver,some ⟨b.sz,b.es,ro⟩⟩:=by
 rcases h with rfl|⟨v,sz,es,⟨r1,e1⟩,r2,e2⟩
 ·exact⟨b.ro,rfl⟩
 ·cases e2;exact⟨r1,e1⟩
theorem TokAt.frame2(M:uV nf df idf vf c c' h h' env env'){fs:List Nat}(hf:fs.all (λn=> !nf n)=true){sz:Nat}{r:aq}{ver off len room:Nat}{c0:Bool}{b:Blk}{v x:PV}
  (T:TokAt (λr=>c.nm r∈fs) h sz r ver off len room c0 b v x):∃b',TokAt (λr=>c'.nm r∈fs) h' sz r ver off len room c0 b' v x/\b'.es=b.es:=by
 obtain⟨h1,h2,h3,h4⟩:=T;have:=M.n r (fZ hf h2);rw[h3]at this;obtain⟨ro,hr⟩:=this.1.blk;exact⟨⟨b.sz,b.es,ro⟩,⟨h1,by simp only[this.2];exact h2,hr,h4⟩,rfl⟩
theorem TokOk.frame2(M:uV nf df idf vf c c' h h' env env'){fs:List Nat}(hf:fs.all (λn=> !nf n)=true){sz:Nat}{v x:PV}(T:TokOk (λr=>c.nm r∈fs) h sz v x):TokOk (λr=>c'.nm r∈fs) h' sz v x:=by
 rcases T with T|⟨r,ver,off,len,room,c0,b,T⟩
 ·exact .inl T
 ·obtain⟨b',T',_⟩:=T.frame2 M hf;exact .inr ⟨r,ver,off,len,room,c0,b',T'⟩
theorem WrOk.frame2(M:uV nf df idf vf c c' h h' env env'){fs:List Nat}(hf:fs.all (λn=> !nf n)=true)(hd:sK df fs=true){sz:Nat}{v x:PV}(T:TokOk (λr=>c.nm r∈fs) h sz v x)(W:WrOk h v):WrOk h' v:=by
 rcases W with W|⟨r,ver,sz',off,len,room,b,rfl,h1,h2⟩
 ·exact .inl W
 ·rcases T with⟨T,_⟩|⟨r',ver',off',len',room',c0',b',hv,T2,T⟩
  ·exact .inl T
  ·cases hv;exact .inr ⟨r,ver,_,off,len,room,b,rfl,by rw[M.e r (fZ hf T2) (fZ hd T2)];exact h1,h2⟩
theorem QL.frame2(M:uV nf df idf vf c c' h h' env env'){fs:List Nat}(hf:fs.all (λn=> !nf n)=true):∀{vs xs:List PV},QL (λr=>c.nm r∈fs) h vs xs->QL (λr=>c'.nm r∈fs) h' vs xs
 |[],[],_=>trivial
 | v::vs,x::xs,H=>by
  obtain⟨H1,H2⟩:=H;refine⟨?_,QL.frame2 M hf H2⟩;rcases H1 with H1|⟨r,ver,n,e,ro,h1,h2,h3,h4⟩
  ·exact .inl H1
  ·have:=M.n r (fZ hf h2);rw[h3]at this;obtain⟨ro',hr⟩:=this.1.blk;exact .inr ⟨r,ver,n,e,ro',h1,by simp only[this.2];exact h2,hr,h4⟩
 |[],_::_,H=>by cases H
 |_::_,[],H=>by cases H
theorem iZ(M:uV nf df idf vf c c' h h' env env'){e:X}(hm:(!e.ment vf)=true):e.ev env'=e.ev env:=X.ev_ment M.v (by simpa using hm)
mutual
theorem Rel.frame2(M:uV nf df idf vf c c' h h' env env'):∀{a:AV}{v:PV},a.ok nf idf vf=true->Rel c h env a v->Rel c' h' env' (a.dg df) v
 |.D,v,_,_=>trivial
 |.F e,v,ho,R=>by
  simp only[AV.ok]at ho;simp only[AV.dg,Rel]at R⊢;rw[iZ M ho];exact R
 |.N e,v,ho,R=>by
  simp only[AV.ok]at ho;simp only[AV.dg,Rel]at R⊢;rw[iZ M ho];exact R
 | .O fs w wr sz e,v,ho,R=>by
  simp only[AV.ok,O6,PC]at ho;simp only[AV.dg,Rel]at R⊢;obtain⟨h1,x,h2,h3,h4⟩:=R;exact⟨by rw[(M.i w ho.1.2).1];exact h1,x,h2.frame2 M ho.1.1,by rw[iZ M (by simpa using ho.2)];exact h3,λhw=>by
   simp only[O6]at hw;exact(h4 hw.1).frame2 M ho.1.1 hw.2 h2⟩
 |.Q fs e,v,ho,R=>by
  simp only[AV.ok,O6,PC]at ho;simp only[AV.dg,Rel]at R⊢;obtain⟨f,vs,xs,h1,h2,h3,h4⟩:=R;exact⟨f,vs,xs,h1,h2.frame2 M ho.1,by rw[iZ M (by simpa using ho.2)];exact h3,h4⟩
 |.P b o,v,ho,R=>by
  simp only[AV.ok,PC]at ho;simp only[AV.dg,Rel]at R⊢;rw[(M.i b ho).2];exact R
 | .EP fs w wr sz e i o,v,ho,R=>by
  simp only[AV.ok,O6,PC]at ho;simp only[AV.dg,Rel,Bf]at R⊢;obtain⟨r,ver,off,len,room,c0,b,x,k,n,h1,h2,h3,h4,h5⟩:=R;obtain⟨b',h1',_⟩:=h1.frame2 M ho.1.1.1;refine⟨r,ver,off,len,room,c0,b',x,k,n,?_,by rw[iZ M (by simpa using ho.1.2)];exact h2,λhw=>?_,by rw[iZ M (by simpa using ho.2)];exact h4,h5⟩
  ·rw[(M.i w ho.1.1.2).1];exact h1'
  ·simp only[O6]at hw;rw[(M.i w ho.1.1.2).1];exact(h3 hw.1).frame2 M ho.1.1.1 hw.2 (.inr ⟨_,_,_,_,_,_,_,h1⟩)
 |.A cs,v,ho,R=>by
  simp only[AV.ok]at ho;simp only[AV.dg,Rel]at R⊢;obtain⟨vs,h1,h2,h3⟩:=R;exact⟨vs,h1,h2,RelL.frame2 M ho h3⟩
 | .L fs sz cs,v,ho,R=>by
  simp only[AV.ok,O6]at ho;simp only[AV.dg];split
  ·rename_i hd;simp only[Rel]at R⊢;obtain⟨r,ver,vs,h1,h2,h3,h4,h5⟩:=R;have:=M.n r (fZ ho.1 h2);exact⟨r,ver,vs,h1,by rw[this.2];exact h2,by rw[M.e r (fZ ho.1 h2) (fZ hd h2)];exact h3,h4,RelL.frame2 M ho.2 h5⟩
  ·trivial
 |.C f cs,v,ho,R=>by
  simp only[AV.ok]at ho;simp only[AV.dg,Rel]at R⊢;obtain⟨vs,h1,h3⟩:=R;exact⟨vs,h1,RelL.frame2 M ho h3⟩
 |.T cs,v,ho,R=>by
  simp only[AV.ok]at ho;simp only[AV.dg,Rel]at R⊢;obtain⟨vs,h1,h3⟩:=R;exact⟨vs,h1,RelL.frame2 M ho h3⟩
 |.G g p a,v,ho,R=>by
  simp only[AV.ok,O6]at ho;simp only[AV.dg,Rel]at R⊢;rw[iZ M ho.1];rcases R with R|R
  ·exact .inl ⟨R.1,Rel.frame2 M ho.2 R.2⟩
  ·exact .inr R
theorem RelL.frame2(M:uV nf df idf vf c c' h h' env env'):∀{as:List AV}{vs:List PV},AV.okL nf idf vf as=true->RelL c h env as vs->RelL c' h' env' (AV.dgL df as) vs
 |[],[],_,_=>trivial
 |a::as,v::vs,ho,R=>by
  simp only[AV.okL,O6]at ho;exact⟨Rel.frame2 M ho.1 R.1,RelL.frame2 M ho.2 R.2⟩
 |[],_::_,_,R=>by cases R
 |_::_,[],_,R=>by cases R
end
def AV.keep2(nf df idf vf:Nat->Bool)(a:AV):AV:=if a.ok nf idf vf then a.dg df else .D
theorem RelL.keep2(M:uV nf df idf vf c c' h h' env env'):∀{as:List AV}{vs:List PV},RelL c h env as vs->RelL c' h' env' (as.map (AV.keep2 nf df idf vf)) vs
 |[],[],_=>trivial
 |a::as,v::vs,R=>by
  refine⟨?_,RelL.keep2 M R.2⟩;simp only[AV.keep2];split
  ·rename_i ho;exact Rel.frame2 M ho R.1
  ·trivial
 |[],_::_,R=>by cases R
 |_::_,[],R=>by cases R
def Abs.keep2(nf df idf vf:Nat->Bool)(a:Abs):Abs:=
 ⟨(a.t.filter λp=>p.2.ok nf idf vf).map λp=>(p.1,p.2.dg df),(a.b.filter λx=> !idf x.id&&x.fs.all λn=> !nf n).map λx=>⟨x.id,x.ro|| !sK df x.fs,x.fs,x.cs.map (AV.keep2 nf df idf vf)⟩⟩
theorem BoxOk.keep2(M:uV nf df idf vf c c' h h' env env'){x:BX}(hx:(!idf x.id&&x.fs.all λn=> !nf n)=true)(B:BoxOk c h env x):BoxOk c' h' env' ⟨x.id,x.ro|| !sK df x.fs,x.fs,x.cs.map (AV.keep2 nf df idf vf)⟩:=by
 simp only[O6,PC]at hx;obtain⟨n,e,ro,h1,h2,h3,h4,h5⟩:=B;have hb:=(M.i x.id hx.1).2;have hr:=M.n (c.be x.id).1 (fZ hx.2 h1);rw[h2]at hr;obtain⟨ro',hr'⟩:=hr.1.blk;refine⟨n,e,ro',?_,?_,λhro=>?_,h4,h5.keep2 M⟩
 ·simp only[hb,hr.2];exact h1
 ·simp only[hb];exact hr'
 ·simp only[Bool.or_eq_false_iff,Bool.not_eq_false']at hro;have he:=M.e (c.be x.id).1 (fZ hx.2 h1) (fZ hro.2 h1);rw[hr',h2]at he;simp only[O5,fg.mk.injEq,Blk.mk.injEq,true_and]at he;rw[he];exact h3 hro.1
end
def NI:AV->Option (X×List Nat)
 |.O fs _ _ _ e=>some (e,fs)
 |a=>af (fx a) λe=>some (e,[])
def Hh:List AV->Option (X×List Nat)
 |[]=>some (.nl,[])
 |a::as=>af (NI a) λp=>af (Hh as) λq=>some (.cn p.1 q.1,p.2++q.2)
def Oe:AV->Option (X×List Nat)
 |.A cs=>af (Hh cs) λp=>some (.agg p.1,p.2)
 |a=>NI a
section
variable{c:Cx}{h:Heap}{env:Env}
theorem Gt{a:AV}{v:PV}{p:X×List Nat}(R:Rel c h env a v)(H:NI a=some p)(n:Nat):
  ∃v' l Rr,(bR (n+3) v).runT h=some ((v',l),h,Rr,[])/\pl v'=true/\p.1.ev env=some (aO v')/\(∀y∈l,c.nm y.1∈p.2/\h.get y.1=some ⟨y.2.1,some y.2.2⟩)/\(∀r∈Rr,r≠ .dead/\c.nm r∈p.2)/\(v.isCell=true->v'.isCell=true):=by
 unfold NI at H;split at H
 ·rename_i fs w wr sz e;cases H;obtain⟨hv,x,T,he,_⟩:=R;rcases T with⟨hn,hx⟩|⟨r,ver,off,len,room,c0,b,hT,hnm,hget,hs,ho,hr,hpl,hc,hx⟩
  ·have hp:=iM hn;exact⟨v,[],[],by rw[np hp.1];rfl,hp.1,by rw[hp.2,<-hx];exact he,λ_ h=>(by cases h),λ_ h=>(by cases h),λh=>h⟩
  ·have hview:=du (cX hpl off) len;by_cases h0:len=0
   ·subst h0;refine⟨.lst [] c0,[],[],?_,rfl,by rw[he,hx];simp[aO,aB],λ_ h=>(by cases h),λ_ h=>(by cases h),λ_=>rfl⟩;rw[hT];rfl
   ·refine⟨.lst ((b.es.drop off).take len) c0,[(r,ver,b)],[r]++[],?_,hview,by rw[he,hx];simp[aO],λy hy=>?_,λq hq=>?_,λ_=>rfl⟩
    ·rw[hT];have hfr:bR (n+3) (.tok r ver sz off len room c0)=if len=0 then .ret (.lst [] c0,[])else
       (bS r ver).bind λb=>if off+len<=b.es.length/\b.sz=sz then
        (qh (bR (n+2)) ((b.es.drop off).take len)).bind λes=>if dv es.1 then .ret (.lst es.1 c0,(r,ver,b)::es.2)else .fail
       else .fail:=rfl
     rw[hfr,Pd h0];refine HM.runT_bind_of (W:=[]) (W2:=[]) (R2:=[]) (aW hget) ?_;rw[O9 ⟨ho,hs⟩,CI hview];simp only[HM.bind,Bv hview,PQ];rfl
    ·simp only[Px]at hy;subst hy;exact⟨hnm,hget⟩
    ·simp only[PB,Px]at hq;subst hq;exact⟨bB hget,hnm⟩
 ·simp only[ab]at H;obtain⟨e,h1,h2⟩:=H;cases h2;have:=lJ R h1;exact⟨v,[],[],by rw[np this.1];rfl,this.1,this.2,λ_ h=>(by cases h),λ_ h=>(by cases h),λh=>h⟩
theorem Dj(n:Nat):∀{as:List AV}{vs:List PV}{p:X×List Nat},RelL c h env as vs->Hh as=some p->
  ∃vs' l Rr,(qh (bR (n+3)) vs).runT h=some ((vs',l),h,Rr,[])/\bX vs'=true/\p.1.ev env=some (.tup (aB vs'))/\(∀y∈l,c.nm y.1∈p.2/\h.get y.1=some ⟨y.2.1,some y.2.2⟩)/\(∀r∈Rr,r≠ .dead/\c.nm r∈p.2)/\(aj vs=true->aj vs'=true)
 |[],[],p,_,H=>by cases H;exact⟨[],[],[],rfl,rfl,rfl,λ_ h=>(by cases h),λ_ h=>(by cases h),λh=>h⟩
 | a::as,v::vs,p,R,H=>by
  simp only[Hh,ab]at H;obtain⟨p1,h1,q,h2,h3⟩:=H;cases h3;obtain⟨v',l,R1,k1,k2,k3,k4,k5,k6⟩:=Gt R.1 h1 n;obtain⟨vs',l',R2,m1,m2,m3,m4,m5,m6⟩:=Dj n R.2 h2;refine⟨v'::vs',l++l',R1++(R2++[]),?_,by simp only[bX,k2,m2,PE],by simp only[X.ev,k3,m3,ac,aB],λy hy=>?_,λr hr=>?_,λhc=>?_⟩
  ·rw[qh];refine HM.runT_bind_of (W:=[]) (W2:=[]) k1 ?_;exact HM.runT_bind_of (W:=[]) (W2:=[]) m1 rfl
  ·rcases List.mem_append.1 hy with hy|hy
   ·exact⟨Pc _ (k4 y hy).1,(k4 y hy).2⟩
   ·exact⟨O8 _ (m4 y hy).1,(m4 y hy).2⟩
  ·rw[PB]at hr;rcases List.mem_append.1 hr with hr|hr
   ·exact⟨(k5 r hr).1,Pc _ (k5 r hr).2⟩
   ·exact⟨(m5 r hr).1,O8 _ (m5 r hr).2⟩
  ·simp only[aj,O6]at hc⊢;exact⟨k6 hc.1,m6 hc.2⟩
 |[],_::_,_,R,_=>by cases R
 |_::_,[],_,R,_=>by cases R
theorem JK{a:AV}{v:PV}{p:X×List Nat}(R:Rel c h env a v)(H:Oe a=some p):
  ∃v' l Rr,(bR 9 v).runT h=some ((v',l),h,Rr,[])/\pl v'=true/\p.1.ev env=some (aO v')/\(∀y∈l,c.nm y.1∈p.2/\h.get y.1=some ⟨y.2.1,some y.2.2⟩)/\(∀r∈Rr,r≠ .dead/\c.nm r∈p.2):=by
 unfold Oe at H;split at H
 ·rename_i cs;simp only[ab]at H;obtain⟨q,h1,h2⟩:=H;cases h2;obtain⟨vs,rfl,hok,hR⟩:=R;obtain⟨vs',l,R1,k1,k2,k3,k4,k5,k6⟩:=Dj 5 hR h1;refine⟨.agg vs',l,R1++[],?_,by simp only[pl,k6 hok,k2,PE],by simp only[X.ev,k3,ac,bT,dE,k6 hok,PQ,aO],k4,by rw[PB];exact k5⟩;have hfr:bR 9 (.agg vs)=(qh (bR 8) vs).bind λcs=>.ret (.agg cs.1,cs.2):=rfl;rw[hfr];exact HM.runT_bind_of (W:=[]) (W2:=[]) k1 rfl
 ·obtain⟨v',l,R1,k1,k2,k3,k4,k5,_⟩:=Gt R H 6;exact⟨v',l,R1,k1,k2,k3,k4,k5⟩
end
def JQ(a:Abs)(k:K)(b:Bool)(av:AV):Option (X×List (List Nat)×List Nat):=
 match k with
 |.F=>(match fx av with|some e=>some (e,[],[])|none=>if b then af (Oe av) λp=>some (p.1,[],p.2)else none)
 |.O sz wf=>if b then none else af (NG sz wf av) λp=>some (p.1,p.2,[])
 |.Q=>af (NN a av) λp=>some (p.1,p.2,[])
 |.B ro ks=>af (GM a (.B ro ks) av) λp=>some (p.1,p.2,[])
 |_=>none
def tg(a:Abs):List K->List Bool->List AV->Option (List X×List (List Nat)×List Nat)
 |[],_,[]=>some ([],[],[])
 |k::ks,bs,av::avs=>af (JQ a k (bs.headD false) av) λp=>af (tg a ks bs.tail avs) λq=>some (p.1::q.1,p.2.1++q.2.1,p.2.2++q.2.2)
 |_,_,_=>none
theorem G9{I:Inv}{c:Cx}{a:Abs}{env:Env}{σ:St}(S:Sim I c a env σ){k:K}{b:Bool}{av:AV}{v:PV}{p:X×List (List Nat)×List Nat}(j:Nat)(R:Rel c σ.h env av v)(H:JQ a k b av=some p):
  p.2.1.length=k.n/\∃x,p.1.ev env=some x/\ArgR σ.h (λi r=>Pn c p.2.1 (i-j) r) (λr=>c.nm r∈p.2.2) k b j v x:=by
 unfold JQ at H;split at H
 ·split at H
  ·rename_i e h1;cases H;have:=lJ R h1;exact⟨rfl,_,this.2,v,this.1,rfl,.inl rfl⟩
  ·split at H
   ·rename_i hb;simp only[ab]at H;obtain⟨q,h1,h2⟩:=H;cases h2;obtain⟨v',l,R1,k1,k2,k3,k4,k5⟩:=JK R h1;exact⟨rfl,_,k3,v',k2,rfl,.inr ⟨hb,l,R1,k1,k4,k5⟩⟩
   ·cases H
 ·split at H
  ·cases H
  ·rename_i hb;simp only[ab]at H;obtain⟨q,h1,h2⟩:=H;cases h2;obtain⟨l1,x,e1,k1⟩:=Fb j R h1;exact⟨l1,x,e1,k1,.inl (by simpa using hb)⟩
 ·simp only[ab]at H;obtain⟨q,h1,h2⟩:=H;cases h2;obtain⟨l1,x,e1,k1⟩:=FJ S j R h1;refine⟨l1,x,e1,k1,.inr λn=>?_⟩;obtain⟨f,vs,xs,rfl,_⟩:=k1;rfl
 ·simp only[ab]at H;obtain⟨q,h1,h2⟩:=H;cases h2;obtain⟨l1,x,e1,k1⟩:=B9 S j R h1;refine⟨l1,x,e1,k1,.inr λn=>?_⟩;obtain⟨r,ver,n',e,ro',xs,rfl,_⟩:=k1;rfl
 ·cases H
theorem ArgR.mono{h:Heap}{P P':Nat->aq->Prop}{Fr Fr':aq->Prop}{k:K}{b:Bool}{j:Nat}{v x:PV}(hp:∀i r,j<=i->i<j+k.n->P i r->P' i r)(hf:∀r,Fr r->Fr' r)(A:ArgR h P Fr k b j v x):ArgR h P' Fr' k b j v x:=by
 cases k with
 |F=>
  obtain⟨v',h1,h2,h3⟩:=A;refine⟨v',h1,h2,h3.imp id λ⟨hb,l,R,h⟩=>⟨hb,l,R,h.run,λy hy=>⟨hf _ (h.l y hy).1,(h.l y hy).2⟩,λq hq=>⟨(h.r q hq).1,hf _ (h.r q hq).2⟩⟩⟩
 |_=>exact⟨KR.mono hp A.1,A.2⟩
theorem uJ{I:Inv}{c:Cx}{a:Abs}{env:Env}{σ:St}(S:Sim I c a env σ):∀{ks:List K}{bs:List Bool}{avs:List AV}{vs:List PV}{p:List X×List (List Nat)×List Nat}(j:Nat),RelL c σ.h env avs vs->tg a ks bs avs=some p->
  p.2.1.length=K.nL ks/\∃xs,eO env p.1=some xs/\dM σ.h (λi r=>Pn c p.2.1 (i-j) r) (λr=>c.nm r∈p.2.2) ks bs j vs xs
 |[],bs,[],[],p,j,_,H=>by cases bs<;>(simp only[tg,O5]at H;subst H;exact⟨rfl,[],rfl,trivial⟩)
 | k::ks,bs,av::avs,v::vs,p,j,R,H=>by
  simp only[tg,ab]at H;obtain⟨q,h1,q',h2,h3⟩:=H;cases h3;obtain⟨l1,x,e1,k1⟩:=G9 S j R.1 h1;obtain⟨l2,xs,e2,k2⟩:=uJ S (j+k.n) R.2 h2;refine⟨by simp[l1,l2,K.nL],x::xs,by simp only[eO,e1,e2,ac],?_⟩;have m1:ArgR σ.h (λi r=>Pn c (q.2.1++q'.2.1) (i-j) r) (λr=>c.nm r∈q.2.2++q'.2.2) k (bs.headD false) j v x:=k1.mono (λi r h1 h2 hp=>by
   obtain⟨l,hl,hq⟩:=hp;exact⟨l,by rw[Pz (by omega)];exact hl,hq⟩) λr hr=>Pc _ hr
  have mono2:∀{ks:List K}{bs:List Bool}{j0:Nat}{vs xs:List PV}{P P':Nat->aq->Prop}{Fr Fr':aq->Prop},(∀i r,j0<=i->i<j0+K.nL ks->P i r->P' i r)->(∀r,Fr r->Fr' r)->dM σ.h P Fr ks bs j0 vs xs->dM σ.h P' Fr' ks bs j0 vs xs:=by
   intro ks;induction ks with
   |nil=>intro bs j0 vs xs P P' Fr Fr' _ _ A;cases vs<;>cases xs<;>first|(cases bs<;>trivial)|(simp[dM]at A)
   | cons k ks ih=>
    intro bs j0 vs xs P P' Fr Fr' hp hf A;cases vs with
    |nil=>cases bs<;>simp[dM]at A
    | cons v vs=>
     cases xs with
     |nil=>cases bs<;>simp[dM]at A
     |cons x xs=>
      cases bs with
      |nil=>exact⟨A.1.mono (λi r h1 h2=>hp i r h1 (by simp only[K.nL];omega)) hf,ih (λi r h1 h2=>hp i r (by omega) (by simp only[K.nL];omega)) hf A.2⟩
      |cons b bs=>exact⟨A.1.mono (λi r h1 h2=>hp i r h1 (by simp only[K.nL];omega)) hf,ih (λi r h1 h2=>hp i r (by omega) (by simp only[K.nL];omega)) hf A.2⟩
  have m2:=mono2 (P':=λi r=>Pn c (q.2.1++q'.2.1) (i-j) r) (Fr':=λr=>c.nm r∈q.2.2++q'.2.2) (λi r h1 h2 hp=>by
   obtain⟨l,hl,hq⟩:=hp;exact⟨l,by rw[Pp (by omega),l1,show i-j-k.n=i-(j+k.n)by omega];exact hl,hq⟩) (λr hr=>O8 _ hr) k2
  cases bs with
  |nil=>exact⟨m1,m2⟩
  |cons b bs=>exact⟨m1,m2⟩
 |[],_,_::_,_,_,_,_,H=>by simp[tg]at H
 |_::_,_,[],_,_,_,_,H=>by simp[tg]at H
 |[],_,[],_::_,_,_,R,_=>by cases R
 |_::_,_,_::_,[],_,_,R,_=>by cases R
def dH:List K->List AV->Option (List Nat)
 |[],[]=>some []
 |.B false _::ps,av::avs=>(match av with|.P b o=>if o=0 then af (dH ps avs) λl=>some (b::l)else none|_=>none)
 |_::ps,_::avs=>dH ps avs
 |_,_=>none
def p8(nmf:Nat->List Nat)(idb:Nat)(nms:List (List Nat)):List K->List AV->Nat->Nat->List BX
 |k::ps,av::avs,p,j=>match k,av with
  |.B false ks,.P b _=>⟨b,false,nms.getD p [],(rq nmf idb (λi=>.ld none (.v b) i) ks 0 j).1⟩::((rq nmf idb (λi=>.ld none (.v b) i) ks 0 j).2++p8 nmf idb nms ps avs (p+(K.nL ks+1)) (j+K.nL ks))
  |k,_=>p8 nmf idb nms ps avs (p+k.n) j
 |_,_,_,_=>[]
def pick(nms:List (List Nat))(ps:List Nat):List Nat:=ps.flatMap λp=>nms.getD p []
theorem mO{nms:List (List Nat)}{ps:List Nat}{p n:Nat}{l:List Nat}(hp:p∈ps)(hl:nms[p]?=some l)(hn:n∈l):n∈pick nms ps:=by
 unfold pick;rw[List.mem_flatMap];exact⟨p,hp,by rw[QU,hl];exact hn⟩
structure ul where
 xs:List X
 outs:List Nat
 av:AV
 a:Abs
 rd:List Nat
 wr:List Nat
def xi(s:Nat)(sg:Sig)(nms:List (List Nat))(j:Nat):List Nat:=
 2*(s+j)::(if j<sg.r.n then pick nms (qD sg.ps 0)else match(qg sg.ps 0)[j-sg.r.n]? with|some p=>nms.getD p []|none=>[])
def yn(d:Nat):Nat:=10000+64*d
def EO(st:Nat->Nat)(s:Nat)(sg:Sig):List Nat:=if sg.nown=0 then[]else[2*st s]
def Fi(sg:Sig)(nms:List (List Nat)):List Nat:=pick nms ((List.range nms.length).filter λp=> !(bH sg.ps 0).contains p)
def callD(sg:Sig)(nms:List (List Nat))(frs:List Nat):List Nat:=
 if K.nL sg.ps=0/\sg.scal=true then[]else frs++pick nms (bH sg.ps 0)
def vB(sgs:Nat->Option Sig)(ros:Nat->List Bool)(st:Nat->Nat)(fl:Nat->Bool)(kp:List Nat)(ns:Nat)(a:Abs)(d f:Nat)(avs:List AV)(s:Nat):Option ul:=
 af (sgs f) λsg=>af (tg a sg.ps (ros f) avs) λar=>af (dH sg.ps avs) λouts=>
  let nms:=ar.2.1
  let qp:=bH sg.ps 0
  let S:=EO st s sg
  let N:=Fi sg nms
  let D:=callD sg nms ar.2.2
  let idf:Nat->Bool:=λw=>decide (yn d<=w/\w<yn d+sg.nown)
  let vf:Nat->Bool:=λn=>n==d||outs.contains n
  if oo sg/\AU nms/\ar.2.2.all (λn=>nms.all λl=> !l.contains n)/\s+sg.nown<=ns/\(List.range sg.nown).all (λi=>st (s+i)==st s)/\sg.nown<=64/\
    (sg.nown<=1∨(pick nms (qD sg.ps 0++qg sg.ps 0)).all (λn=>sn st n !=2*st s))/\(sg.nown=0∨(pick nms (aV sg.ps 0++qp)).all (λn=>sn st n !=2*st s))/\
    nU kp (S++N)/\CW fl (pick nms (aV sg.ps 0))/\(d::outs).Nodup/\outs.all (λb=> !idf b)then
   some ⟨ar.1,outs,(GL (xi s sg nms) (yn d) sg.r (.v d) 0).1,
    ⟨(a.keep2 (yk st S N) (yk st [] D) idf vf).t,(GL (xi s sg nms) (yn d) sg.r (.v d) 0).2++p8 (xi s sg nms) (yn d) nms sg.ps avs 0 sg.r.n++(a.keep2 (yk st S N) (yk st [] D) idf vf).b⟩,
    S++(N++(pick nms qp++ar.2.2)).map (sn st),S++(N++D).map (sn st)⟩
  else none
theorem zT:∀{ns:List Nat}{vs:List PV}{env:Env}{i:Nat}{n:Nat}{v:PV},ns.Nodup->ns.length=vs.length->ns[i]?=some n->vs[i]?=some v->(env.sets ns vs) n=v
 |[],_,_,_,_,_,_,_,h,_=>by simp at h
 |_::_,[],_,_,_,_,_,h,_,_=>by simp at h
 | m::ns,w::vs,env,i,n,v,hn,hl,h1,h2=>by
  rw[Rb]at hn;cases i with
  | zero=>
   simp only[Pg,O5]at h1 h2;subst h1;subst h2;have:∀{ns:List Nat}{vs:List PV}{env:Env},m∉ns->(env.sets ns vs) m=env m:=by
    intro ns;induction ns with
    |nil=>intro vs env _;rfl
    | cons x ns ih=>
     intro vs env hm;cases vs with
     |nil=>rfl
     |cons y vs=>
      simp only[Qx,not_or]at hm;simp only[Env.sets];rw[ih hm.2];simp[hm.1]
   simp only[Env.sets];rw[this hn.1];simp
  |succ i=>exact zT (ns:=ns) (vs:=vs) (i:=i) hn.2 (by simpa using hl) (by simpa using h1) (by simpa using h2)
theorem qx:∀{ns:List Nat}{vs:List PV}{env:Env}{m:Nat},m∉ns->(env.sets ns vs) m=env m
 |[],vs,env,m,_=>by cases vs<;>rfl
 |x::ns,[],env,m,_=>rfl
 |x::ns,y::vs,env,m,hm=>by
  simp only[Qx,not_or]at hm;simp only[Env.sets];rw[qx hm.2];simp[hm.1]
def OutId(c:Cx)(idb:Nat)(h:Heap):List K->List PV->Nat->Prop
 |k::ps,v::vs,j=>match k with
  |.B false ks=>(∀r ver n e ro,v=.ptr r ver 0 0->h.get r=some ⟨ver,some ⟨n,[e],ro⟩⟩->KIds c idb h ks j e.cells)/\OutId c idb h ps vs (j+K.nL ks)
  |_=>OutId c idb h ps vs j
 |_,_,_=>True
theorem OutId.frame{c c':Cx}{idb:Nat}{h:Heap}:∀{ps:List K}{vs:List PV}{j:Nat},(∀w,idb+j<=w->w<idb+j+eA ps->c'.nu w=c.nu w/\c'.be w=c.be w)->OutId c idb h ps vs j->OutId c' idb h ps vs j:=by
 intro ps;induction ps with
 |nil=>intro vs j _ _;trivial
 | cons k ps ih=>
  intro vs j hw H;cases vs with
  |nil=>trivial
  | cons v vs=>
   cases k with
   | B ro ks=>
    cases ro with
    |true=>exact ih hw H
    |false=>
     simp only[eA]at hw;exact⟨λr ver n e ro h1 h2=>KIds.frame (λw a b=>hw w a (by omega)) (H.1 r ver n e ro h1 h2),ih (λw a b=>hw w (by omega) (by omega)) H.2⟩
   |F=>exact ih hw H
   |O sz wf=>exact ih hw H
   |Q=>exact ih hw H
   |A ks=>exact ih hw H
   |T ks=>exact ih hw H
theorem OutId.exists{h:Heap}{P:Nat->aq->Prop}{idb:Nat}:∀{ps:List K}{vs:List PV}{j:Nat}{xs:List PV}(c:Cx),KOuts h P ps vs j xs->∃c',FS c c' (idb+j) (idb+j+eA ps)/\OutId c' idb h ps vs j:=by
 intro ps;induction ps with
 |nil=>intro vs j xs c _;exact⟨c,⟨rfl,λ_ _=>⟨rfl,rfl⟩⟩,trivial⟩
 | cons k ps ih=>
  intro vs j xs c H;cases vs with
  |nil=>cases k<;>simp[KOuts]at H
  | cons v vs=>
   cases k with
   | B ro ks=>
    cases ro with
    |true=>exact ih (xs:=xs) c H
    | false=>
     cases xs with
     |nil=>simp[KOuts]at H
     | cons x xs=>
      obtain⟨⟨r,ver,n,e,os,q1,q2,q3,q4,q5⟩,H2⟩:=H;obtain⟨c1,s1,k1⟩:=KIds.exists (idb:=idb) c q5;obtain⟨c2,s2,k2⟩:=ih c1 H2;refine⟨c2,⟨by rw[s2.1,s1.1],λw hw=>?_⟩,λr' ver' n' e' ro' h1 h2=>?_,k2⟩
      ·simp only[eA]at hw;have a:=s1.2 w (by omega);have b:=s2.2 w (by omega);exact⟨by rw[b.1,a.1],by rw[b.2,a.2]⟩
      ·rw[q1]at h1;cases h1;rw[q2]at h2;cases h2;exact KIds.frame (λw a b=>s2.2 w (by omega)) k1
   |F=>exact ih (xs:=xs) c H
   |O sz wf=>exact ih (xs:=xs) c H
   |Q=>exact ih (xs:=xs) c H
   |A ks=>exact ih (xs:=xs) c H
   |T ks=>exact ih (xs:=xs) c H
theorem E2{I:Inv}{c c3:Cx}{h h3:Heap}{env env3:Env}{P3:Nat->aq->Prop}{nmf:Nat->List Nat}{idb:Nat}{nms:List (List Nat)}{nown:Nat}
  (hbe:∀b,¬(idb<=b/\b<idb+nown)->c3.be b=c.be b)(hnm:∀i r,P3 i r->c3.nm r∈nmf i):
  ∀{ps:List K}{avs:List AV}{vs:List PV}{p j:Nat}{os:List PV}{outs:List Nat},cj ps=true->dH ps avs=some outs->RelL c h env avs vs->KOuts h3 P3 ps vs j os->OutId c3 idb h3 ps vs j->(∀b∈outs,¬(idb<=b/\b<idb+nown))->outs.length=os.length->(∀(i n:Nat)(v:PV),outs[i]?=some n->os[i]?=some v->env3 n=v)->
   (∀t∈aV ps p,∀(i:Nat)(ks:List K)(v:PV),ps[i]?=some (.B false ks)->vs[i]?=some v->t=p+K.nL (ps.take i)->∀r ver,v=.ptr r ver 0 0->c3.nm r∈nms.getD t [])->
   ∀bx∈p8 nmf idb nms ps avs p j,BoxOk c3 h3 env3 bx:=by
 intro ps;induction ps with
 |nil=>intro avs vs p j os outs _ _ _ _ _ _ _ _ _ bx hb;cases avs<;>cases hb
 | cons k ps ih=>
  intro avs vs p j os outs hps ho R H hid hrange hlen henv hnp bx hb;cases avs with
  |nil=>cases k<;>simp[dH]at ho
  | cons av avs=>
   cases vs with
   |nil=>cases R
   | cons v vs=>
    have rest:∀{p':Nat},cj ps=true->dH ps avs=some outs->KOuts h3 P3 ps vs j os->OutId c3 idb h3 ps vs j->p'=p+k.n->aV (k::ps) p=aV ps p'->bx∈p8 nmf idb nms ps avs p' j->BoxOk c3 h3 env3 bx:=λhps' ho' H' hid' hp hbp hb'=>
     ih hps' ho' R.2 H' hid' hrange hlen henv (λt ht i ks w h1 h2 h3'=>hnp t (by rw[hbp];exact ht) (i+1) ks w (by simpa using h1) (by simpa using h2) (by simp only[Q3,K.nL];omega)) bx hb'
    cases k with
    | B ro ks=>
     cases ro with
     |true=>
      simp only[cj,O6]at hps;exact rest hps.2 (by simpa only[dH]using ho) H hid rfl (by simp only[aV]) (by cases av<;>simpa only[p8]using hb)
     | false=>
      simp only[cj,O6]at hps;cases av with
      | P b o=>
       simp only[dH]at ho;split at ho
       ·rename_i ho0;subst ho0;simp only[ab]at ho;obtain⟨l,hl,he⟩:=ho;cases he;cases os with
        |nil=>simp[KOuts]at H
        | cons x os=>
         obtain⟨⟨r,ver,n,e,cs,q1,q2,q3,q4,q5⟩,H2⟩:=H;have hv:=R.1;simp only[Rel]at hv;rw[q1]at hv;simp only[PV.ptr.injEq,Rc]at hv;have hbb:=hbe b (hrange b (Pj ..));have hx:=henv 0 b x rfl rfl;have hids:=hid.1 r ver n e false q1 q2;have mk:=pG (env:=env3) (f:=λi=>X.ld none (.v b) i) (i0:=0) (nmf:=nmf) q5 hids (λi y hy=>by
          have hf:=q5.get q3 i y hy;simp only[X.ev,ac,hx,q4,Cw,mM,dD,PZ,hy,hf,PQ]) (λi r _ _ hP=>hnm i r hP)
         simp only[p8,Qx,QS]at hb;rcases hb with rfl|hb|hb
         ·refine⟨n,e,false,?_,?_,λ_=>rfl,q3,mk.1⟩
          ·simp only[hbb,<-hv.1];exact hnp p (by simp[aV]) 0 ks _ rfl rfl (by simp[K.nL]) r ver q1
          ·simp only[hbb,<-hv.1,<-hv.2];exact q2
         ·exact mk.2 bx hb
         ·refine ih hps.2 hl R.2 H2 hid.2 (λb hb=>hrange b (Pe _ hb)) (by simpa using hlen) (λi n v h1 h2=>henv (i+1) n v (by simpa using h1) (by simpa using h2)) (λt ht i ks' w h1 h2 h3'=>hnp t (by simp only[aV];exact Pe _ ht) (i+1) ks' w (by simpa using h1) (by simpa using h2) (by simp only[Q3,K.nL,K.n];omega)) bx hb
       ·cases ho
      |_=>simp[dH]at ho
    |F=>exact rest (by simpa[cj]using hps) (by simpa only[dH]using ho) H hid rfl (by simp only[aV]) (by cases av<;>simpa only[p8]using hb)
    |O sz wf=>exact rest (by simpa[cj]using hps) (by simpa only[dH]using ho) H hid rfl (by simp only[aV]) (by cases av<;>simpa only[p8]using hb)
    |Q=>exact rest (by simpa[cj]using hps) (by simpa only[dH]using ho) H hid rfl (by simp only[aV]) (by cases av<;>simpa only[p8]using hb)
    |A ks=>simp[cj]at hps
    |T ks=>simp[cj]at hps
theorem KOuts.len{h:Heap}{P:Nat->aq->Prop}:∀{ps:List K}{vs:List PV}{j:Nat}{os:List PV}{avs:List AV}{outs:List Nat},KOuts h P ps vs j os->dH ps avs=some outs->avs.length=vs.length->outs.length=os.length:=by
 intro ps;induction ps with
 |nil=>
  intro vs j os avs outs H ho hl;cases vs<;>cases os<;>cases avs<;>first|(simp[KOuts]at H;done)|(simp[dH]at ho;subst ho;rfl)|(simp at hl)
 | cons k ps ih=>
  intro vs j os avs outs H ho hl;cases avs with
  |nil=>cases k<;>simp[dH]at ho
  | cons av avs=>
   cases vs with
   |nil=>simp at hl
   | cons v vs=>
    cases k with
    | B ro ks=>
     cases ro with
     |true=>exact ih (avs:=avs) H (by simpa only[dH]using ho) (by simpa using hl)
     | false=>
      cases av with
      | P b o=>
       simp only[dH]at ho;split at ho
       ·simp only[ab]at ho;obtain⟨l,hl',he⟩:=ho;cases he;cases os with
        |nil=>simp[KOuts]at H
        |cons x os=>simp[ih H.2 hl' (by simpa using hl)]
       ·cases ho
      |_=>simp[dH]at ho
    |F=>exact ih (avs:=avs) H (by simpa only[dH]using ho) (by simpa using hl)
    |O sz wf=>exact ih (avs:=avs) H (by simpa only[dH]using ho) (by simpa using hl)
    |Q=>exact ih (avs:=avs) H (by simpa only[dH]using ho) (by simpa using hl)
    |A ks=>exact ih (avs:=avs) H (by simpa only[dH]using ho) (by simpa using hl)
    |T ks=>exact ih (avs:=avs) H (by simpa only[dH]using ho) (by simpa using hl)
def GW(I:Inv)(c:Cx)(env':Env)(σ:St)(d:Nat)(m:Nat->HM PV)(r:ul):Prop:=
 ∃n v h' R W c',(m n).runT σ.h=some (v,h',R,W)/\Sim I c' r.a env' ⟨σ.fr,h'⟩/\Rel c' h' env' r.av v/\cZ I r.rd R/\cZ I r.wr W/\(∀i,c'.nm (.a i)=c.nm (.a i))/\(∀w,w<10000->c'.be w=c.be w)
theorem DL{FT:Nat->Option am}{sgs:Nat->Option Sig}{ros:Nat->List Bool}{C:bK}{I:Inv}{c:Cx}{a:Abs}{env:Env}{σ:St}(S:Sim I c a env σ)(hodd:∀k∈I.kp,k %2=1)
  {d f s:Nat}{avs:List AV}{vs xs:List PV}{r:PV}{os:List PV}{cr:ul}(R:RelL c σ.h env avs vs)(H:vB sgs ros I.st I.fl I.kp I.ns a d f avs s=some cr)
  (hx:eO env cr.xs=some xs)(hC:∀sg,sgs f=some sg->Nz FT sg f xs r os):
  GW I c ((env.set d r).sets cr.outs os) σ d (λn=>fc (bf FT n) (ros f) f vs s) cr:=by
 simp only[vB,ab]at H;obtain⟨sg,hsg,ar,h1,outs,h2,H⟩:=H;split at H
 ·rename_i hc;obtain⟨c1,c2,c3,c4,c5,c6,c7,c8,c9,c10,c11,c12⟩:=hc;cases H;have hct:=hC sg hsg;have c1':=c1;simp only[oo,O6,PG]at c1';obtain⟨⟨⟨⟨⟨hps,hnq⟩,hwt⟩,hwa⟩,hqb⟩,hqp⟩:=c1';obtain⟨al,xs',ae,aR⟩:=uJ S 0 R h1;simp only at hx;rw[ae]at hx;cases hx;have P:Nat->aq->Prop:=λi r=>Pn c ar.2.1 i r;have aR':dM σ.h (λi r=>Pn c ar.2.1 i r) (λr=>c.nm r∈ar.2.2) sg.ps (ros f) 0 vs xs:=aR;have u1:∀i j q,Pn c ar.2.1 i q->Pn c ar.2.1 j q->i=j:=λi j q ⟨l,hl,hq⟩ ⟨m,hm,hq'⟩=>vE c2 hl hm hq hq';have hFP:∀q,c.nm q∈ar.2.2->∀i,¬Pn c ar.2.1 i q:=λq hq i ⟨l,hl,hq'⟩=>by
   have:=List.all_eq_true.1 (List.all_eq_true.1 c3 _ hq) l (Pl hl);simp at this;exact this hq'
  have hrange:∀k,k<sg.nown->I.st (s+k)=I.st s:=λk hk=>by
   have:=List.all_eq_true.1 c5 k (List.mem_range.2 hk);simpa using this
  have hsite:∀q,t9 s sg.nown q->sn I.st (c.nm q)=2*I.st s:=λq ⟨k,hk,e⟩=>by
   subst e;rw[iC S.nm (by intro h;cases h)];simp only[Inv.sr,hrange k hk]
  have hnoS:∀{ps:List Nat}{p:Nat}{q:aq},(pick ar.2.1 ps).all (λn=>sn I.st n !=2*I.st s)=true->p∈ps->Pn c ar.2.1 p q->¬t9 s sg.nown q:=λ{ps p q} ha hp ⟨l,hl,hq⟩ hr=>by
   have:=List.all_eq_true.1 ha _ (mO hp hl hq);simp only[bne_iff_ne,ne_eq]at this;exact this (hsite q hr)
  have hav1:∀i p q,CU sg i p->Pn c ar.2.1 p q->t9 s sg.nown q->sg.nown=1:=λi p q he hP hr=>by
   have hpos:0<sg.nown:=by obtain⟨k,hk,_⟩:=hr;omega
   rcases c7 with c7|c7
   ·omega
   ·have hmem:p∈qD sg.ps 0++qg sg.ps 0:=by
     rcases he with⟨_,h⟩|⟨_,h⟩
     ·exact Pc _ h
     ·exact O8 _ (Pl h)
    exact absurd hr (hnoS c7 hmem hP)
  have hav2:∀p q,(p∈aV sg.ps 0∨p∈bH sg.ps 0)->Pn c ar.2.1 p q->¬t9 s sg.nown q:=λp q hp hP hr=>by
   have hpos:0<sg.nown:=by obtain⟨k,hk,_⟩:=hr;omega
   rcases c8 with c8|c8
   ·omega
   ·exact hnoS c8 (List.mem_append.2 hp) hP hr
  have hL:s+sg.nown<=σ.h.L.length:=by rw[S.hl];exact c4
  obtain⟨n,v,h3,R3,W3,P3,hrun,K3⟩:=vl hct aR' u1 hFP hwa hL hqp hnq (gV hps) hav1 hav2;have hlen:outs.length=os.length:=K3.o.len h2 R.len;have c11':=List.nodup_cons.1 c11
  classical
  let et:Nat->Nat:=λk=>if h:∃i,P3 i (.l (s+k))then Classical.choose h else 0
  let c0:Cx:=⟨λq=>match q with
   |.l t=>if s<=t/\t<s+sg.nown then 2*(s+et (t-s))else c.nm (.l t)
   |q=>c.nm q,c.nu,c.be⟩
  have hkr:=K3.rr;obtain⟨c1x,s1,i1⟩:=KId.exists (idb:=yn d) c0 K3.rr;obtain⟨c2x,s2,i2⟩:=OutId.exists (idb:=yn d) c1x K3.o;have hnmE:c2x.nm=c0.nm:=by rw[s2.1,s1.1]
  have hidE:∀w,¬(yn d<=w/\w<yn d+sg.nown)->c2x.nu w=c.nu w/\c2x.be w=c.be w:=λw hw=>by
   simp only[Sig.nown]at hw;have a:=s1.2 w (by omega);have b:=s2.2 w (by omega);exact⟨by rw[b.1,a.1],by rw[b.2,a.2]⟩
  have i1':KId c2x (yn d) h3 sg.r 0 v:=KId.frame (λw a b=>s2.2 w (by omega)) i1;have het:∀i k,k<sg.nown->P3 i (.l (s+k))->et k=i:=λi k hk hP=>by
   have hex:∃i,P3 i (.l (s+k)):=⟨i,hP⟩;simp only[et,dif_pos hex];exact K3.u1 _ _ _ (QK hex) hP
  have hnotR:∀q,¬t9 s sg.nown q->c2x.nm q=c.nm q:=λq hq=>by
   rw[hnmE];cases q with
   |l t=>
    simp only[c0];rw[Pd];intro⟨h1,h2⟩;exact hq ⟨t-s,by omega,by congr 1;omega⟩
   |a i=>rfl
   |dead=>rfl
  have hnmf:∀i q,P3 i q->c2x.nm q∈xi s sg ar.2.1 i:=λi q hP=>by
   have hlt:=K3.lt i q hP;rcases K3.cls i q hP with⟨k,hk,rfl⟩|⟨p,hp,hq⟩
   ·rw[hnmE];simp only[c0];rw[O9 ⟨by omega,by omega⟩,show s+k-s=k by omega,het i k hk hP];exact Pj ..
   ·by_cases hr:t9 s sg.nown q
    ·obtain⟨k,hk,rfl⟩:=hr;rw[hnmE];simp only[c0];rw[O9 ⟨by omega,by omega⟩,show s+k-s=k by omega,het i k hk hP];exact Pj ..
    ·rw[hnotR q hr];refine Pe _ ?_;obtain⟨l,hl,hql⟩:=hq;rcases hp with⟨h1,h2⟩|⟨h1,h2⟩
     ·rw[O9 h1];exact mO h2 hl hql
     ·rw[Pd (by omega),h2];simp only[QU,hl,PK];exact hql
  have hetlt:∀k,k<sg.nown->et k<sg.nown:=λk hk=>by
   by_cases hex:∃i,P3 i (.l (s+k))
   ·obtain⟨i,hi⟩:=hex;rw[het i k hk hi];exact K3.lt i _ hi
   ·simp only[et,dif_neg hex];omega
  have hNm:Nm I c2x:=by
   refine⟨λt=>?_,λi=>by rw[hnmE];exact S.nm.a i⟩;rw[hnmE];simp only[c0];by_cases ht:s<=t/\t<s+sg.nown
   ·rw[O9 ht];refine⟨s+et (t-s),rfl,?_⟩;rw[hrange _ (hetlt _ (by omega)),<-hrange (t-s) (by omega)];congr 1;omega
   ·rw[Pd ht];exact S.nm.l t
  generalize hSdef:EO I.st s sg=Sx at*;generalize hNdef:Fi sg ar.2.1=Nx at*;generalize hDdef:callD sg ar.2.1 ar.2.2=Dx at*;unfold EO at hSdef;unfold Fi at hNdef;unfold callD at hDdef;have hinS:∀q,t9 s sg.nown q->sn I.st (c.nm q)∈Sx:=λq hq=>by
   have hpos:sg.nown≠0:=by obtain⟨k,hk,_⟩:=hq;omega
   rw[hsite q hq,<-hSdef,Pd hpos];simp
  have hpS:∀p q,Pn c ar.2.1 p q->p∉bH sg.ps 0->c.nm q∈Nx:=λp q hP hp=>by
   obtain⟨l,hl,hq⟩:=hP;rw[<-hNdef];refine mO ?_ hl hq;exact List.mem_filter.2 ⟨List.mem_range.2 (getElem?_lt hl),by simpa using hp⟩
  have M:uV (yk I.st Sx Nx) (yk I.st [] Dx) (λw=>decide (yn d<=w/\w<yn d+sg.nown)) (λn=>n==d||outs.contains n) c c2x σ.h h3 env ((env.set d r).sets outs os):=by
   refine⟨λq hq=>?_,λq hq hd=>?_,λw hw=>hidE w (by simpa using hw),λm hm=>?_⟩
   ·have hq:=eD.1 hq;have hnr:¬t9 s sg.nown q:=λh=>hq.1 (hinS q h);refine⟨?_,hnotR q hnr⟩;by_cases hP:∃p,Pn c ar.2.1 p q
    ·obtain⟨p,hp⟩:=hP;by_cases hpq:p∈bH sg.ps 0
     ·exact K3.keep p hpq q hp
     ·exact absurd (hpS p q hp hpq) hq.2
    ·exact K3.fr q (λp hp=>hP ⟨p,hp⟩) hnr
   ·have hq:=eD.1 hq;have hd:=(eD.1 hd).2;have hnr:¬t9 s sg.nown q:=λh=>hq.1 (hinS q h);by_cases hpure:K.nL sg.ps=0/\sg.scal=true
    ·exact(K3.cln hpure.1 hpure.2).1 q hnr
    ·rw[Pd hpure]at hDdef;refine K3.frame q (λp hp=>?_) hnr λhf=>?_
     ·by_cases hpq:p∈bH sg.ps 0
      ·obtain⟨l,hl,hql⟩:=hp;exact hd (by rw[<-hDdef];exact O8 _ (mO hpq hl hql))
      ·exact hq.2 (hpS p q hp hpq)
     ·exact hd (by rw[<-hDdef];exact Pc _ hf)
   ·simp only[Bool.or_eq_false_iff,Q2,ne_eq,PW,PD]at hm;rw[qx hm.2];simp[hm.1]
  have henvd:((env.set d r).sets outs os) d=r:=by rw[qx c11'.1];simp
  have henvo:∀(i m:Nat)(w:PV),outs[i]?=some m->os[i]?=some w->((env.set d r).sets outs os) m=w:=λi m w h1 h2=>zT c11'.2 hlen h1 h2;obtain⟨mr1,mr2⟩:=Bz (env:=(env.set d r).sets outs os) (nmf:=xi s sg ar.2.1) (e:=.v d) K3.rr i1' (by simp only[X.ev,henvd]) (λi q _ _ hP=>hnmf i q hP);have hbx:=E2 (I:=I) (c:=c) (c3:=c2x) (h:=σ.h) (h3:=h3) (env:=env) (env3:=(env.set d r).sets outs os) (P3:=P3) (nmf:=xi s sg ar.2.1) (idb:=yn d) (nms:=ar.2.1) (nown:=sg.nown)
   (λb hb=>(hidE b hb).2) hnmf (p:=0) hps h2 R K3.o i2 (λb hb=>by
    have:=List.all_eq_true.1 c12 b hb;simp only[PC,PD]at this;exact this) hlen henvo (λt ht i ks w h1 h2 h3' q ver hv=>by
     obtain⟨r0,ver0,p0,e1,e2⟩:∃r ver p,w=.ptr r ver 0 0/\Pn c ar.2.1 t r/\p=t:=by
      have aux:∀{ks':List K}{bs:List Bool}{j:Nat}{vs xs:List PV},dM σ.h (λi r=>Pn c ar.2.1 i r) (λr=>c.nm r∈ar.2.2) ks' bs j vs xs->∀(i:Nat)(ks:List K)(w:PV),ks'[i]?=some (.B false ks)->vs[i]?=some w->∃r ver,w=.ptr r ver 0 0/\Pn c ar.2.1 (j+K.nL (ks'.take i)) r:=by
       intro ks';induction ks' with
       |nil=>intro bs j vs xs _ i ks w h;simp at h
       | cons k ks' ih=>
        intro bs j vs xs A i ks w h1 h2;cases vs with
        |nil=>simp at h2
        | cons v vs=>
         cases xs with
         |nil=>cases bs<;>simp[dM]at A
         | cons x xs=>
          cases i with
          |zero=>
           simp only[Pg,O5]at h1 h2;subst h1;subst h2;cases bs with
           |nil=>obtain⟨r,ver,n,e,ro,xs',e1,e2,_⟩:=A.1.1;exact⟨r,ver,e1,by simpa[K.nL]using e2⟩
           |cons b bs=>obtain⟨r,ver,n,e,ro,xs',e1,e2,_⟩:=A.1.1;exact⟨r,ver,e1,by simpa[K.nL]using e2⟩
          |succ i=>
           simp only[Q3,K.nL];rw[<-Rj];cases bs with
           |nil=>exact ih A.2 i ks w (by simpa using h1) (by simpa using h2)
           |cons b bs=>exact ih A.2 i ks w (by simpa using h1) (by simpa using h2)
      obtain⟨r,ver,e1,e2⟩:=aux aR' i ks w h1 h2;exact⟨r,ver,t,e1,by rw[h3'];exact e2,rfl⟩
     rw[hv]at e1;cases e1;obtain⟨⟨l,hl,hql⟩,rfl⟩:=e2;rw[hnotR q (hav2 p0 q (.inl ht) ⟨l,hl,hql⟩)];simp only[QU,hl,PK];exact hql)
  have hS2:Sim I c2x (a.keep2 (yk I.st Sx Nx) (yk I.st [] Dx) (λw=>decide (yn d<=w/\w<yn d+sg.nown)) (λn=>n==d||outs.contains n)) ((env.set d r).sets outs os) ⟨σ.fr,h3⟩:=by
   refine⟨S.fr,λp hp=>?_,λx hx=>?_,hNm,by rw[<-S.hl];exact K3.ll,by rw[<-S.ha];exact K3.la,λq hq=>?_,λi ver b hfl hgi=>?_⟩
   ·obtain⟨p',hp',rfl⟩:=List.mem_map.1 hp;obtain⟨hp1,hp2⟩:=List.mem_filter.1 hp';exact Rel.frame2 M hp2 (S.tm p' hp1)
   ·obtain⟨y,hy,rfl⟩:=List.mem_map.1 hx;obtain⟨hy1,hy2⟩:=List.mem_filter.1 hy;exact BoxOk.keep2 M hy2 (S.bx y hy1)
   ·have hod:=hodd _ hq;cases q with
    |l t=>obtain⟨j,h1,_⟩:=hNm.l t;omega
    |dead=>exact .inl rfl
    | a i=>
     have e:c2x.nm (.a i)=c.nm (.a i):=by rw[hnmE]
     have hno:yk I.st Sx Nx (c.nm (.a i))=false:=by
      rw[<-e];have h0:=List.all_eq_true.1 c9 _ hq;simp only[PW,QS,PC,PD,not_or]at h0;have h1:sn I.st (c2x.nm (.a i))=c2x.nm (.a i):=by unfold sn;rw[Pd (by omega)]
      exact eD.2 ⟨by rw[h1];exact h0.1,h0.2⟩
     have:=(M.n (.a i) hno).1;exact this.trans (S.kp (.a i) (by rw[<-e];exact hq))
   ·rcases K3.fl i ver b hgi with⟨ver',b',e1,e2⟩|e1|⟨p,hp,hq⟩
    ·rw[<-e2];exact S.fl i ver' b' hfl e1
    ·exact e1
    ·obtain⟨l,hl,hql⟩:=hq;rw[S.nm.a i]at hql;have:=List.all_eq_true.1 c10 _ (mO hp hl hql);rw[show(2*I.al i+1)/2=I.al i by omega,hfl]at this;have h2:((2*I.al i+1) %2==0)=false:=by simp
     rw[h2]at this;simp at this
  have htr:∀q,q≠ .dead->sn I.st (c.nm q)=I.sr q:=λq hq=>iC S.nm hq;have hcov:∀q,q≠ .dead->(c.nm q∈ar.2.2∨(∃p,Pn c ar.2.1 p q)∨t9 s sg.nown q)->I.sr q∈Sx++(Nx++(pick ar.2.1 (bH sg.ps 0)++ar.2.2)).map (sn I.st):=λq hnd hq=>by
   rw[<-htr q hnd];rcases hq with hq|⟨p,hp⟩|hq
   ·exact O8 _ (P0 (O8 _ (O8 _ hq)))
   ·by_cases hpq:p∈bH sg.ps 0
    ·obtain⟨l,hl,hql⟩:=hp;exact O8 _ (P0 (O8 _ (Pc _ (mO hpq hl hql))))
    ·exact O8 _ (P0 (Pc _ (hpS p q hp hpq)))
   ·exact Pc _ (hinS q hq)
  refine⟨n,v,h3,R3,W3,c2x,hrun,⟨hS2.fr,hS2.tm,λx hx=>?_,hS2.nm,hS2.hl,hS2.ha,hS2.kp,hS2.fl⟩,mr1,λq hq=>⟨(K3.rd q hq).1,hcov q (K3.rd q hq).1 (K3.rd q hq).2⟩,λq hq=>⟨(K3.wr q hq).1,?_⟩,λi=>by rw[hnmE],λw hw=>(hidE w (by simp only[yn];omega)).2⟩
  ·rcases List.mem_append.1 hx with hx|hx
   ·rcases List.mem_append.1 hx with hx|hx
    ·exact mr2 x hx
    ·exact hbx x hx
   ·exact hS2.bx x hx
  ·by_cases hpure:K.nL sg.ps=0/\sg.scal=true
   ·have hr:=(K3.cln hpure.1 hpure.2).2 q hq;have hz:=hinS q hr;rw[iC S.nm (by obtain⟨k,_,rfl⟩:=hr;intro h;cases h)]at hz;exact Pc _ hz
   ·have:=hcov q (K3.wr q hq).1 (K3.wr q hq).2;rw[Pd hpure]at hDdef;rcases List.mem_append.1 this with h|h
    ·exact Pc _ h
    ·refine O8 _ ?_;rw[<-hDdef];obtain⟨m,hm,e⟩:=List.mem_map.1 h;rw[<-e];refine P0 ?_;rcases List.mem_append.1 hm with h|h
     ·exact Pc _ h
     ·refine O8 _ ?_;rcases List.mem_append.1 h with h|h
      ·exact O8 _ h
      ·exact Pc _ h
 ·cases H
def xB(g:X)(p:Bool)(g':X)(p':Bool):Bool:=match g with
 |.gd g1 p1 e=>(decide (X.gd g1 p1 e=g')&&p==p')||xB g1 p1 g' p'
 |g=>decide (g=g')&&p==p'
theorem Ij{env:Env}{g:X}{p q:Bool}{e:X}(h:(X.gd g p e).ev env=some (.bool q)):g.ev env=some (.bool p):=by
 simp only[X.ev,ab]at h;obtain⟨y,hy,h⟩:=h;split at h
 ·rename_i q';split at h
  ·rename_i he;rw[hy,he]
  ·cases h
 ·cases h
 ·cases h
theorem Ae{env:Env}:∀{g:X}{p:Bool}{g':X}{p':Bool},xB g p g' p'=true->g.ev env=some (.bool p)->g'.ev env=some (.bool p'):=by
 intro g;induction g with
 |gd g1 p1 e ih _=>
  intro p g' p' h hg;simp only[xB,Qt,O6,PG,PF]at h;rcases h with⟨rfl,rfl⟩|h
  ·exact hg
  ·exact ih h (Ij hg)
 |_=>
  intro p g' p' h hg;simp only[xB,O6,PG,PF]at h;obtain⟨rfl,rfl⟩:=h;exact hg
def FD(g:X)(p:Bool):X->X
 |.gd c q e=>if xB g p c q then FD g p e else .gd (FD g p c) q e
 |x=>x
theorem Ig{env:Env}{g:X}{p:Bool}(hg:g.ev env=some (.bool p)):∀x:X,(FD g p x).ev env=x.ev env:=by
 intro x;induction x with
 | gd c q e ihc ihe=>
  simp only[FD];split
  ·rename_i hi;rw[ihe];simp only[X.ev,Ae hi hg,ac,PQ]
  ·simp only[X.ev,ihc]
 |_=>rfl
def xP(g:X)(p:Bool):AV->AV
 |.G g' p' a=>if xB g p g' p' then xP g p a else .G (FD g p g') p' a
 |a=>a
theorem xK{c:Cx}{h:Heap}{env:Env}{g:X}{p:Bool}(hg:g.ev env=some (.bool p)):∀{a:AV}{v:PV},Rel c h env a v->Rel c h env (xP g p a) v
 | .G g' p' a,v,R=>by
  simp only[xP];split
  ·rename_i hi;have:=Ae hi hg;rcases R with R|R
   ·exact xK hg R.2
   ·rw[this]at R;rcases R.1 with h1|h1
    ·simp at h1
    ·simp at h1
  ·simp only[Rel,Ig hg];exact R
 |.D,_,R=>R
 |.F _,_,R=>R
 |.N _,_,R=>R
 |.O ..,_,R=>R
 |.Q ..,_,R=>R
 |.P ..,_,R=>R
 |.EP ..,_,R=>R
 |.A _,_,R=>R
 |.L ..,_,R=>R
 |.C ..,_,R=>R
 |.T _,_,R=>R
def Abs.strip(g:X)(p:Bool)(a:Abs):Abs:=⟨a.t.map λq=>(q.1,xP g p q.2),a.b⟩
theorem Sim.strip{I:Inv}{c:Cx}{a:Abs}{env:Env}{σ:St}{g:X}{p:Bool}(S:Sim I c a env σ)(hg:g.ev env=some (.bool p)):Sim I c (a.strip g p) env σ:=
 ⟨S.fr,λq hq=>by
  obtain⟨q',hq',rfl⟩:=List.mem_map.1 hq;exact xK hg (S.tm q' hq'),S.bx,S.nm,S.hl,S.ha,S.kp,S.fl⟩
def KE:X->Bool
 |.boo _|.eqs .. |.eqb .. |.eqn .. =>true
 |.bin op _ _=>match op with|.eql|.neq|.lss|.leq|.gtr|.geq=>true|_=>false
 |.un op _=>match op with|.not=>true|_=>false
 |.ite _ a b=>KE a&&KE b
 |.gd _ _ e=>KE e
 |_=>false
theorem J7{env:Env}:∀{e:X}{x:PV},KE e=true->e.ev env=some x->(∃b,x=.bool b)∨x=.tup []:=by
 intro e;induction e<;>intro x hb hx<;>simp only[KE,Ps]at hb
 case boo b=>simp only[X.ev,O5]at hx;exact .inl ⟨b,hx.symm⟩
 case eqs=>
  simp only[X.ev,ab]at hx;obtain⟨_,_,_,_,hx⟩:=hx;unfold ou at hx;split at hx
  ·split at hx
   ·cases hx;exact .inl ⟨_,rfl⟩
   ·cases hx
  ·cases hx
 case eqb=>
  simp only[X.ev,ab]at hx;obtain⟨_,_,_,_,hx⟩:=hx;unfold Gv.eqb at hx;split at hx
  ·cases hx;exact .inl ⟨_,rfl⟩
  ·cases hx
 case eqn k neg a b _ _=>
  simp only[X.ev,ab]at hx;obtain⟨_,_,_,_,hx⟩:=hx;split at hx
  ·cases hx
  ·unfold Gv.eqn at hx;split at hx
   all_goals(split at hx<;>first|(simp only[PI]at hx;obtain⟨b,_,rfl⟩:=hx;exact .inl ⟨_,rfl⟩)|(cases hx;done))
 case bin op a b _ _=>
  simp only[X.ev,ab]at hx;obtain⟨y,_,z,_,hx⟩:=hx;unfold Gv.bin at hx;split at hx
  ·unfold aY at hx;cases op<;>simp only at hb hx<;>try(cases hb;done)
   all_goals(split at hx<;>cases hx;exact .inl ⟨_,rfl⟩)
  ·cases op<;>simp only at hb hx<;>first|(cases hb;done)|(cases hx;exact .inl ⟨_,rfl⟩)|(cases hx;done)
  ·cases hx
 case un op a _=>
  simp only[X.ev,ab]at hx;obtain⟨y,_,hx⟩:=hx;unfold Gv.un at hx;cases op<;>simp only at hb<;>try(cases hb;done)
  split at hx<;>first|(cases hx;exact .inl ⟨_,rfl⟩)|(cases hx;done)|(rename_i e;cases e;done)|skip
  all_goals simp_all
 case ite c a b _ iha ihb=>
  simp only[O6]at hb;simp only[X.ev,ab]at hx;obtain⟨y,_,hx⟩:=hx;split at hx
  ·exact iha hb.1 hx
  ·exact ihb hb.2 hx
  ·cases hx
 case gd c p e _ ihe=>
  simp only[X.ev,ab]at hx;obtain⟨y,_,hx⟩:=hx;split at hx
  ·split at hx
   ·exact ihe hb hx
   ·cases hx;exact .inr rfl
  ·cases hx;exact .inr rfl
  ·cases hx
def dZ:AV->Option X
 |.F e=>some e
 |.G g p a=>(dZ a).map (X.gd g p)
 |_=>none
theorem oF{c:Cx}{h:Heap}{env:Env}:∀{a:AV}{v:PV}{g:X},Rel c h env a v->dZ a=some g->(∃b,g.ev env=some (.bool b))∨g.ev env=some (.tup [])->(∃b,g.ev env=some (.bool b)/\v=.bool b)∨(g.ev env=some (.tup [])/\v=.tup [])
 | .F e,v,g,R,H,hb=>by
  cases H;rcases hb with⟨b,hb⟩|hb
  ·rw[R.2]at hb;exact .inl ⟨b,by rw[R.2,hb],gu (by simpa using hb)⟩
  ·have:=R.2;rw[hb]at this;simp only[O5]at this;obtain⟨l,hl,_⟩:=Dl this.symm;rw[hl]at R;simp[Rel,pl]at R
 | .G g' p a,v,g,R,H,hb=>by
  simp only[dZ,PI]at H;obtain⟨e,he,rfl⟩:=H;rcases R with⟨h1,R⟩|⟨h1,rfl⟩
  ·have hev:(X.gd g' p e).ev env=e.ev env:=by simp only[X.ev,h1,ac,PQ]
   rw[hev]at hb⊢;exact oF R he hb
  ·right;refine⟨?_,rfl⟩;rcases h1 with h1|h1
   ·simp only[X.ev,h1,ac];have:¬((!p)=p):=by cases p<;>simp
    rw[Pd this]
   ·simp only[X.ev,h1,ac]
 |.D,_,_,_,H,_=>by simp[dZ]at H
 |.N _,_,_,_,H,_=>by simp[dZ]at H
 |.O ..,_,_,_,H,_=>by simp[dZ]at H
 |.Q ..,_,_,_,H,_=>by simp[dZ]at H
 |.P ..,_,_,_,H,_=>by simp[dZ]at H
 |.EP ..,_,_,_,H,_=>by simp[dZ]at H
 |.A _,_,_,_,H,_=>by simp[dZ]at H
 |.L ..,_,_,_,H,_=>by simp[dZ]at H
 |.C ..,_,_,_,H,_=>by simp[dZ]at H
 |.T _,_,_,_,H,_=>by simp[dZ]at H
def xd(g:X)(b:Bool):List X:=if KE g then[]else[.gd g b .nl]
theorem rK{env:Env}{g:X}{b:Bool}{y:PV}(hy:g.ev env=some y)(hg:ao env (xd g b)=true):(∃b,g.ev env=some (.bool b))∨g.ev env=some (.tup []):=by
 unfold xd at hg;split at hg
 ·rename_i hb;rcases J7 hb hy with⟨q,rfl⟩|rfl
  ·exact .inl ⟨q,hy⟩
  ·exact .inr hy
 ·simp only[ao,P2,X.ev,hy,ac]at hg;split at hg
  ·exact .inl ⟨_,hy⟩
  ·exact .inr hy
  ·cases hg
theorem rj{c:Cx}{h:Heap}{env:Env}:∀{a:AV}{v:PV}{g:X},Rel c h env a v->dZ a=some g->∃y,g.ev env=some y
 |.F e,v,g,R,H=>by cases H;exact⟨_,R.2⟩
 | .G g' p a,v,g,R,H=>by
  simp only[dZ,PI]at H;obtain⟨e,he,rfl⟩:=H;rcases R with⟨h1,R⟩|⟨h1,rfl⟩
  ·obtain⟨y,hy⟩:=rj R he;exact⟨y,by simp only[X.ev,h1,ac,PQ,hy]⟩
  ·rcases h1 with h1|h1
   ·simp only[X.ev,h1,ac];have:¬((!p)=p):=by cases p<;>simp
    exact⟨_,by rw[Pd this]⟩
   ·exact⟨.tup [],by simp only[X.ev,h1,ac]⟩
 |.D,_,_,_,H=>by simp[dZ]at H
 |.N _,_,_,_,H=>by simp[dZ]at H
 |.O ..,_,_,_,H=>by simp[dZ]at H
 |.Q ..,_,_,_,H=>by simp[dZ]at H
 |.P ..,_,_,_,H=>by simp[dZ]at H
 |.EP ..,_,_,_,H=>by simp[dZ]at H
 |.A _,_,_,_,H=>by simp[dZ]at H
 |.L ..,_,_,_,H=>by simp[dZ]at H
 |.C ..,_,_,_,H=>by simp[dZ]at H
 |.T _,_,_,_,H=>by simp[dZ]at H
structure nB where
 sgs:Nat->Option Sig
 ros:Nat->List Bool
 st:Nat->Nat
 fl:Nat->Bool
 kp:List Nat
 ns:Nat
 nt:Nat
 sg:Sig
 res:List uR
 frz:Bool
structure KJ where
 a:Abs
 ns:List X
 rd:List Nat
 wr:List Nat
def Abs.put(a:Abs)(d:Option Nat)(v:AV):Abs:=match d with|some d=>a.set d v|none=>a
def wV(E:nB)(d:Option Nat):Bool:=match d with|some d=>decide (d<E.nt/\d<4000)|none=>true
def Jf(E:nB)(a:Abs)(g:X)(b:Bool)(d:Nat):IOp->Option uk
 | .buildSlice sz ps s=>af ((a.strip g b).fits sz ps) λl=>if s<E.ns/\nU E.kp [2*E.st s]then
   some ⟨.G g b (.O [2*s] d true (sz.getD 1) (.lst l.1)),a.kill E.st [2*E.st s] [] (some d),xd g b++l.2.map (X.gd g b),[2*E.st s],[2*E.st s]⟩else none
 |_=>none
def BA(E:nB)(a:Abs)(o:IOper):Option KJ:=
 if wV E o.dst then match o.guard with
  |none=>af (JR E.st E.fl E.kp E.ns a o.dst o.op) λr=>some ⟨r.a.put o.dst r.av,r.ns,r.rd,r.wr⟩
  |some (t,b)=>af (a.get t) λgv=>af (dZ gv) λg=>match cJ (a.strip g b) o.op with
   |some r=>some ⟨a.put o.dst (.G g b r.1),xd g b++r.2.1.map (X.gd g b),r.2.2.map (sn E.st),[]⟩
   |none=>af o.dst λd=>af (Jf E a g b d o.op) λr=>some ⟨r.a.put o.dst r.av,r.ns,r.rd,r.wr⟩
 else none
def BeOk(c0 c:Cx):Prop:=∀w,Ew<=w->w<10000->c.be w=c0.be w
section
variable{I:Inv}{c c0:Cx}{a:Abs}{env:Env}{σ:St}
theorem Sim.put(S:Sim I c a env σ){d:Option Nat}{E:nB}(hnt:E.nt=I.nt)(hd:wV E d=true){av:AV}{v:PV}(R:Rel c σ.h env av v):Sim I c (a.put d av) env ⟨aG σ.fr d v,σ.h⟩:=by
 cases d with
 |none=>exact S
 |some d=>
  simp only[wV,PG]at hd;exact Sim.set (fr:=σ.fr) (h:=σ.h) S (by omega) R
theorem lu{RO:Nat->List Bool}{C:cG}{o:IOper}{v:PV}{h':Heap}{R W:List aq}(hw:wanted σ.fr o.guard=some true)(hr:(iQ RO C (PO.ev σ.fr) o.op).runT σ.h=some (v,h',R,W)):
  bu RO C o σ=some (⟨aG σ.fr o.dst v,h'⟩,R,W):=by
 unfold bu;rw[hw];simp only;rw[hr]
theorem HP(RO:Nat->List Bool)(C:cG){E:nB}(hE:E.st=I.st/\E.fl=I.fl/\E.kp=I.kp/\E.ns=I.ns/\E.nt=I.nt)(hodd:∀k∈I.kp,k %2=1)(S:Sim I c a env σ)(hb:BeOk c0 c){o:IOper}{r:KJ}(H:BA E a o=some r)(hg:ao env r.ns=true):
  ∃σ' R W c',bu RO C o σ=some (σ',R,W)/\Sim I c' r.a env σ'/\BeOk c0 c'/\cZ I r.rd R/\cZ I r.wr W:=by
 obtain⟨e1,e2,e3,e4,e5⟩:=hE;unfold BA at H;split at H
 ·rename_i hd;split at H
  ·rename_i hgd;simp only[ab]at H;obtain⟨q,h1,h2⟩:=H;cases h2;rw[e1,e2,e3,e4]at h1;obtain⟨v,h',R,W,c',k1,k2,k3,k4,k5,k6,k7,k8⟩:=J1 RO C S hodd h1 hg;have:=Sim.put k2 e5 hd k3;refine⟨_,R,W,c',lu (by rw[hgd];rfl) k1,this,λw h1 h2=>?_,k4,k5⟩;rw[k7 w (λe=>?_)]
   ·exact hb w h1 h2
   ·rw[e]at hd;simp only[wV,PG,Ew]at hd h1;omega
  ·rename_i t b hgd;simp only[ab]at H;obtain⟨gv,h1,g,h2,H⟩:=H;have Rg:=Abs.get_rel S h1;obtain⟨y,hy⟩:=rj Rg h2;split at H
   ·rename_i q h3;cases H;simp only[ce,O6]at hg;have hbt:=rK hy hg.1;have inactive:(g.ev env=some (.bool !b)∨g.ev env=some (.tup []))->wanted σ.fr o.guard=some false->∃σ' R W c',bu RO C o σ=some (σ',R,W)/\Sim I c' (a.put o.dst (.G g b q.1)) env σ'/\BeOk c0 c'/\cZ I (q.2.2.map (sn E.st)) R/\cZ I [] W:=λhi hw=>by
     refine⟨⟨aG σ.fr o.dst (.tup []),σ.h⟩,[],[],c,?_,Sim.put S e5 hd (.inr ⟨hi,rfl⟩),hb,λ_ h=>(by cases h),λ_ h=>(by cases h)⟩;unfold bu;rw[hw]
    rcases oF Rg h2 hbt with⟨q',hq,hv⟩|⟨hq,hv⟩
    ·by_cases hqb:q'=b
     ·subst hqb;have hgood:ao env q.2.1=true:=by
       rw[eV]at hg⊢;intro x hx;have:=(eV.1 hg.2) _ (P0 (f:=X.gd g q') hx);simpa only[X.ev,hq,ac,PQ]using this
      obtain⟨v,R,k1,k2,k3⟩:=yq RO C (S.strip hq) h3 hgood;refine⟨_,R,[],c,lu (by rw[hgd];simp[wanted,hv]) k1,Sim.put S e5 hd (.inl ⟨hq,k2⟩),hb,λr hr=>⟨(k3 r hr).1,by rw[<-iC S.nm (k3 r hr).1,e1];exact P0 (k3 r hr).2⟩,λ_ h=>(by cases h)⟩
     ·have:q'= !b:=by cases q'<;>cases b<;>simp_all
      exact inactive (.inl (by rw[hq,this])) (by rw[hgd];simp[wanted,hv,hqb])
    ·exact inactive (.inr hq) (by rw[hgd];simp[wanted,hv])
   ·simp only[ab]at H;obtain⟨d,hdst,q,hq0,H⟩:=H;cases H;cases hop:o.op with
    | buildSlice sz ps s=>
     rw[hop]at hq0;simp only[Jf,ab]at hq0;obtain⟨l,h3,H⟩:=hq0;split at H
     ·rename_i hc;cases H;rw[e1,e3,e4]at hc;rw[e1];simp only[ce,O6]at hg;have hbt:=rK hy hg.1;have hdlt:d<4000:=by
       rw[hdst]at hd;simp only[wV,PG]at hd;exact hd.2
      have inactive:(g.ev env=some (.bool !b)∨g.ev env=some (.tup []))->wanted σ.fr o.guard=some false->∃σ' R W c',bu RO C o σ=some (σ',R,W)/\Sim I c' ((a.kill I.st [2*I.st s] [] (some d)).put o.dst (.G g b (.O [2*s] d true (sz.getD 1) (.lst l.1)))) env σ'/\BeOk c0 c'/\cZ I [2*I.st s] R/\cZ I [2*I.st s] W:=λhi hw=>by
       have M:Mut I.st [2*I.st s] [] (some d) c c σ.h σ.h env:=Mut.of (λ_ _ _=>⟨rfl,rfl⟩) λ_ _=>⟨rfl,rfl⟩;have S':Sim I c a env ⟨σ.fr,σ.h⟩:=S;have S2:Sim I c (a.kill I.st [2*I.st s] [] (some d)) env σ:=S'.mutate M S.nm rfl rfl hodd hc.2 (.refl _ _);refine⟨⟨aG σ.fr o.dst (.tup []),σ.h⟩,[],[],c,?_,Sim.put S2 e5 hd (.inr ⟨hi,rfl⟩),hb,λ_ h=>(by cases h),λ_ h=>(by cases h)⟩;unfold bu;rw[hw]
      rcases oF Rg h2 hbt with⟨q',hq,hv⟩|⟨hq,hv⟩
      ·by_cases hqb:q'=b
       ·subst hqb;have hgood:ao env l.2=true:=by
         rw[eV]at hg⊢;intro x hx;have:=(eV.1 hg.2) _ (P0 (f:=X.gd g q') hx);simpa only[X.ev,hq,ac,PQ]using this
        obtain⟨k1,k2,k3,k4⟩:=Abs.fits_ok (S.strip hq) h3 hgood;obtain⟨v,h',R,W,c',j1,j2,j3,j4,j5,j6,j7,j8⟩:=lY (ns:=[]) S hodd hc.1 hc.2 (d:=d) k1 k4 (e:=.lst l.1) (by simp only[X.ev,k2,ac,bT]) (m:=dz sz (kQ (PO.ev σ.fr) ps) s) (by simp only[dz,k3,PQ]);refine⟨_,R,W,c',lu (by rw[hgd];simp[wanted,hv]) (by rw[hop];exact j1),Sim.put j2 e5 hd (.inl ⟨hq,j3⟩),λw h1 h2=>?_,j4,j5⟩;rw[j7 w (λe=>?_)]
        ·exact hb w h1 h2
        ·cases e;simp only[Ew]at h1;omega
       ·have:q'= !b:=by cases q'<;>cases b<;>simp_all
        exact inactive (.inl (by rw[hq,this])) (by rw[hgd];simp[wanted,hv,hqb])
      ·exact inactive (.inr hq) (by rw[hgd];simp[wanted,hv])
     ·cases H
    |_=>rw[hop]at hq0;simp only[Jf]at hq0;cases hq0
 ·cases H
end
structure ke (FT:Nat->Option am) (sgs:Nat->Option Sig) (C:bK) (V:Nat->List PV->List PV->Bool):Prop where
  c:∀f xs r os,C f xs=some (r,os)->∀sg,sgs f=some sg->Nz FT sg f xs r os
  v:∀k vs caps,V k vs caps=true->∃sg,sgs k=some sg/\vOk sg.ps vs.length caps=true/\sg.r=.F/\sg.scal=true/\oo sg=true
theorem Heap.get_ext{h h':Heap}(hl:h'.L.length=h.L.length)(ha:h'.A.length=h.A.length)(hg:∀q,h'.get q=h.get q):h'=h:=by
  cases h with
  |mk A L=>
  cases h' with
  |mk A' L'=>
  have e1:L'=L:=List.ext_getElem? λi=>hg (.l i);have e2:A'=A:=List.ext_getElem? λi=>by
    have h1:=hg (.a i);simp only[Heap.get]at h1;cases h2:A'[i]? with
    | none=>cases h3:A[i]? with
      |none=>rfl
      |some b=>rw[h2,h3]at h1;cases h1
    | some b=>cases h3:A[i]? with
      |none=>rw[h2,h3]at h1;cases h1
      |some b'=>rw[h2,h3]at h1;cases h1;rfl
  rw[e1,e2]
theorem Called.pure2{sg:Sig}{h h3:Heap}{P P3:Nat->aq->Prop}{Fr:aq->Prop}{args0 outs:List PV}{s:Nat}{v r:PV}{R W:List aq}(K:Called sg h P Fr args0 s v r outs h3 R W P3)(h1:∀i q,¬P i q)(h2:∀q,¬t9 s sg.nown q)(h3':∀q,¬Fr q):h3=h/\W=[]:=by
  refine⟨Heap.get_ext K.ll K.la λq=>K.frame q (λp=>h1 p q) (h2 q) (h3' q),?_⟩;cases W with
  |nil=>rfl
  | cons q W=>
    rcases(K.wr q (by simp)).2 with h|⟨p,h⟩|h
    ·exact absurd h (h3' q)
    ·exact absurd h (h1 p q)
    ·exact absurd h (h2 q)
def CP:List K->List PV->Nat->Nat->aq->Prop
  |.B true _::ks,v::vs,j,i,q=>(i=j/\∃ver,v=.ptr q ver 0 0)∨CP ks vs (j+1) i q
  |.F::ks,_::vs,j,i,q=>CP ks vs j i q
  |_,_,_,_,_=>False
theorem CP.nil{ks:List K}{j i:Nat}{q:aq}:¬CP ks [] j i q:=by
  intro h;unfold CP at h;split at h<;>simp_all
theorem vOk.nil{k:K}{ks:List K}:vOk (k::ks) 0 []=false:=by
  cases k with
  |B ro cs=>cases ro<;>rfl
  |_=>rfl
theorem CP.le:∀{ks:List K}{vs:List PV}{j i:Nat}{q:aq},CP ks vs j i q->j<=i:=by
  intro ks;induction ks with
  |nil=>intro vs j i q h;cases vs<;>simp[CP]at h
  | cons k ks ih=>
    intro vs j i q h;cases vs with
    |nil=>exact absurd h CP.nil
    | cons v vs=>
      cases k with
      |F=>exact ih h
      | B ro bs=>
        cases ro with
        | true=>
          rcases h with⟨rfl,_⟩|h
          ·exact Pf _
          ·have:=ih h;omega
        |false=>simp[CP]at h
      |_=>simp[CP]at h
theorem CP.ref:∀{ks:List K}{vs:List PV}{j i:Nat}{q:aq},CP ks vs j i q->q∈dJ vs:=by
  intro ks;induction ks with
  |nil=>intro vs j i q h;cases vs<;>simp[CP]at h
  | cons k ks ih=>
    intro vs j i q h;cases vs with
    |nil=>exact absurd h CP.nil
    | cons v vs=>
      have hm:q∈dJ vs->q∈dJ (v::vs):=λhq=>by clear h;cases v<;>first|exact hq|exact Pe _ hq
      cases k with
      |F=>exact hm (ih h)
      | B ro bs=>
        cases ro with
        | true=>
          rcases h with⟨_,ver,rfl⟩|h
          ·exact Pj ..
          ·exact hm (ih h)
        |false=>simp[CP]at h
      |_=>simp[CP]at h
theorem CP.uniq:∀{ks:List K}{vs:List PV}{j i i':Nat}{q:aq},(dJ vs).Nodup->CP ks vs j i q->CP ks vs j i' q->i=i':=by
  intro ks;induction ks with
  |nil=>intro vs j i i' q _ h;cases vs<;>simp[CP]at h
  | cons k ks ih=>
    intro vs j i i' q hn h h';cases vs with
    |nil=>exact absurd h CP.nil
    | cons v vs=>
      have hn':(dJ vs).Nodup:=by
        cases v<;>first|exact hn|(simp only[dJ,Rb]at hn;exact hn.2)
      cases k with
      |F=>exact ih hn' h h'
      | B ro bs=>
        cases ro with
        | true=>
          rcases h with⟨rfl,ver,rfl⟩|h
          · rcases h' with⟨rfl,_⟩|h'
            ·rfl
            · simp only[dJ,Rb]at hn
              exact absurd h'.ref hn.1
          · rcases h' with⟨rfl,ver,rfl⟩|h'
            · simp only[dJ,Rb]at hn
              exact absurd h.ref hn.1
            ·exact ih hn' h h'
        |false=>simp[CP]at h
      |_=>simp[CP]at h
theorem Gc{h:Heap}{Pr:aq->Prop}:∀{ks:List K}{bs:List Bool}{vs xs:List PV}{j:Nat},vOk ks 0 xs=true->QL Pr h vs xs->
    dM h (CP ks vs j) (λ_=>False) ks bs j vs xs/\(∀i q,CP ks vs j i q->i∈bH ks j/\Pr q):=by
  intro ks;induction ks with
  | nil=>
    intro bs vs xs j hv H;cases xs with
    | nil=>cases vs with
      |nil=>exact⟨by cases bs<;>trivial,λi q h=>by simp[CP]at h⟩
      |cons=>cases H
    |cons=>simp[vOk]at hv
  | cons k ks ih=>
    intro bs vs xs j hv H;cases xs with
    |nil=>rw[vOk.nil]at hv;cases hv
    | cons x xs=>
      cases vs with
      |nil=>cases H
      | cons v vs=>
        have join:∀{k:K}{bs:List Bool}{P:Nat->aq->Prop}{j:Nat},ArgR h P (λ_=>False) k (bs.headD false) j v x->dM h P (λ_=>False) ks bs.tail (j+k.n) vs xs->dM h P (λ_=>False) (k::ks) bs j (v::vs) (x::xs):=by
          intro k bs P j h1 h2;cases bs with
          |nil=>exact⟨h1,h2⟩
          |cons b bs=>exact⟨h1,h2⟩
        have mono2:∀{ks:List K}{bs:List Bool}{j0:Nat}{vs xs:List PV}{P P':Nat->aq->Prop},(∀i r,P i r->P' i r)->dM h P (λ_=>False) ks bs j0 vs xs->dM h P' (λ_=>False) ks bs j0 vs xs:=by
          intro ks;induction ks with
          |nil=>intro bs j0 vs xs P P' _ A;cases vs<;>cases xs<;>first|(cases bs<;>trivial)|(simp[dM]at A)
          | cons k ks ih=>
            intro bs j0 vs xs P P' hp A;cases vs with
            |nil=>cases bs<;>simp[dM]at A
            | cons v vs=>
              cases xs with
              |nil=>cases bs<;>simp[dM]at A
              | cons x xs=>
                cases bs with
                |nil=>exact⟨A.1.mono (λi r _ _=>hp i r) λ_ h=>h,ih hp A.2⟩
                |cons b bs=>exact⟨A.1.mono (λi r _ _=>hp i r) λ_ h=>h,ih hp A.2⟩
        cases k with
        | F=>
          have hnl:vt x=false/\vOk ks 0 xs=true:=by cases x<;>simp_all [vOk,vt]
          rcases H.1 with⟨hp,hl,rfl⟩|⟨r,ver,n,e,ro,rfl,hr,hg,ho,hpl,rfl⟩
          · obtain⟨a1,a2⟩:=ih (bs:=bs.tail) (j:=j) hnl.2 H.2
            refine⟨join ⟨v,hp,rfl,.inl rfl⟩ ?_,λi q hc=>?_⟩
            ·simp only[K.n,Qp];exact mono2 (λi r h=>h) a1
            · obtain⟨b1,b2⟩:=a2 i q hc
              exact⟨by simpa only[bH,K.n,Qp]using b1,b2⟩
          ·simp[vt]at hnl
        | B ro cs=>
          cases ro with
          |false=>simp[vOk]at hv
          | true=>
            obtain⟨l,rfl,hall,hlen,hrest⟩:∃l,x=.lptr l/\ny cs=true/\l.length=cs.length/\vOk ks 0 xs=true:=by
              cases x<;>first|(simp only[vOk,O6,PF]at hv;exact⟨_,rfl,hv.1.1,hv.1.2,hv.2⟩)|(simp[vOk]at hv;done)
            rcases H.1 with⟨hp,hl,hx⟩|⟨r,ver,n,e,ro,rfl,hr,hg,ho,hpl,hx⟩
            ·cases v<;>simp_all [aO,vt]
            · cases hx
              obtain⟨a1,a2⟩:=ih (bs:=bs.tail) (j:=j+1) hrest H.2;have hcF:=hall;have hK:KRs h (CP (.B true cs::ks) (.ptr r ver 0 0::vs) j) cs (j+1) e.cells (aB e.cells):=yz hcF (by rw[<-hlen,aQ]) hpl;have hn0:=(oL hcF hK).2.2;refine⟨join ⟨⟨r,ver,n,e,ro,aB e.cells,rfl,.inl ⟨rfl,ver,rfl⟩,hg,by simp,ho,rfl,hK⟩,.inr λn=>rfl⟩ ?_,λi q hc=>?_⟩
              · simp only[K.n,hn0,PZ]
                exact mono2 (λi r hc=>.inr hc) a1
              · rcases hc with⟨rfl,ver',hv'⟩|hc
                · cases hv'
                  exact⟨by simp only[bH];exact Pc _ (List.mem_map.2 ⟨0,List.mem_range.2 (by omega),by omega⟩),hr⟩
                · obtain⟨b1,b2⟩:=a2 i q hc
                  exact⟨by simp only[bH,hn0,PZ];exact O8 _ b1,b2⟩
        |_=>cases x<;>simp_all [vOk]
theorem zG{h:Heap}{Pr:aq->Prop}:∀{as:List PV}{ks:List K}{bs:List Bool}{vs xs:List PV},vOk ks as.length xs=true->bX as=true->QL Pr h vs xs->
    ∃P:Nat->aq->Prop,dM h P (λ_=>False) ks bs 0 (as++vs) (aB as++xs)/\(∀i q,P i q->i∈bH ks 0/\Pr q)/\((dJ vs).Nodup->∀i i' q,P i q->P i' q->i=i')/\eA ks=0
  | [],ks,bs,vs,xs,hv,_,H=>by
    obtain⟨a1,a2⟩:=Gc (bs:=bs) (j:=0) hv H;have hout:∀{ks:List K}{xs:List PV},vOk ks 0 xs=true->eA ks=0:=by
      intro ks;induction ks with
      |nil=>intro xs _;rfl
      | cons k ks ih=>
        intro xs hv;cases xs with
        |nil=>rw[vOk.nil]at hv;cases hv
        | cons x xs=>
          cases k with
          |F=>   have:vOk ks 0 xs=true:=by cases x<;>simp_all [vOk]
                 exact ih this
          | B ro cs=>
            cases ro with
            |true=>   have:vOk ks 0 xs=true:=by cases x<;>simp_all [vOk]
                      exact ih this
            |false=>simp[vOk]at hv
          |_=>cases x<;>simp_all [vOk]
    exact⟨CP ks vs 0,a1,a2,λhn i i' q=>CP.uniq hn,hout hv⟩
  | a::as,ks,bs,vs,xs,hv,hp,H=>by
    simp only[bX,O6]at hp;cases ks with
    |nil=>simp[vOk]at hv
    | cons k ks=>
      cases k with
      | F=>
        have hv':vOk ks as.length xs=true:=by simpa only[PJ,vOk]using hv
        obtain⟨P,a1,a2,a3,a4⟩:=zG (bs:=bs.tail) hv' hp.2 H;refine⟨P,?_,λi q h=>⟨by simpa only[bH,K.n]using(a2 i q h).1,(a2 i q h).2⟩,a3,a4⟩;cases bs with
        |nil=>exact⟨⟨a,hp.1,rfl,.inl rfl⟩,a1⟩
        |cons b bs=>exact⟨⟨a,hp.1,rfl,.inl rfl⟩,a1⟩
      |_=>simp[vOk]at hv
structure vD where
  stm:List X->VS
  a:Abs
  rd:List Nat
  wr:List Nat
def BC(a:Abs):List PO->Option (List X)
  |[]=>some []
  |x::xs=>af (a.fo x) λe=>af (BC a xs) λl=>some (e::l)
def At(d:Nat):Nat->Bool:=λn=>n==d
def kN:Nat->Bool:=λ_=>false
def oH(E:nB)(a:Abs)(o:IOper):Option vD:=
  let d:=o.dst.getD 3999
  if wV E o.dst/\E.nt<=3999 then match o.guard with
    | none=>match o.op with
      |.call f args s=>af (a.pos args) λavs=>af (vB E.sgs E.ros E.st E.fl E.kp E.ns a d f avs s) λcr=>some ⟨λns=>.call ns none d f cr.xs cr.outs,cr.a.put o.dst cr.av,cr.rd,cr.wr⟩
      | .callv g args s=>af (a.po g) λgv=>match gv with
        |.C f cs=>af (a.pos args) λavs=>af (vB E.sgs E.ros E.st E.fl E.kp E.ns a d f (avs++cs) s) λcr=>some ⟨λns=>.call ns none d f cr.xs cr.outs,cr.a.put o.dst cr.av,cr.rd,cr.wr⟩
        |.Q fs e=>if s<=E.ns then af (BC a args) λxs=>some ⟨λns=>.callv ns none d e xs,(a.keep2 kN (JF E.st (fs.map (sn E.st))) kN (At d)).put o.dst (.F (.v d)),fs.map (sn E.st),fs.map (sn E.st)⟩else none
        |.F e=>if s<=E.ns then af (BC a args) λxs=>some ⟨λns=>.callv ns none d e xs,(a.keep2 kN kN kN (At d)).put o.dst (.F (.v d)),[],[]⟩else none
        |_=>none
      |_=>none
    | some (t,b)=>match o.op with
      |.call f args s=>af (a.get t) λgv=>af (dZ gv) λg=>af ((a.strip g b).pos args) λavs=>af (E.sgs f) λsg=>af (tg (a.strip g b) sg.ps (E.ros f) avs) λar=>
          if oo sg/\K.nL sg.ps=0/\sg.nown=0/\(sg.scal||ar.2.2.isEmpty)=true/\s<=E.ns/\g.ment (At d)=false then
            some ⟨λns=>.call (xd g b++ns) (some (g,b)) d f ar.1 [],(a.keep2 kN kN kN (At d)).put o.dst (.G g b (GL (λ_=>[]) (yn d) sg.r (.v d) 0).1),ar.2.2.map (sn E.st),[]⟩else none
      | .callv gf args s=>af (a.get t) λgv=>af (dZ gv) λg=>af ((a.strip g b).po gf) λfv=>match fv with
        |.Q fs e=>if s<=E.ns/\g.ment (At d)=false then af (BC (a.strip g b) args) λxs=>
            some ⟨λns=>.callv (xd g b++ns) (some (g,b)) d e xs,(a.keep2 kN (JF E.st (fs.map (sn E.st))) kN (At d)).put o.dst (.G g b (.F (.v d))),fs.map (sn E.st),fs.map (sn E.st)⟩else none
        |_=>none
      |_=>none
  else none
section
variable{I:Inv}{c c0:Cx}{a:Abs}{env:Env}{σ:St}
theorem yL(S:Sim I c a env σ):∀{xs:List PO}{l:List X},BC a xs=some l->bX (kQ (PO.ev σ.fr) xs)=true/\eO env l=some (aB (kQ (PO.ev σ.fr) xs))
  |[],l,H=>by cases H;exact⟨rfl,rfl⟩
  | x::xs,l,H=>by
    simp only[BC,ab]at H;obtain⟨e,h1,l',h2,h3⟩:=H;cases h3;have q1:=Abs.fo_ok S h1;have q2:=yL S h2;exact⟨by simp only[kQ,bX,q1.1,q2.1,PE],by simp only[eO,q1.2,q2.2,ac,kQ,aB]⟩
theorem Sim.envD(S:Sim I c a env σ){d:Nat}{df:Nat->Bool}{h':Heap}{r:PV}(hs:∀q,SameRo (h'.get q) (σ.h.get q))(he:∀q,df (c.nm q)=false->h'.get q=σ.h.get q)(hl:h'.L.length=σ.h.L.length)(hA:h'.A.length=σ.h.A.length):
    Sim I c (a.keep2 kN df kN (At d)) (env.set d r) ⟨σ.fr,h'⟩:=by
  have M:uV kN df kN (At d) c c σ.h h' env (env.set d r):=⟨λq _=>⟨hs q,rfl⟩,λq _ h=>he q h,λw _=>⟨rfl,rfl⟩,λn hn=>by
    simp only[At,Q2,ne_eq]at hn;simp[hn]⟩
  refine⟨S.fr,λp hp=>?_,λx hx=>?_,S.nm,by rw[hl];exact S.hl,by rw[hA];exact S.ha,λq hq=>(hs q).trans (S.kp q hq),λi ver b hf hg=>?_⟩
  · obtain⟨p',hp',rfl⟩:=List.mem_map.1 hp
    obtain⟨h1,h2⟩:=List.mem_filter.1 hp';exact Rel.frame2 M h2 (S.tm p' h1)
  · obtain⟨y,hy,rfl⟩:=List.mem_map.1 hx
    obtain⟨h1,h2⟩:=List.mem_filter.1 hy;exact BoxOk.keep2 M h2 (S.bx y h1)
  · rcases hs (.a i)with e|⟨v,sz,es,⟨r1,e1⟩,r2,e2⟩
    ·exact S.fl i ver b hf (by rw[<-e];exact hg)
    · rw[hg]at e1
      simp only[O5,fg.mk.injEq]at e1;have:=S.fl i v _ hf e2;rw[e1.2];exact this
theorem xz{FT:Nat->Option am}{E:nB}{C:bK}{V:Nat->List PV->List PV->Bool}(hC:ke FT E.sgs C V)(e4:E.ns=I.ns)(S:Sim I c a env σ){f s:Nat}{caps cx as:List PV}{Pr:aq->Prop}{df:Nat->Bool}{SS:List Nat}{d:Nat}{r:PV}{os:List PV}
    (hpa:bX as=true)(hQ:QL Pr σ.h caps cx)(hnd:(dJ caps).Nodup)(hs:s<=E.ns)(hSS:∀q,Pr q->q≠ .dead->I.sr q∈SS)(hdf:∀q,df (c.nm q)=false->¬Pr q)(hV:V f (aB as) cx=true)(hCr:C f (aB as++cx)=some (r,os)):
    ∃n v h3 R W,(fc (bf FT n) (E.ros f) f (as++caps) s).runT σ.h=some (v,h3,R,W)/\Sim I c (a.keep2 kN df kN (At d)) (env.set d r) ⟨σ.fr,h3⟩/\pl v=true/\r=aO v/\cZ I SS R/\cZ I SS W:=by
  obtain⟨sg,hsg,hvo,hrF,hsc,hso⟩:=hC.v _ _ _ hV;simp only[oo,O6,PG]at hso;obtain⟨⟨⟨⟨⟨hps,hnq⟩,hwt⟩,hwa⟩,hqb⟩,hqp⟩:=hso;rw[aQ]at hvo;obtain⟨P,a1,a2,a3,a4⟩:=zG (bs:=E.ros f) hvo hpa hQ;have hn0:sg.nown=0:=by simp only[Sig.nown,hrF,K.n,a4]
  have hct:=hC.c _ _ _ _ hCr sg hsg;have hnoR:∀q,¬t9 s sg.nown q:=λq ⟨k,hk,_⟩=>by omega
  obtain⟨n,v,h3,R3,W3,P3,hrun',K3⟩:=vl hct a1 (a3 hnd) (λ_ h=>h.elim) hwa (by rw[hn0,S.hl,<-e4];omega) hqp hnq (gV hps) (λ_ _ q _ _ h=>absurd h (hnoR q)) (λ_ q _ _=>hnoR q);have hsame:∀q,SameRo (h3.get q) (σ.h.get q):=λq=>by
    by_cases hP:∃p,P p q
    · obtain⟨p,hp⟩:=hP
      exact K3.keep p (a2 p q hp).1 q hp
    ·exact K3.fr q (λp hp=>hP ⟨p,hp⟩) (hnoR q)
  have heq:∀q,df (c.nm q)=false->h3.get q=σ.h.get q:=λq hq=>K3.frame q (λp hp=>hdf q hq (a2 p q hp).2) (hnoR q) (λh=>h);have hrr:=K3.rr;rw[hrF]at hrr;obtain⟨hpv,hnv⟩:=hrr;have htr:∀l:List aq,(∀q∈l,q≠ .dead/\(False∨(∃p,P p q)∨t9 s sg.nown q))->cZ I SS l:=λl hl q hq=>by
    obtain⟨h1,h2⟩:=hl q hq;rcases h2 with h2|⟨p,hp⟩|h2
    ·exact h2.elim
    ·exact⟨h1,hSS q (a2 p q hp).2 h1⟩
    ·exact absurd h2 (hnoR q)
  exact⟨n,v,h3,R3,W3,hrun',S.envD (d:=d) (df:=df) (r:=r) hsame heq K3.ll K3.la,hpv,hnv,htr R3 K3.rd,htr W3 K3.wr⟩
theorem DU{FT:Nat->Option am}{E:nB}{C:bK}{V:Nat->List PV->List PV->Bool}(hC:ke FT E.sgs C V)(hE:E.st=I.st/\E.fl=I.fl/\E.kp=I.kp/\E.ns=I.ns/\E.nt=I.nt)(hodd:∀k∈I.kp,k %2=1)
    (S:Sim I c a env σ)(hb:BeOk c0 c){o:IOper}{r:vD}(H:oH E a o=some r){ns:List X}{env':Env}(hrun:(r.stm ns).run C V env=some env'):
    ∃n σ' R W c',bu E.ros (bf FT n) o σ=some (σ',R,W)/\Sim I c' r.a env' σ'/\BeOk c0 c'/\cZ I r.rd R/\cZ I r.wr W:=by
  obtain⟨e1,e2,e3,e4,e5⟩:=hE;unfold oH at H;simp only at H;split at H
  · rename_i hd
    obtain⟨hd,hnt⟩:=hd;split at H
    · rename_i hgd
      have hw:wanted σ.fr o.guard=some true:=by rw[hgd];rfl
      have known:∀{f s:Nat}{avs:List AV}{vs:List PV}{cr:ul},RelL c σ.h env avs vs->vB E.sgs E.ros E.st E.fl E.kp E.ns a (o.dst.getD 3999) f avs s=some cr->(∀n,iQ E.ros (bf FT n) (PO.ev σ.fr) o.op=fc (bf FT n) (E.ros f) f vs s)->
          (VS.call ns none (o.dst.getD 3999) f cr.xs cr.outs).run C V env=some env'->
          ∃n σ' R W c',bu E.ros (bf FT n) o σ=some (σ',R,W)/\Sim I c' (cr.a.put o.dst cr.av) env' σ'/\BeOk c0 c'/\cZ I cr.rd R/\cZ I cr.wr W:=by
        intro f s avs vs cr hR hc hsem hr;simp only[VS.run]at hr;split at hr
        · simp only[eg,ab]at hr
          obtain⟨xs,hx,⟨r,os⟩,hCr,hr⟩:=hr;split at hr
          · cases hr
            rw[e1,e2,e3,e4]at hc;obtain⟨n,v,h',R,W,c',k1,k2,k3,k4,k5,k6,k7⟩:=DL (FT:=FT) (C:=C) S hodd hR hc hx (λsg hsg=>hC.c f xs r os hCr sg hsg);refine⟨n,_,R,W,c',lu hw (by rw[hsem];exact k1),Sim.put k2 e5 hd k3,λw h1 h2=>?_,k4,k5⟩;rw[k7 w h2];exact hb w h1 h2
          ·cases hr
        ·cases hr
      have value:∀{g:PO}{args:List PO}{s f:Nat}{caps cx:List PV}{Pr:aq->Prop}{df:Nat->Bool}{e:X}{xs:List X}{SS:List Nat},o.op=.callv g args s->PO.ev σ.fr g=.fn f caps->QL Pr σ.h caps cx->(dJ caps).Nodup->e.ev env=some (.fn f cx)->BC a args=some xs->s<=E.ns->
          (∀q,Pr q->q≠ .dead->I.sr q∈SS)->(∀q,df (c.nm q)=false->¬Pr q)->(VS.callv ns none (o.dst.getD 3999) e xs).run C V env=some env'->
          ∃n σ' R W c',bu E.ros (bf FT n) o σ=some (σ',R,W)/\Sim I c' ((a.keep2 kN df kN (At (o.dst.getD 3999))).put o.dst (.F (.v (o.dst.getD 3999)))) env' σ'/\BeOk c0 c'/\cZ I SS R/\cZ I SS W:=by
        intro g args s f caps cx Pr df e xs SS hop hg hQ hnd he hxs hs hSS hdf hr;obtain⟨hpa,hea⟩:=yL S hxs;simp only[VS.run]at hr;split at hr
        · simp only[eg,ab]at hr
          obtain⟨fv,hf,hr⟩:=hr;rw[he]at hf;cases hf;simp only[ab]at hr;obtain⟨vs,hvs,hr⟩:=hr;rw[hea]at hvs;cases hvs;split at hr
          · rename_i hV
            simp only[ab]at hr;obtain⟨⟨r,os⟩,hCr,hr⟩:=hr;cases hr;obtain⟨n,v,h3,R3,W3,hrun',S1,hpv,hnv,hR,hW⟩:=xz (d:=o.dst.getD 3999) hC e4 S hpa hQ hnd hs hSS hdf hV hCr;refine⟨n,_,R3,W3,c,lu hw (h':=h3) (v:=v) (R:=R3) (W:=W3) ?_,Sim.put S1 e5 hd ⟨hpv,by simp[X.ev,hnv]⟩,hb,hR,hW⟩;rw[hop];simp only[iQ,pi,hg];exact hrun'
          ·cases hr
        ·cases hr
      split at H
      · rename_i f args s hop
        simp only[ab]at H;obtain⟨avs,h1,cr,h2,h3⟩:=H;cases h3;exact known (Abs.pos_ok S h1) h2 (λn=>by rw[hop];rfl) hrun
      · rename_i g args s hop
        simp only[ab]at H;obtain⟨gv,hgv,H⟩:=H;have Rg:=Abs.po_ok S hgv;split at H
        · rename_i f cs
          simp only[ab]at H;obtain⟨avs,h1,cr,h2,h3⟩:=H;cases h3;obtain⟨vs,hv,hR⟩:=Rg;exact known ((Abs.pos_ok S h1).app hR) h2 (λn=>by rw[hop];simp only[iQ,pi,hv]) hrun
        · rename_i fs e
          split at H
          · rename_i hs
            simp only[ab]at H;obtain⟨xs,h1,h2⟩:=H;cases h2;obtain⟨f,caps,cx,hv,hQ,he,hl9,hnd⟩:=Rg;refine value hop hv hQ hnd he h1 hs (λq hq hqd=>?_) (λq hq hP=>?_) hrun
            ·rw[<-iC S.nm hqd,e1];exact P0 hq
            · simp only[JF,PW,PD]at hq
              exact hq (P0 hP)
          ·cases H
        · rename_i e
          split at H
          · rename_i hs
            simp only[ab]at H;obtain⟨xs,h1,h2⟩:=H;cases h2;have hfn:∃f,PO.ev σ.fr g=.fn f []/\e.ev env=some (.fn f []):=by
              simp only[VS.run]at hrun;split at hrun
              · simp only[eg,ab]at hrun
                obtain⟨fv,hf,hrun⟩:=hrun;split at hrun
                · rename_i k caps
                  rw[Rg.2]at hf;simp only[O5]at hf;obtain⟨l,hl,hl2⟩:=Bx hf;have:=Rg.1;rw[hl]at this;simp only[pl,Qk]at this;subst this;exact⟨k,hl,by rw[Rg.2,hf,hl2];rfl⟩
                ·cases hrun
              ·cases hrun
            obtain⟨f,hf1,hf2⟩:=hfn;exact value (Pr:=λ_=>False) hop hf1 (cx:=[]) trivial List.nodup_nil hf2 h1 hs (λq hq=>hq.elim) (λq _ h=>h) hrun
          ·cases H
        ·cases H
      ·cases H
    · rename_i t b hgd
      split at H
      · rename_i f args s hop
        simp only[ab]at H;obtain⟨gv,h1,g,h2,avs,h3,sg,hsg,ar,h4,H⟩:=H;split at H
        · rename_i hc
          obtain⟨hso,hn1,hn2,hsc,hs,hgm⟩:=hc;cases H;simp only[VS.run]at hrun;split at hrun
          · rename_i hgood
            rw[ce,O6]at hgood;have Rg:=Abs.get_rel S h1;obtain⟨y,hy⟩:=rj Rg h2;have hbt:=rK hy hgood.1;have hgev:∀r:PV,g.ev (env.set (o.dst.getD 3999) r)=g.ev env:=λr=>X.ev_ment (p:=At (o.dst.getD 3999)) (λn hn=>by
              simp only[At,Q2,ne_eq]at hn;simp[hn]) hgm
            have inactive:(g.ev env=some (.bool !b)∨g.ev env=some (.tup []))->wanted σ.fr o.guard=some false->eg env (some (g,b))=some false->
                ∃n σ' R W c',bu E.ros (bf FT n) o σ=some (σ',R,W)/\Sim I c' ((a.keep2 kN kN kN (At (o.dst.getD 3999))).put o.dst (.G g b (GL (λ_=>[]) (yn (o.dst.getD 3999)) sg.r (.v (o.dst.getD 3999)) 0).1)) env' σ'/\BeOk c0 c'/\cZ I (ar.2.2.map (sn E.st)) R/\cZ I [] W:=λhi hw hgv=>by
              rw[hgv]at hrun;simp only[O5]at hrun;subst hrun;have S1:=S.envD (d:=o.dst.getD 3999) (df:=kN) (h':=σ.h) (r:=.tup []) (λ_=>.inl rfl) (λ_ _=>rfl) rfl rfl;refine⟨0,⟨aG σ.fr o.dst (.tup []),σ.h⟩,[],[],c,?_,Sim.put S1 e5 hd (.inr ⟨by simp only[hgev];exact hi,rfl⟩),hb,λ_ h=>(by cases h),λ_ h=>(by cases h)⟩;unfold bu;rw[hw]
            rcases oF Rg h2 hbt with⟨q',hq,hv⟩|⟨hq,hv⟩
            · by_cases hqb:q'=b
              · subst hqb
                have hgv:eg env (some (g,q'))=some true:=by simp[eg,hq]
                rw[hgv]at hrun;simp only[ab]at hrun;obtain⟨xs,hx,⟨r,os⟩,hCr,hrun⟩:=hrun;split at hrun
                · rename_i hol
                  simp only[PT]at hol;have hos:os=[]:=P9 hol;subst hos;simp only[Env.sets,O5]at hrun;subst hrun;have hct:=hC.c f xs r [] hCr sg hsg;have hso0:=hso;simp only[oo,O6,PG]at hso;obtain⟨⟨⟨⟨⟨hps,hnq⟩,hwt⟩,hwa⟩,hqb⟩,hqp⟩:=hso;have S1:=S.strip (p:=q') hq;obtain⟨al,xs',ae,aR⟩:=uJ S1 0 (Abs.pos_ok S1 h3) h4;rw[ae]at hx;cases hx;have hno:∀i q,¬Pn c ar.2.1 (i-0) q:=λi q ⟨l,hl,_⟩=>by
                    have:=getElem?_lt hl;omega
                  have hnoR:∀q,¬t9 s sg.nown q:=λq ⟨k,hk,_⟩=>by omega
                  obtain⟨n,v,h',R3,W3,P3,hrun',K3⟩:=vl hct aR (λi j q h=>absurd h (hno i q)) (λq _ i=>hno i q) hwa (by rw[hn2,S.hl,<-e4];omega) hqp hnq (gV hps) (λ_ _ q _ _ h=>absurd h (hnoR q)) (λ_ q _ _=>hnoR q);obtain⟨rfl,rfl⟩:h'=σ.h/\W3=[]:=by
                    rw[Qt,Qk]at hsc;rcases hsc with hsc|hsc
                    ·exact K3.pure hn1 hn2 hsc
                    ·exact K3.pure2 hno hnoR (λq hq=>by rw[hsc]at hq;cases hq)
                  have S2:=S.envD (d:=o.dst.getD 3999) (df:=kN) (h':=σ.h) (r:=r) (λ_=>.inl rfl) (λ_ _=>rfl) rfl rfl;obtain⟨c',⟨s1,s2⟩,hid⟩:=KId.exists (idb:=yn (o.dst.getD 3999)) c K3.rr;have hcc:c'=c:=by
                    have hrn:sg.r.n=0:=by simp only[Sig.nown]at hn2;omega
                    have h5:c'.nu=c.nu:=funext λw=>(s2 w (by omega)).1;have h6:c'.be=c.be:=funext λw=>(s2 w (by omega)).2;cases c';cases c;simp_all
                  subst hcc;have mk:=Bz (env:=env.set (o.dst.getD 3999) r) (nmf:=λ_=>[]) (e:=.v (o.dst.getD 3999)) K3.rr hid (by simp[X.ev]) (λi q _ hi hP=>by
                    have hrn:sg.r.n=0:=by simp only[Sig.nown]at hn2;omega
                    omega)
                  refine⟨n,_,R3,[],c',lu (by rw[hgd];simp[wanted,hv]) (by rw[hop];exact hrun'),Sim.put S2 e5 hd (.inl ⟨by rw[hgev];exact hq,mk.1⟩),hb,λq hq'=>?_,λ_ h=>(by cases h)⟩;obtain⟨h5,h6⟩:=K3.rd q hq';rcases h6 with h6|⟨p,hp⟩|h6
                  ·exact⟨h5,by rw[<-iC S.nm h5,e1];exact P0 h6⟩
                  ·exact absurd hp (hno p q)
                  ·exact absurd h6 (hnoR q)
                ·cases hrun
              · have hqn:q'= !b:=by cases q'<;>cases b<;>simp_all
                exact inactive (.inl (by rw[hq,hqn])) (by rw[hgd];simp[wanted,hv,hqb]) (by simp[eg,hq,hqb])
            ·exact inactive (.inr hq) (by rw[hgd];simp[wanted,hv]) (by simp[eg,hq])
          ·cases hrun
        ·cases H
      · rename_i gf args s hop
        simp only[ab]at H;obtain⟨gv,h1,g,h2,fv,h3,H⟩:=H;split at H
        · rename_i fs e
          split at H
          · rename_i hc
            obtain⟨hs,hgm⟩:=hc;simp only[ab]at H;obtain⟨xs,h4,H⟩:=H;cases H;simp only[VS.run]at hrun;split at hrun
            · rename_i hgood
              rw[ce,O6]at hgood;have Rg:=Abs.get_rel S h1;obtain⟨y,hy⟩:=rj Rg h2;have hbt:=rK hy hgood.1;have hgev:∀r:PV,g.ev (env.set (o.dst.getD 3999) r)=g.ev env:=λr=>X.ev_ment (p:=At (o.dst.getD 3999)) (λn hn=>by
                simp only[At,Q2,ne_eq]at hn;simp[hn]) hgm
              have inactive:(g.ev env=some (.bool !b)∨g.ev env=some (.tup []))->wanted σ.fr o.guard=some false->eg env (some (g,b))=some false->
                  ∃n σ' R W c',bu E.ros (bf FT n) o σ=some (σ',R,W)/\Sim I c' ((a.keep2 kN (JF E.st (fs.map (sn E.st))) kN (At (o.dst.getD 3999))).put o.dst (.G g b (.F (.v (o.dst.getD 3999))))) env' σ'/\BeOk c0 c'/\cZ I (fs.map (sn E.st)) R/\cZ I (fs.map (sn E.st)) W:=λhi hw hgv=>by
                rw[hgv]at hrun;simp only[O5]at hrun;subst hrun;have S1:=S.envD (d:=o.dst.getD 3999) (df:=JF E.st (fs.map (sn E.st))) (h':=σ.h) (r:=.tup []) (λ_=>.inl rfl) (λ_ _=>rfl) rfl rfl;refine⟨0,⟨aG σ.fr o.dst (.tup []),σ.h⟩,[],[],c,?_,Sim.put S1 e5 hd (.inr ⟨by simp only[hgev];exact hi,rfl⟩),hb,λ_ h=>(by cases h),λ_ h=>(by cases h)⟩;unfold bu;rw[hw]
              rcases oF Rg h2 hbt with⟨q',hq,hv⟩|⟨hq,hv⟩
              · by_cases hqb:q'=b
                · subst hqb
                  have hgv:eg env (some (g,q'))=some true:=by simp[eg,hq]
                  have S1:=S.strip (p:=q') hq;obtain⟨hpa,hea⟩:=yL S1 h4;obtain⟨f,caps,cx,hfv,hQ,he,hl9,hnd⟩:=Abs.po_ok S1 h3;rw[hgv]at hrun;simp only[ab]at hrun;obtain⟨fv',hf,hrun⟩:=hrun;rw[he]at hf;cases hf;simp only[ab]at hrun;obtain⟨vs,hvs,hrun⟩:=hrun;rw[hea]at hvs;cases hvs;split at hrun
                  · rename_i hV
                    simp only[ab]at hrun;obtain⟨⟨r,os⟩,hCr,hrun⟩:=hrun;cases hrun;obtain⟨n,v,h5,R3,W3,hrun',S2,hpv,hnv,hR,hW⟩:=xz (d:=o.dst.getD 3999) (df:=JF E.st (fs.map (sn E.st))) (SS:=fs.map (sn E.st)) hC e4 S hpa hQ hnd hs (λq hq' hqd=>by
                      rw[<-iC S.nm hqd,e1];exact P0 hq') (λq hq' hP=>by
                      simp only[JF,PW,PD]at hq';exact hq' (P0 hP)) hV hCr
                    refine⟨n,_,R3,W3,c,lu (by rw[hgd];simp[wanted,hv]) (h':=h5) (v:=v) (R:=R3) (W:=W3) ?_,Sim.put S2 e5 hd (.inl ⟨by rw[hgev];exact hq,hpv,by simp[X.ev,hnv]⟩),hb,hR,hW⟩;rw[hop];simp only[iQ,pi,hfv];exact hrun'
                  ·cases hrun
                · have hqn:q'= !b:=by cases q'<;>cases b<;>simp_all
                  exact inactive (.inl (by rw[hq,hqn])) (by rw[hgd];simp[wanted,hv,hqb]) (by simp[eg,hq,hqb])
              ·exact inactive (.inr hq) (by rw[hgd];simp[wanted,hv]) (by simp[eg,hq])
            ·cases hrun
          ·cases H
        ·cases H
      ·cases H
  ·cases H
end
def su:List X->List X
 |[]=>[]
 |e::es=>if es.any (λx=>dn e x)then su es else e::su es
theorem ph{env:Env}:∀{l:List X},ao env (su l)=true->ao env l=true
 |[],h=>h
 | e::es,h=>by
  simp only[su]at h;split at h
  ·rename_i hs;have:=ph h;obtain⟨x,hx,hxe⟩:=List.any_eq_true.1 hs;simp only[ao,O6];exact⟨Ch hxe (eV.1 this x hx),this⟩
  ·simp only[ao,O6]at h⊢;exact⟨h.1,ph h.2⟩
def Gy(bs:List (Nat×X))(l:List X):List X:=(su l).filter λe=> !bs.any λb=>dn e b.2
def FE(o:IOper):Bool:=match o.op with|.call .. =>true|.callv .. =>true|_=>false
def Ca(R1 W1 R2 W2:List Nat):Bool:=W1.all (λr=> !R2.contains r&& !W2.contains r)&&W2.all λr=> !R1.contains r
def C2(dr:Bool)(o:IOper)(acc:List (Nat×List Nat×List Nat))(rd wr:List Nat):Bool:= !dr||acc.all λx=>o.bef.contains x.1||Ca x.2.1 x.2.2 rd wr
def rz(E:nB)(dr:Bool):Abs->List X->Nat->List (Nat×List Nat×List Nat)->List IOper->Option (List VS×List X×Abs)
 |a,ns,_,_,[]=>some ([],ns,a)
 | a,ns,j,acc,o::os=>if FE o then
   af (oH E a o) λr=>if C2 dr o acc r.rd r.wr then af (rz E dr r.a [] (j+1) ((j,r.rd,r.wr)::acc) os) λq=>some (r.stm (su ns)::q.1,q.2)else none
  else af (BA E a o) λr=>if C2 dr o acc r.rd r.wr then rz E dr r.a (ns++r.ns) (j+1) ((j,r.rd,r.wr)::acc) os else none
def vj(RO:Nat->List Bool)(C:cG)(dr:Bool)(j:Nat)(acc:List (Nat×List aq×List aq))(os:List IOper)(σ:St):Option St:=if dr then lU RO C j acc os σ else gX RO C os σ
theorem Hb{RO:Nat->List Bool}{C C':cG}(h:GN C C'){dr:Bool}{j:Nat}{acc:List (Nat×List aq×List aq)}{os:List IOper}{σ σ':St}(k:vj RO C dr j acc os σ=some σ'):vj RO C' dr j acc os σ=some σ':=by
 unfold vj at k⊢;cases dr with
 |true=>exact uW h k
 |false=>exact pO h k
inductive ES (I:Inv):List (Nat×List Nat×List Nat)->List (Nat×List aq×List aq)->Prop
 |nil:ES I [] []
 |cons {j:Nat} {rd wr:List Nat} {R W:List aq} {l:List (Nat×List Nat×List Nat)} {m:List (Nat×List aq×List aq)} (h1:cZ I rd R) (h2:cZ I wr W) (h:ES I l m):ES I ((j,rd,wr)::l) ((j,R,W)::m)
theorem DI{I:Inv}{R1 W1 R2 W2:List Nat}{r1 w1 r2 w2:List aq}(h:Ca R1 W1 R2 W2=true)(a:cZ I R1 r1)(b:cZ I W1 w1)(c:cZ I R2 r2)(d:cZ I W2 w2):lw r1 w1 r2 w2=true:=by
 simp only[Ca,O6,P4]at h;simp only[lw,O6,P4];refine⟨λq hq=>?_,λq hq=>?_⟩
 ·have:=h.1 _ (b q hq).2;simp only[PC,PW,PD]at this⊢;exact⟨λhm=>this.1 (c q hm).2,λhm=>this.2 (d q hm).2⟩
 ·have:=h.2 _ (d q hq).2;simp only[PC,PW,PD]at this⊢
  exactλhm=>this (a q hm).2
theorem AL{I:Inv}{o:IOper}:∀{acc:List (Nat×List Nat×List Nat)}{acc':List (Nat×List aq×List aq)}{rd wr:List Nat}{R W:List aq},C2 true o acc rd wr=true->ES I acc acc'->cZ I rd R->cZ I wr W->
  acc'.all (λx=>o.bef.contains x.1||lw x.2.1 x.2.2 R W)=true:=by
 intro acc acc' rd wr R W h hA hR hW;simp only[C2,QF,QN]at h;induction hA with
 |nil=>rfl
 |cons h1 h2 _ ih=>
  simp only[List.all_cons,O6]at h⊢;refine⟨?_,ih h.2⟩;rcases Bool.or_eq_true_iff.1 h.1 with h3|h3
  ·exact Bool.or_eq_true_iff.2 (.inl h3)
  ·exact Bool.or_eq_true_iff.2 (.inr (DI h3 h1 h2 hR hW))
theorem EM{E:nB}{a:Abs}{o:IOper}{r:vD}(H:oH E a o=some r){C:bK}{V:Nat->List PV->List PV->Bool}{env env':Env}{ns:List X}(hr:(r.stm ns).run C V env=some env'):ao env ns=true:=by
 have call:∀{g:Option (X×Bool)}{d f:Nat}{xs:List X}{outs:List Nat}{ns:List X},(VS.call ns g d f xs outs).run C V env=some env'->ao env ns=true:=by
  intro g d f xs outs ns h;simp only[VS.run]at h;split at h
  ·assumption
  ·cases h
 have callv:∀{g:Option (X×Bool)}{d:Nat}{f:X}{xs:List X}{ns:List X},(VS.callv ns g d f xs).run C V env=some env'->ao env ns=true:=by
  intro g d f xs ns h;simp only[VS.run]at h;split at h
  ·assumption
  ·cases h
 unfold oH at H;simp only at H;split at H
 ·split at H
  ·split at H
   ·simp only[ab]at H;obtain⟨_,_,_,_,h3⟩:=H;cases h3;exact call hr
   ·simp only[ab]at H;obtain⟨gv,_,H⟩:=H;split at H
    ·simp only[ab]at H;obtain⟨_,_,_,_,h3⟩:=H;cases h3;exact call hr
    ·split at H
     ·simp only[ab]at H;obtain⟨_,_,h3⟩:=H;cases h3;exact callv hr
     ·cases H
    ·split at H
     ·simp only[ab]at H;obtain⟨_,_,h3⟩:=H;cases h3;exact callv hr
     ·cases H
    ·cases H
   ·cases H
  ·split at H
   ·simp only[ab]at H;obtain⟨_,_,_,_,_,_,_,_,_,_,H⟩:=H;split at H
    ·cases H;have:=call hr;rw[ce,O6]at this;exact this.2
    ·cases H
   ·simp only[ab]at H;obtain⟨_,_,_,_,_,_,H⟩:=H;split at H
    ·split at H
     ·simp only[ab]at H;obtain⟨_,_,H⟩:=H;cases H;have:=callv hr;rw[ce,O6]at this;exact this.2
     ·cases H
    ·cases H
   ·cases H
 ·cases H
theorem wh{E:nB}{dr:Bool}{C:bK}{V:Nat->List PV->List PV->Bool}:∀{os:List IOper}{a:Abs}{ns:List X}{j:Nat}{acc:List (Nat×List Nat×List Nat)}{q:List VS×List X×Abs}{env env':Env},rz E dr a ns j acc os=some q->dp C V env q.1=some env'->ao env' q.2.1=true->ao env ns=true
 |[],a,ns,j,acc,q,env,env',H,hr,hg=>by
  simp only[rz,O5]at H;subst H;simp only[dp,O5]at hr;subst hr;exact hg
 | o::os,a,ns,j,acc,q,env,env',H,hr,hg=>by
  simp only[rz]at H;split at H
  ·simp only[ab]at H;obtain⟨r,h1,H⟩:=H;split at H
   ·simp only[ab]at H;obtain⟨q',h2,h3⟩:=H;cases h3;simp only[dp,ab]at hr;obtain⟨e1,h4,h5⟩:=hr;exact ph (EM h1 h4)
   ·cases H
  ·simp only[ab]at H;obtain⟨r,h1,H⟩:=H;split at H
   ·have:=wh H hr hg;rw[ce,O6]at this;exact this.1
   ·cases H
section
variable{I:Inv}{c0:Cx}
theorem xt{RO:Nat->List Bool}{C:cG}{dr:Bool}{j:Nat}{acc:List (Nat×List aq×List aq)}{o:IOper}{os:List IOper}{σ σ1 σ':St}{R W:List aq}(h1:bu RO C o σ=some (σ1,R,W))(hacc:dr=true->acc.all (λx=>o.bef.contains x.1||lw x.2.1 x.2.2 R W)=true)
  (h2:vj RO C dr (j+1) ((j,R,W)::acc) os σ1=some σ'):vj RO C dr j acc (o::os) σ=some σ':=by
 unfold vj at h2⊢;cases dr with
 |true=>
  simp only[PQ]at h2⊢;simp only[lU,h1,hacc rfl,PQ];exact h2
 |false=>
  simp only[Ps,PS]at h2⊢;simp only[gX,wm h1];exact h2
theorem vo{FT:Nat->Option am}{E:nB}{C:bK}{V:Nat->List PV->List PV->Bool}(hC:ke FT E.sgs C V)(hE:E.st=I.st/\E.fl=I.fl/\E.kp=I.kp/\E.ns=I.ns/\E.nt=I.nt)(hodd:∀k∈I.kp,k %2=1){dr:Bool}:
  ∀{os:List IOper}{c:Cx}{a:Abs}{env:Env}{σ:St}{ns:List X}{j:Nat}{acc:List (Nat×List Nat×List Nat)}{acc':List (Nat×List aq×List aq)}{q:List VS×List X×Abs}{env':Env},
   rz E dr a ns j acc os=some q->Sim I c a env σ->BeOk c0 c->ES I acc acc'->dp C V env q.1=some env'->ao env' q.2.1=true->
   ∃n σ' c',vj E.ros (bf FT n) dr j acc' os σ=some σ'/\Sim I c' q.2.2 env' σ'/\BeOk c0 c'
 |[],c,a,env,σ,ns,j,acc,acc',q,env',H,S,hb,hA,hr,hg=>by
  simp only[rz,O5]at H;subst H;simp only[dp,O5]at hr;subst hr;exact⟨0,σ,c,by unfold vj;cases dr<;>rfl,S,hb⟩
 | o::os,c,a,env,σ,ns,j,acc,acc',q,env',H,S,hb,hA,hr,hg=>by
  simp only[rz]at H;split at H
  ·simp only[ab]at H;obtain⟨r,h1,H⟩:=H;split at H
   ·rename_i hac;simp only[ab]at H;obtain⟨q',h2,h3⟩:=H;cases h3;simp only[dp,ab]at hr;obtain⟨e1,h4,h5⟩:=hr;obtain⟨n1,σ1,R,W,c1,k1,k2,k3,k4,k5⟩:=DU hC hE hodd S hb h1 h4;obtain⟨n2,σ2,c2,m1,m2,m3⟩:=vo hC hE hodd h2 k2 k3 (.cons k4 k5 hA) h5 hg;refine⟨n1+n2,σ2,c2,xt (rB (ja (Nat.le_add_right n1 n2)) k1) (λhd=>?_) (Hb (ja (Nat.le_add_left n2 n1)) m1),m2,m3⟩;subst hd;exact AL hac hA k4 k5
   ·cases H
  ·simp only[ab]at H;obtain⟨r,h1,H⟩:=H;split at H
   ·rename_i hac;have hgood:=wh H hr hg;rw[ce,O6]at hgood;obtain⟨σ1,R,W,c1,k1,k2,k3,k4,k5⟩:=HP E.ros (bf FT 0) hE hodd S hb h1 hgood.2;obtain⟨n2,σ2,c2,m1,m2,m3⟩:=vo hC hE hodd H k2 k3 (.cons k4 k5 hA) hr hg;refine⟨n2,σ2,c2,xt (rB (ja (Qf n2)) k1) (λhd=>?_) m1,m2,m3⟩;subst hd;exact AL hac hA k4 k5
   ·cases H
end
def td:AV->Option X
 |.F e=>some e
 |.N e=>some e
 |.Q _ e=>some e
 |.O _ _ _ _ e=>some e
 |_=>none
def Ba(e':X):AV->AV
 |.F _=>.F e'
 |.N _=>.N e'
 |.Q fs _=>.Q fs e'
 |.O fs w wr sz _=>.O fs w wr sz e'
 |a=>a
theorem v6{c:Cx}{h:Heap}{env env':Env}{a:AV}{v:PV}{e e':X}(R:Rel c h env a v)(H:td a=some e)(he:e'.ev env'=e.ev env):Rel c h env' (Ba e' a) v:=by
 unfold td at H;split at H<;>cases H
 ·exact⟨R.1,by rw[he];exact R.2⟩
 ·exact⟨R.1,by rw[he];exact R.2⟩
 ·obtain⟨f,vs,xs,h1,h2,h3,h4⟩:=R;exact⟨f,vs,xs,h1,h2,by rw[he];exact h3,h4⟩
 ·obtain⟨h1,x,h2,h3,h4⟩:=R;exact⟨h1,x,h2,by rw[he];exact h3,h4⟩
def xa(a:AV):X:=(td a).getD (.boo false)
def Ar:List X->X
 |[]=>.nl
 |e::es=>.cn e (Ar es)
theorem vd{env:Env}:∀{es:List X}{y:PV},(Ar es).ev env=some y->∃xs,y=.tup xs/\xs.length=es.length/\∀(j:Nat)(e:X),es[j]?=some e->∃x,xs[j]?=some x/\e.ev env=some x
 |[],y,h=>by cases h;exact⟨[],rfl,rfl,λj e h=>by simp at h⟩
 |e::es,y,h=>by
  simp only[Ar,X.ev,ab]at h;obtain⟨x,h1,z,h2,h3⟩:=h;obtain⟨xs,rfl,hl,hx⟩:=vd h2;cases h3;refine⟨x::xs,rfl,by simp[hl],λj e' hj=>?_⟩;cases j with
  |zero=>simp only[Pg,O5]at hj⊢;subst hj;exact⟨x,rfl,h1⟩
  |succ j=>exact hx j e' (by simpa using hj)
def um(vf:Nat->Bool)(f:Nat->X):Nat->List AV->List AV
 |_,[]=>[]
 |j,a::as=>(if(td a).isSome then Ba (f j) a else if a.ok kN kN vf then a else .D)::um vf f (j+1) as
theorem qF{c:Cx}{h:Heap}{env env':Env}{vf:Nat->Bool}(hv:∀n,vf n=false->env' n=env n){f:Nat->X}:∀{as:List AV}{vs:List PV}{j:Nat},RelL c h env as vs->(∀(i:Nat)(a:AV)(e:X),as[i]?=some a->td a=some e->(f (j+i)).ev env'=e.ev env)->RelL c h env' (um vf f j as) vs
 |[],[],j,_,_=>trivial
 | a::as,v::vs,j,R,H=>by
  refine⟨?_,qF hv R.2 λi a e h1 h2=>by rw[show j+1+i=j+(i+1)by omega];exact H (i+1) a e (by simpa using h1) h2⟩;split
  ·rename_i hs;obtain⟨e,he⟩:=Option.isSome_iff_exists.1 hs;exact v6 R.1 he (H 0 a e rfl he)
  ·split
   ·rename_i ho;exact Rel.frame (nf:=kN) (idf:=kN) (vf:=vf) ⟨λ_ _=>⟨rfl,rfl⟩,λ_ _=>⟨rfl,rfl⟩,hv⟩ ho R.1
   ·trivial
 |[],_::_,_,R,_=>by cases R
 |_::_,[],_,R,_=>by cases R
def CQ(vf:Nat->Bool)(t:Nat)(av:AV):Option (X×AV):=
 match fx av with
 |some e=>some (e,match av with|.N _=>.N (.v t)|_=>.F (.v t))
 |none=>match av with
  |.A cs=>some (.agg (Ar (cs.map xa)),.A (um vf (λj=>.fld none (.v t) j) 0 cs))
  |av=>(td av).map λe=>(e,Ba (.v t) av)
def zu(vf:Nat->Bool)(x:BX):X×BX:=(.lp (Ar (x.cs.map xa)),⟨x.id,x.ro,x.fs,um vf (λj=>.ld none (.v x.id) j) 0 x.cs⟩)
theorem w5{xs:List PV}(h:aj xs=true){j:Nat}{x:PV}(hx:xs[j]?=some x):x.fits none=true:=by
 have:=cI h hx;cases x<;>simp_all [PV.isCell,PV.fits]
theorem EZ{c:Cx}{h:Heap}{env env':Env}{vf:Nat->Bool}(hv:∀n,vf n=false->env' n=env n){t:Nat}{av:AV}{v y:PV}{p:X×AV}(R:Rel c h env av v)(H:CQ vf t av=some p)(he:p.1.ev env=some y)(ht:env' t=y):Rel c h env' p.2 v:=by
 unfold CQ at H;split at H
 ·rename_i e hf;cases H;have:=lJ R hf;simp only at he;rw[this.2]at he;cases he;split
  ·rename_i e';exact⟨R.1,by simp only[X.ev,ht,(iM R.1).2]⟩
  ·exact⟨this.1,by simp only[X.ev,ht]⟩
 ·split at H
  ·rename_i cs;cases H;obtain⟨vs,h1,h2,h3⟩:=R;simp only[X.ev,ab]at he;obtain⟨z,hz,he⟩:=he;obtain⟨xs,rfl,hl,hx⟩:=vd hz;simp only[bT]at he;obtain⟨xs',hxs',he⟩:=he;cases hxs';split at he
   ·rename_i hok;cases he;refine⟨vs,h1,h2,qF hv h3 λi a e ha hc=>?_⟩;obtain⟨x,e1,e2⟩:=hx i (xa a) (by rw[Pk,ha];rfl);rw[xa,hc,PK]at e2;rw[e2,PZ];simp only[X.ev,ac,ht,tV,mM,dD,e1,w5 hok e1,PQ]
   ·cases he
  ·simp only[PI]at H;obtain⟨e,hc,rfl⟩:=H;exact v6 R hc (by simp only at he;rw[he];simp only[X.ev,ht])
theorem Fh{c:Cx}{h:Heap}{env env':Env}{vf:Nat->Bool}(hv:∀n,vf n=false->env' n=env n){x:BX}{y:PV}(B:BoxOk c h env x)(he:(zu vf x).1.ev env=some y)(ht:env' x.id=y):BoxOk c h env' (zu vf x).2:=by
 obtain⟨n,e,ro,h1,h2,h3,h4,h5⟩:=B;simp only[zu,X.ev,ab]at he;obtain⟨z,hz,he⟩:=he;obtain⟨xs,rfl,hl,hx⟩:=vd hz;simp only[bT]at he;obtain⟨xs',hxs',he⟩:=he;cases hxs';split at he
 ·rename_i hok;cases he;refine⟨n,e,ro,h1,h2,h3,h4,qF hv h5 λi a e ha hc=>?_⟩;obtain⟨x',e1,e2⟩:=hx i (xa a) (by rw[Pk,ha];rfl);rw[xa,hc,PK]at e2;rw[e2,PZ];simp only[X.ev,ac,ht,Cw,mM,dD,e1,w5 hok e1,PQ]
 ·cases he
theorem qo{env:Env}:∀{bs:List (Nat×X)}{out env':Env},bW env bs out=some env'->(∀m,m∉bs.map Prod.fst->env' m=out m)/\((bs.map Prod.fst).Nodup->∀p∈bs,p.2.ev env=some (env' p.1))
 |[],out,env',h=>by cases h;exact⟨λ_ _=>rfl,λ_ _ h=>by cases h⟩
 | (n,x)::bs,out,env',h=>by
  simp only[bW,ab]at h;obtain⟨v,h1,h2⟩:=h;obtain⟨k1,k2⟩:=qo h2;refine⟨λm hm=>?_,λhn p hp=>?_⟩
  ·simp only[PM,Qx,not_or]at hm;rw[k1 m hm.2];simp[hm.1]
  ·simp only[PM,Rb]at hn;rcases List.mem_cons.1 hp with rfl|hp
   ·simp only;rw[h1,k1 n hn.1];simp
   ·exact k2 hn.2 p hp
def oT(vf:Nat->Bool)(ts:List Nat):List (Nat×AV)->List (Nat×X)
 |[]=>[]
 |p::ps=>if ts.contains p.1 then(match CQ vf p.1 p.2 with|some q=>(p.1,q.1)::oT vf ts ps|none=>oT vf ts ps)else oT vf ts ps
def sP(vf:Nat->Bool)(ts:List Nat):List (Nat×AV)->List (Nat×AV)
 |[]=>[]
 |p::ps=>if ts.contains p.1 then(match CQ vf p.1 p.2 with|some q=>(p.1,q.2)::sP vf ts ps|none=>if p.2.ok kN kN vf then p::sP vf ts ps else sP vf ts ps)else if p.2.ok kN kN vf then p::sP vf ts ps else sP vf ts ps
def qA(vf:Nat->Bool)(bs:List Nat):List BX->List (Nat×X)
 |[]=>[]
 |x::xs=>if bs.contains x.id then(x.id,(zu vf x).1)::qA vf bs xs else qA vf bs xs
def CN(vf:Nat->Bool)(bs:List Nat):List BX->List BX
 |[]=>[]
 |x::xs=>(if bs.contains x.id then(zu vf x).2 else⟨x.id,x.ro,x.fs,x.cs.map (AV.keep kN kN vf)⟩)::CN vf bs xs
def Abs.bind(ts bs:List Nat)(a:Abs):List (Nat×X)×Abs:=
 let vf:Nat->Bool:=λn=>ts.contains n||bs.contains n
 (oT vf ts a.t++qA vf bs a.b,⟨sP vf ts a.t,CN vf bs a.b⟩)
theorem nz{vf:Nat->Bool}{ts:List Nat}:∀{l:List (Nat×AV)}{n:Nat},n∈(oT vf ts l).map Prod.fst->ts.contains n=true
 |[],n,h=>by cases h
 | p::ps,n,h=>by
  simp only[oT]at h;split at h
  ·rename_i hc;split at h
   ·simp only[PM,Qx]at h;rcases h with rfl|h
    ·exact hc
    ·exact nz h
   ·exact nz h
  ·exact nz h
theorem qj{vf:Nat->Bool}{bs:List Nat}:∀{l:List BX}{n:Nat},n∈(qA vf bs l).map Prod.fst->bs.contains n=true
 |[],n,h=>by cases h
 | x::xs,n,h=>by
  simp only[qA]at h;split at h
  ·rename_i hc;simp only[PM,Qx]at h;rcases h with rfl|h
   ·exact hc
   ·exact qj h
  ·exact qj h
theorem Sim.bind{I:Inv}{c:Cx}{a:Abs}{env env':Env}{σ:St}(S:Sim I c a env σ){ts bs:List Nat}(hr:bW env (a.bind ts bs).1 env=some env')(hn:((a.bind ts bs).1.map Prod.fst).Nodup):Sim I c (a.bind ts bs).2 env' σ:=by
 obtain⟨k1,k2⟩:=qo hr;have k2:=k2 hn
 let vf:Nat->Bool:=λn=>ts.contains n||bs.contains n
 have hv:∀n,vf n=false->env' n=env n:=λn hn=>by
  simp only[vf,Bool.or_eq_false_iff]at hn;refine k1 n λhm=>?_;simp only[Abs.bind,QR,QS]at hm;rcases hm with hm|hm
  ·rw[nz hm]at hn;cases hn.1
  ·rw[qj hm]at hn;cases hn.2
 have M:Ct kN kN vf c c σ.h σ.h env env':=⟨λ_ _=>⟨rfl,rfl⟩,λ_ _=>⟨rfl,rfl⟩,hv⟩;have hT:∀(l:List (Nat×AV)),(∀p∈l,Rel c σ.h env p.2 (lG σ.fr p.1))->(∀p∈oT vf ts l,p.2.ev env=some (env' p.1))->∀p∈sP vf ts l,Rel c σ.h env' p.2 (lG σ.fr p.1):=by
  intro l;induction l with
  |nil=>intro _ _ p hp;cases hp
  | cons q l ih=>
   intro h1 h2 p hp;have hq:=h1 q (Pj ..);have h1':=λp hp=>h1 p (Pe _ hp);simp only[sP]at hp;simp only[oT]at h2;split at hp
   ·rename_i hc;rw[O9 hc]at h2;split at hp
    ·rename_i b hb;rw[hb]at h2;rcases List.mem_cons.1 hp with rfl|hp
     ·exact EZ hv hq hb (h2 _ (Pj ..)) rfl
     ·exact ih h1' (λp hp=>h2 p (Pe _ hp)) p hp
    ·rename_i hb;rw[hb]at h2;split at hp
     ·rename_i ho;rcases List.mem_cons.1 hp with rfl|hp
      ·exact Rel.frame M ho hq
      ·exact ih h1' h2 p hp
     ·exact ih h1' h2 p hp
   ·rename_i hc;rw[Pd hc]at h2;split at hp
    ·rename_i ho;rcases List.mem_cons.1 hp with rfl|hp
     ·exact Rel.frame M ho hq
     ·exact ih h1' h2 p hp
    ·exact ih h1' h2 p hp
 have hB:∀(l:List BX),(∀x∈l,BoxOk c σ.h env x)->(∀p∈qA vf bs l,p.2.ev env=some (env' p.1))->∀x∈CN vf bs l,BoxOk c σ.h env' x:=by
  intro l;induction l with
  |nil=>intro _ _ p hp;cases hp
  | cons q l ih=>
   intro h1 h2 p hp;have hq:=h1 q (Pj ..);have h1':=λp hp=>h1 p (Pe _ hp);simp only[CN]at hp;simp only[qA]at h2;split at hp
   ·rename_i hc;rw[O9 hc]at h2;rcases List.mem_cons.1 hp with rfl|hp
    ·exact Fh hv hq (h2 _ (Pj ..)) rfl
    ·exact ih h1' (λp hp=>h2 p (Pe _ hp)) p hp
   ·rename_i hc;rw[Pd hc]at h2;rcases List.mem_cons.1 hp with rfl|hp
    ·exact BoxOk.keep M (by simp[kN]) hq
    ·exact ih h1' h2 p hp
 refine⟨S.fr,hT a.t S.tm λp hp=>k2 p (Pc _ hp),hB a.b S.bx λp hp=>k2 p (O8 _ hp),S.nm,S.hl,S.ha,S.kp,S.fl⟩
def Abs.only(p:Nat->Bool)(q:BX->Bool)(a:Abs):Abs:=⟨a.t.filter λx=>p x.1,a.b.filter q⟩
theorem Sim.only{I:Inv}{c:Cx}{a:Abs}{env:Env}{σ:St}(S:Sim I c a env σ)(p:Nat->Bool)(q:BX->Bool):Sim I c (a.only p q) env σ:=
 ⟨S.fr,λx hx=>S.tm x (List.mem_filter.1 hx).1,λx hx=>S.bx x (List.mem_filter.1 hx).1,S.nm,S.hl,S.ha,S.kp,S.fl⟩
mutual
def rL(a:AV):AV->Option (List (Nat×Nat))
 |.D=>some []
 |.F e'=>(match a with|.F e=>if e=e' then some []else none|.N e=>if e=e' then some []else none|_=>none)
 |.N e'=>(match a with|.N e=>if e=e' then some []else none|_=>none)
 |.O fs' w' wr' sz' e'=>(match a with|.O fs w wr sz e=>if fs.all (λn=>fs'.contains n)/\(wr'=true->wr=true)/\sz=sz'/\e=e' then some [(w',w)]else none|_=>none)
 |.Q fs' e'=>(match a with|.Q fs e=>if fs.all (λn=>fs'.contains n)/\e=e' then some []else none|_=>none)
 |.P b' o'=>(match a with|.P b o=>if b=b'/\o=o' then some []else none|_=>none)
 |.A cs'=>(match a with|.A cs=>B7 cs cs'|_=>none)
 |.C f' cs'=>(match a with|.C f cs=>if f=f' then B7 cs cs' else none|_=>none)
 |_=>none
def B7(as:List AV):List AV->Option (List (Nat×Nat))
 |[]=>if as.isEmpty then some []else none
 |b::bs=>(match as with|a::as=>af (rL a b) λl=>af (B7 as bs) λm=>some (l++m)|[]=>none)
end
section
variable{c:Cx}{h:Heap}{env:Env}{nu':Nat->PV}
theorem TokOk.sub{c:Cx}{h:Heap}{fs fs':List Nat}(hs:fs.all (λn=>fs'.contains n)=true){sz:Nat}{v x:PV}(T:TokOk (λr=>c.nm r∈fs) h sz v x):TokOk (λr=>c.nm r∈fs') h sz v x:=
 T.mono λr hr=>by have:=List.all_eq_true.1 hs _ hr;simpa using this
mutual
theorem Rel.ent:∀{b a:AV}{v:PV}{l:List (Nat×Nat)},Rel c h env a v->rL a b=some l->(∀p∈l,nu' p.1=c.nu p.2)->Rel ⟨c.nm,nu',c.be⟩ h env b v
 |.D,a,v,l,R,H,hp=>trivial
 | .F e',a,v,l,R,H,hp=>by
  unfold rL at H;split at H
  ·split at H
   ·rename_i he;subst he;exact R
   ·cases H
  ·split at H
   ·rename_i he;subst he;have:=iM R.1;exact⟨this.1,by rw[this.2];exact R.2⟩
   ·cases H
  ·cases H
 | .N e',a,v,l,R,H,hp=>by
  unfold rL at H;split at H
  ·split at H
   ·rename_i he;subst he;exact R
   ·cases H
  ·cases H
 | .O fs' w' wr' sz' e',a,v,l,R,H,hp=>by
  unfold rL at H;split at H
  ·split at H
   ·rename_i hc;cases H;obtain⟨h1,h2,h3,h4⟩:=hc;subst h3;subst h4;obtain⟨r1,x,r2,r3,r4⟩:=R;have:=hp _ (List.mem_singleton.2 rfl);exact⟨by simp only[this];exact r1,x,TokOk.sub (c:=c) h1 r2,r3,λhw=>r4 (h2 hw)⟩
   ·cases H
  ·cases H
 | .Q fs' e',a,v,l,R,H,hp=>by
  unfold rL at H;split at H
  ·split at H
   ·rename_i hc;obtain⟨h1,h2⟩:=hc;subst h2;obtain⟨f,vs,xs,r1,r2,r3⟩:=R;exact⟨f,vs,xs,r1,r2.mono λr hr=>by have:=List.all_eq_true.1 h1 _ hr;simpa using this,r3⟩
   ·cases H
  ·cases H
 | .P b' o',a,v,l,R,H,hp=>by
  unfold rL at H;split at H
  ·split at H
   ·rename_i hc;obtain⟨h1,h2⟩:=hc;subst h1;subst h2;exact R
   ·cases H
  ·cases H
 | .A cs',a,v,l,R,H,hp=>by
  unfold rL at H;split at H
  ·obtain⟨vs,h1,h2,h3⟩:=R;exact⟨vs,h1,h2,RelL.ent h3 H hp⟩
  ·cases H
 | .C f' cs',a,v,l,R,H,hp=>by
  unfold rL at H;split at H
  ·split at H
   ·rename_i hf;subst hf;obtain⟨vs,h1,h3⟩:=R;exact⟨vs,h1,RelL.ent h3 H hp⟩
   ·cases H
  ·cases H
 |.EP ..,a,v,l,R,H,hp=>by unfold rL at H;simp at H
 |.L ..,a,v,l,R,H,hp=>by unfold rL at H;simp at H
 |.T ..,a,v,l,R,H,hp=>by unfold rL at H;simp at H
 |.G ..,a,v,l,R,H,hp=>by unfold rL at H;simp at H
theorem RelL.ent:∀{bs as:List AV}{vs:List PV}{l:List (Nat×Nat)},RelL c h env as vs->B7 as bs=some l->(∀p∈l,nu' p.1=c.nu p.2)->RelL ⟨c.nm,nu',c.be⟩ h env bs vs
 | [],as,vs,l,R,H,hp=>by
  unfold B7 at H;split at H
  ·rename_i he;rw[Qk]at he;subst he;cases vs with
   |nil=>trivial
   |cons=>cases R
  ·cases H
 | b::bs,as,vs,l,R,H,hp=>by
  unfold B7 at H;split at H
  ·rename_i a as';simp only[ab]at H;obtain⟨l1,h1,l2,h2,h3⟩:=H;cases h3;cases vs with
   |nil=>cases R
   |cons v vs=>exact⟨Rel.ent R.1 h1 λp hp'=>hp p (Pc _ hp'),RelL.ent R.2 h2 λp hp'=>hp p (O8 _ hp')⟩
  ·cases H
end
end
def An(a:Abs):List (Nat×AV)->Option (List (Nat×Nat))
 |[]=>some []
 | p::ps=>(match p.2 with
   |.D=>An a ps
   |b=>af (a.get p.1) λav=>af (rL av b) λl=>af (An a ps) λm=>some (l++m))
def CG(a:Abs):List BX->Option (List (Nat×Nat))
 |[]=>some []
 |y::ys=>af (a.box y.id) λx=>if(y.ro=false->x.ro=false)/\x.fs.all (λn=>y.fs.contains n)then af (B7 x.cs y.cs) λl=>af (CG a ys) λm=>some (l++m)else none
def HF(l:List (Nat×Nat)):Bool:=l.all λp=>l.all λq=>p.1 !=q.1||p.2==q.2
def EC(a b:Abs):Bool:=match An a b.t,CG a b.b with|some l,some m=>HF (l++m)|_,_=>false
theorem Sim.ent{I:Inv}{c:Cx}{a b:Abs}{env:Env}{σ:St}(S:Sim I c a env σ)(H:EC a b=true):∃c',Sim I c' b env σ/\c'.be=c.be:=by
 unfold EC at H;split at H
 ·rename_i l m hl hm
  let nu':Nat->PV:=λw=>match(l++m).find? (λp=>p.1==w)with|some p=>c.nu p.2|none=>c.nu w
  have hnu:∀p∈l++m,nu' p.1=c.nu p.2:=λp hp=>by
   have hne:((l++m).find? λq=>q.1==p.1)≠none:=λh=>by
    have:=List.find?_eq_none.1 h p hp;simp at this
   cases hq:(l++m).find? (λq=>q.1==p.1)with
   |none=>exact absurd hq hne
   |some q=>
    have h1:=List.find?_some hq;have h2:=List.mem_of_find?_eq_some hq;have h3:=List.all_eq_true.1 (List.all_eq_true.1 H q h2) p hp;simp only[PF]at h1;simp only[h1,bne_self_eq_false,QN,PF]at h3;simp only[nu',hq,h3]
  have hT:∀{ps:List (Nat×AV)}{l:List (Nat×Nat)},An a ps=some l->(∀p∈l,nu' p.1=c.nu p.2)->∀p∈ps,Rel ⟨c.nm,nu',c.be⟩ σ.h env p.2 (lG σ.fr p.1):=by
   intro ps;induction ps with
   |nil=>intro l _ _ p hp;cases hp
   | cons q ps ih=>
    intro l hl hn p hp;simp only[An]at hl;split at hl
    ·rename_i hd;rcases List.mem_cons.1 hp with rfl|hp
     ·rw[hd];trivial
     ·exact ih hl hn p hp
    ·simp only[ab]at hl;obtain⟨av,h1,l1,h2,l2,h3,h4⟩:=hl;cases h4;rcases List.mem_cons.1 hp with rfl|hp
     ·exact Rel.ent (Abs.get_rel S h1) h2 λp hp=>hn p (Pc _ hp)
     ·exact ih h3 (λp hp=>hn p (O8 _ hp)) p hp
  have hB:∀{ys:List BX}{l:List (Nat×Nat)},CG a ys=some l->(∀p∈l,nu' p.1=c.nu p.2)->∀y∈ys,BoxOk ⟨c.nm,nu',c.be⟩ σ.h env y:=by
   intro ys;induction ys with
   |nil=>intro l _ _ p hp;cases hp
   | cons z ys ih=>
    intro l hl hn y hy;simp only[CG,ab]at hl;obtain⟨x,h1,hl⟩:=hl;split at hl
    ·rename_i hc;simp only[ab]at hl;obtain⟨l1,h2,l2,h3,h4⟩:=hl;cases h4;rcases List.mem_cons.1 hy with rfl|hy
     ·obtain⟨hid,n,e,ro,k1,k2,k3,k4,k5⟩:=Abs.box_ok S h1;rw[hid]at k1 k2;exact⟨n,e,ro,by have:=List.all_eq_true.1 hc.2 _ k1;simpa using this,k2,λh=>k3 (hc.1 h),k4,RelL.ent k5 h2 λp hp=>hn p (Pc _ hp)⟩
     ·exact ih h3 (λp hp=>hn p (O8 _ hp)) y hy
    ·cases hl
  exact⟨⟨c.nm,nu',c.be⟩,⟨S.fr,hT hl λp hp=>hnu p (Pc _ hp),hB hm λp hp=>hnu p (O8 _ hp),⟨S.nm.l,S.nm.a⟩,S.hl,S.ha,S.kp,S.fl⟩,rfl⟩
 ·cases H
def Abs.kill0(w:Nat)(a:Abs):Abs:=a.keep kN (wS (some w)) kN
theorem Sim.view{I:Inv}{c:Cx}{a:Abs}{env:Env}{σ:St}(S:Sim I c a env σ)(w:Nat)(v:PV):Sim I (c.view w v) (a.kill0 w) env σ:=by
 have M:Ct kN (wS (some w)) kN c (c.view w v) σ.h σ.h env env:=⟨λ_ _=>⟨rfl,rfl⟩,λu hu=>by
  have:u≠w:=by intro e;subst e;simp[wS]at hu
  simp[Cx.view,this],λ_ _=>rfl⟩
 exact Sim.keep (fr:=σ.fr) M S ⟨S.nm.l,S.nm.a⟩ S.hl S.ha S.kp S.fl
def Abs.nToO(t w sz:Nat)(a:Abs):Abs:=match a.get t with
 |some (.N e)=>⟨(t,.O [] w true sz e)::(a.kill0 w).t.filter (λp=>p.1 !=t),(a.kill0 w).b⟩
 |_=>a
theorem Sim.nToO{I:Inv}{c:Cx}{a:Abs}{env:Env}{σ:St}(S:Sim I c a env σ)(t w sz:Nat):∃c',Sim I c' (a.nToO t w sz) env σ/\c'.be=c.be:=by
 unfold Abs.nToO;split
 ·rename_i e he;have R:=Abs.get_rel S he;have S1:=S.view w (lG σ.fr t);refine⟨c.view w (lG σ.fr t),⟨S1.fr,λp hp=>?_,S1.bx,S1.nm,S1.hl,S1.ha,S1.kp,S1.fl⟩,rfl⟩;rcases List.mem_cons.1 hp with rfl|hp
  ·exact⟨by simp[Cx.view],.lst [] false,.inl ⟨R.1,rfl⟩,R.2,λ_=>.inl R.1⟩
  ·exact S1.tm p (List.mem_filter.1 hp).1
 ·exact⟨c,S,rfl⟩
def Abs.nToOB(b j w sz:Nat)(a:Abs):Abs:=match a.box b with
 | some x=>(match x.cs[j]? with
  |some (.N e)=>(match(a.kill0 w).box b with
   |some y=>⟨(a.kill0 w).t,⟨y.id,y.ro,y.fs,y.cs.set j (.O [] w true sz e)⟩::(a.kill0 w).b.filter (λz=>z.id !=b)⟩
   |none=>a)
  |_=>a)
 |none=>a
theorem RelL.set{c:Cx}{h:Heap}{env:Env}:∀{as:List AV}{vs:List PV}{j:Nat}{a:AV}{v:PV},RelL c h env as vs->vs[j]?=some v->Rel c h env a v->RelL c h env (as.set j a) vs
 |[],[],j,a,v,_,h,_=>by simp at h
 |b::as,u::vs,0,a,v,R,h,Ra=>by
  simp only[Pg,O5]at h;subst h;exact⟨Ra,R.2⟩
 |b::as,u::vs,j+1,a,v,R,h,Ra=>⟨R.1,RelL.set R.2 (by simpa using h) Ra⟩
 |[],_::_,_,_,_,R,_,_=>by cases R
 |_::_,[],_,_,_,R,_,_=>by cases R
theorem Sim.nToOB{I:Inv}{c:Cx}{a:Abs}{env:Env}{σ:St}(S:Sim I c a env σ)(b j w sz:Nat):∃c',Sim I c' (a.nToOB b j w sz) env σ/\∀u,u≠w->c'.be u=c.be u:=by
 unfold Abs.nToOB;split
 ·rename_i x hx;split
  ·rename_i e he;split
   ·rename_i y hy;obtain⟨hid,n,el,ro,k1,k2,k3,k4,k5⟩:=Abs.box_ok S hx;obtain⟨v,hv,R⟩:=k5.get he;have S1:=S.view w v;obtain⟨hid',n',el',ro',m1,m2,m3,m4,m5⟩:=Abs.box_ok S1 hy;have hsame:el'=el/\ro'=ro:=by
     rw[hid]at k2;rw[hid']at m2;have:(c.view w v).be b=c.be b:=rfl;rw[this,k2]at m2;simp only[O5,fg.mk.injEq,Blk.mk.injEq,Q7,Rc]at m2;exact⟨m2.2.2.1.symm,m2.2.2.2.symm⟩
    obtain⟨rfl,rfl⟩:=hsame;refine⟨c.view w v,⟨S1.fr,S1.tm,λz hz=>?_,S1.nm,S1.hl,S1.ha,S1.kp,S1.fl⟩,λ_ _=>rfl⟩;rcases List.mem_cons.1 hz with rfl|hz
    ·exact⟨n',el',ro',m1,m2,m3,m4,m5.set hv ⟨by simp[Cx.view],.lst [] false,.inl ⟨R.1,rfl⟩,R.2,λ_=>.inl R.1⟩⟩
    ·exact S1.bx z (List.mem_filter.1 hz).1
   ·exact⟨c,S,λ_ _=>rfl⟩
  ·exact⟨c,S,λ_ _=>rfl⟩
 ·exact⟨c,S,λ_ _=>rfl⟩
def B5(t:Nat)(av:AV)(a:Abs):Abs:=match av with|.O _ _ _ sz _=>a.nToO t (5000000+t) sz|_=>a
def convT:List (Nat×AV)->Abs->Abs
 |[],a=>a
 |p::J,a=>convT J (B5 p.1 p.2 a)
def Bk(b j:Nat)(av:AV)(a:Abs):Abs:=match av with|.O _ _ _ sz _=>a.nToOB b j (6000000+64*b+j) sz|_=>a
def convC(b:Nat):Nat->List AV->Abs->Abs
 |_,[],a=>a
 |j,av::cs,a=>convC b (j+1) cs (Bk b j av a)
def convB:List BX->Abs->Abs
 |[],a=>a
 |x::xs,a=>convB xs (convC x.id 0 x.cs a)
def JD(a J:Abs):Abs:=convB J.b (convT J.t a)
def BeS(c c':Cx):Prop:=∀w,w<10000->c'.be w=c.be w
theorem BeS.trans{a b c:Cx}(h:BeS a b)(k:BeS b c):BeS a c:=λw hw=>by rw[k w hw,h w hw]
theorem Sim.convT{I:Inv}{env:Env}{σ:St}:∀{J:List (Nat×AV)}{c:Cx}{a:Abs},Sim I c a env σ->∃c',Sim I c' (Gv.convT J a) env σ/\BeS c c'
 |[],c,a,S=>⟨c,S,λ_ _=>rfl⟩
 | (t,av)::J,c,a,S=>by
  have h1:∃c',Sim I c' (B5 t av a) env σ/\BeS c c':=by
   unfold B5;split
   ·obtain⟨c1,S1,e1⟩:=S.nToO t (5000000+t) _;exact⟨c1,S1,λw _=>by rw[e1]⟩
   ·exact⟨c,S,λ_ _=>rfl⟩
  obtain⟨c1,S1,e1⟩:=h1;obtain⟨c2,S2,e2⟩:=Sim.convT (J:=J) S1;exact⟨c2,S2,e1.trans e2⟩
theorem Sim.convC{I:Inv}{env:Env}{σ:St}{b:Nat}:∀{cs:List AV}{j:Nat}{c:Cx}{a:Abs},Sim I c a env σ->∃c',Sim I c' (Gv.convC b j cs a) env σ/\BeS c c'
 |[],j,c,a,S=>⟨c,S,λ_ _=>rfl⟩
 | av::cs,j,c,a,S=>by
  have h1:∃c',Sim I c' (Bk b j av a) env σ/\BeS c c':=by
   unfold Bk;split
   ·obtain⟨c1,S1,e1⟩:=S.nToOB b j (6000000+64*b+j) _;exact⟨c1,S1,λw hw=>e1 w (by omega)⟩
   ·exact⟨c,S,λ_ _=>rfl⟩
  obtain⟨c1,S1,e1⟩:=h1;obtain⟨c2,S2,e2⟩:=Sim.convC (cs:=cs) (j:=j+1) S1;exact⟨c2,S2,e1.trans e2⟩
theorem Sim.convB{I:Inv}{env:Env}{σ:St}:∀{xs:List BX}{c:Cx}{a:Abs},Sim I c a env σ->∃c',Sim I c' (Gv.convB xs a) env σ/\BeS c c'
 |[],c,a,S=>⟨c,S,λ_ _=>rfl⟩
 |x::xs,c,a,S=>by
  obtain⟨c1,S1,e1⟩:=Sim.convC (b:=x.id) (cs:=x.cs) (j:=0) S;obtain⟨c2,S2,e2⟩:=Sim.convB (xs:=xs) S1;exact⟨c2,S2,e1.trans e2⟩
def ig(a J:Abs):Bool:=EC (JD a J) J
theorem Sim.reach{I:Inv}{c:Cx}{a J:Abs}{env:Env}{σ:St}(S:Sim I c a env σ)(H:ig a J=true):∃c',Sim I c' J env σ/\BeS c c':=by
 obtain⟨c1,S1,e1⟩:=Sim.convT (J:=J.t) S;obtain⟨c2,S2,e2⟩:=Sim.convB (xs:=J.b) S1;obtain⟨c3,S3,e3⟩:=S2.ent H;exact⟨c3,S3,(e1.trans e2).trans λw _=>by rw[e3]⟩
def EK(st:Nat->Nat)(f:AV->Option (X×List Nat)):List AV->Option (X×List Nat)
 |[]=>some (.nl,[])
 |a::as=>af (f a) λp=>if NB st p.2 as then af (EK st f as) λq=>some (.cn p.1 q.1,p.2++q.2)else none
def KH(st:Nat->Nat):Nat->AV->Option (X×List Nat)
 |0,_=>none
 |n+1,a=>match a with
  |.A cs=>af (EK st (KH st n) cs) λp=>some (.agg p.1,p.2)
  |.L fs sz cs=>if Cy fs then af (EK st (KH st n) cs) λp=>if fs.all (λm=> !p.2.contains m)then some (.lst p.1,p.2++fs)else none else none
  |a=>Mf st a
section
variable{I:Inv}{c:Cx}{env:Env}
def MT(I:Inv)(c:Cx)(env:Env)(h:Heap)(v:PV)(p:X×List Nat)(m:Nat):Prop:=
 ∃v' h' Rr W,(bp m v).runT h=some (v',h',Rr,W)/\pl v'=true/\p.1.ev env=some (aO v')/\Took I c p.2 h h' Rr W/\(v.isCell=true->v'.isCell=true)/\v'.cells.length=v.cells.length
theorem xX{f:AV->Option (X×List Nat)}{m:Nat}(hf:∀{h:Heap}{a:AV}{v:PV}{p:X×List Nat},Rel c h env a v->f a=some p->MT I c env h v p m):∀{as:List AV}{vs:List PV}{h:Heap}{p:X×List Nat},RelL c h env as vs->EK I.st f as=some p->
  ∃vs' h' Rr W,(HM.mapM (bp m) vs).runT h=some (vs',h',Rr,W)/\bX vs'=true/\p.1.ev env=some (.tup (aB vs'))/\Took I c p.2 h h' Rr W/\(aj vs=true->aj vs'=true)/\vs'.length=vs.length/\(∀sz,cC sz vs=true->cC sz vs'=true)
 |[],[],h,p,R,H=>by
  cases H;exact⟨[],h,[],[],rfl,rfl,rfl,Took.refl ..,λh=>h,rfl,λ_ h=>h⟩
 | a::as,v::vs,h,p,R,H=>by
  simp only[EK,ab]at H;obtain⟨p1,h1,H⟩:=H;split at H
  ·rename_i ho;simp only[ab]at H;obtain⟨q,h2,h3⟩:=H;cases h3;obtain⟨v',g,R1,W1,k1,k2,k3,k4,k5,k6⟩:=hf R.1 h1;obtain⟨vs',g',R2,W2,l1,l2,l3,l4,l5,l6,l7⟩:=xX hf (uc k4 ho R.2) h2;refine⟨v'::vs',g',R1++(R2++[]),W1++(W2++[]),?_,by simp only[bX,k2,l2,PE],by simp only[X.ev,k3,l3,ac,aB],?_,λhc=>?_,by simp[l6],λsz hs=>?_⟩
   ·rw[HM.mapM];refine HM.runT_bind_of k1 ?_;exact HM.runT_bind_of l1 rfl
   ·rw[PB,PB];exact k4.trans l4
   ·simp only[aj,O6]at hc⊢;exact⟨k5 hc.1,l5 hc.2⟩
   ·simp only[cC,O6,PF]at hs⊢;exact⟨by rw[k6];exact hs.1,l7 sz hs.2⟩
  ·cases H
 |[],_::_,_,_,R,_=>by cases R
 |_::_,[],_,_,R,_=>by cases R
theorem za(N:Nm I c):∀(n k:Nat){h:Heap}{a:AV}{v:PV}{p:X×List Nat},Rel c h env a v->KH I.st n a=some p->MT I c env h v p (n+3+k)
 |0,k,h,a,v,p,R,H=>by cases H
 | n+1,k,h,a,v,p,R,H=>by
  unfold KH at H;rw[show n+1+3+k=(n+3+k)+1 by omega];split at H
  ·rename_i cs;simp only[ab]at H;obtain⟨q,h1,h2⟩:=H;cases h2;obtain⟨vs,rfl,hok,hR⟩:=R;obtain⟨vs',g,R1,W1,k1,k2,k3,k4,k5,k6,_⟩:=xX (λr e=>za N n k r e) hR h1;refine⟨.agg vs',g,R1++[],W1++[],HM.runT_bind_of k1 rfl,by simp only[pl,k5 hok,k2,PE],?_,by rw[PB,PB];exact k4,λh=>by simp[PV.isCell]at h,by simp[PV.cells,k6]⟩;simp only[X.ev,k3,ac,bT,dE,k5 hok,PQ,aO]
  ·rename_i fs sz cs;split at H
   case isFalse=>cases H
   rename_i hev;simp only[ab]at H;obtain⟨q,h1,H⟩:=H;split at H
   case isFalse=>cases H
   rename_i hdis;cases H;obtain⟨r,ver,vs,rfl,hnm,hget,hsz,hR⟩:=R;obtain⟨vs',g,R1,W1,k1,k2,k3,k4,k5,k6,k7⟩:=xX (λr e=>za N n k r e) hR h1;have hnd:=bB hget;obtain⟨s,rfl⟩:=vM (N:=N) (by have:=List.all_eq_true.1 hev _ hnm;simpa using this) hnd;have himg:(X.lst q.1).ev env=some (aO (.lst vs' false)):=by simp only[X.ev,k3,ac,bT,aO]
   by_cases h0:vs.length=0
   ·have:vs=[]:=P9 h0;subst this;have:vs'=[]:=P9 (by rw[k6];rfl);subst this;refine⟨.lst [] false,h,[],[],?_,rfl,himg,Took.refl ..,λ_=>rfl,rfl⟩;rw[mc];rfl
   ·have hg1:g.get (.l s)=some ⟨ver,some ⟨sz,vs,false⟩⟩:=by
     rw[k4.same (.l s) λhc=>?_,hget];have:=List.all_eq_true.1 hdis _ hnm;simp at this;exact this hc
    refine⟨.lst vs' false,g.put (.l s) ⟨ver,none⟩,[.l s]++(R1++([.l s]++[])),[]++(W1++([]++[.l s])),?_,by simpa[pl]using k2,himg,?_,λ_=>rfl,rfl⟩
    ·rw[mc,Pd h0];have he1:(elems (.tok (.l s) ver sz 0 vs.length 0 false)).runT h=some (vs,h,[.l s],[]):=by
      simp only[elems,Pd h0];have:=HM.runT_bind_of (f:=λb:Blk=>if 0+vs.length<=b.es.length/\b.sz=sz then HM.ret (List.take vs.length (List.drop 0 b.es))else HM.fail) (R:=[.l s]) (R2:=[]) (W:=[]) (W2:=[]) (aW hget) (h2:=h) (b:=vs) (by simp[HM.runT]);simpa using this
     refine HM.runT_bind_of he1 ?_;refine HM.runT_bind_of k1 ?_;refine HM.runT_bind_of (R:=[.l s]) (R2:=[]) (W:=[]) (W2:=[.l s]) (aW hg1) ?_;simp only[HM.runT,hg1]
    ·have T2:Took I c fs g (g.put (.l s) ⟨ver,none⟩) [.l s] [.l s]:=by
      have hin:∀r∈[aq.l s],r≠ .dead/\I.sr r∈fs.map (sn I.st):=λr hr=>by
       have:r=.l s:=by simpa using hr
       subst this;exact⟨hnd,by rw[<-iC N hnd];exact P0 hnm⟩
      exact⟨λr hr=>Heap.get_put_other (by rintro rfl;exact hr hnm),(bq _ _ _).1,(bq _ _ _).2,hin,hin,.put_l _ _ _ _⟩
     have T:=k4.trans T2;refine⟨T.same,T.ll,T.la,λr hr=>?_,λr hr=>?_,T.fl⟩
     ·have hr':r=.l s∨r∈R1:=by
       simp only[Qu,Pi,PB,Qx,QS,List.not_mem_nil,Q5]at hr;rcases hr with h|h|h
       ·exact .inl h
       ·exact .inr h
       ·exact .inl h
      refine T.rd r ?_;rcases hr' with rfl|h<;>simp[*]
     ·exact T.wr r (by simpa using hr)
  ·rename_i a hA hL;obtain⟨v',g,R1,W1,k1,k2,k3,k4,k5,k6,_⟩:=Be N R H (n+1+k);exact⟨v',g,R1,W1,by rw[show n+3+k+1=n+1+k+3 by omega];exact k1,k2,k3,k4,k5,k6⟩
def qB(st:Nat->Nat)(fl:Nat->Bool)(kp:List Nat)(a:Abs)(b j:Nat)(av:AV):Option Abs:=
 af (a.box b) λbx=>if bx.ro=false/\j+1<=bx.cs.length/\nU kp bx.fs/\CW fl bx.fs then
  some ⟨(a.kill st [] bx.fs none).t,⟨b,false,bx.fs,(bx.cs.take j++[av]++bx.cs.drop (j+1)).map (AV.kill st [] bx.fs none)⟩::(a.kill st [] bx.fs none).b⟩else none
def Hn(st:Nat->Nat)(fl:Nat->Bool)(kp:List Nat)(ns nt:Nat)(a:Abs):Adj->Option Abs
 | .tmp t o=>af (a.get t) λav=>if t<nt then(match o with
  |none=>af (KH st 6 av) λp=>if nU kp p.2 then some ((a.kill st [] p.2 none).set t (.F p.1))else none
  |some s=>(match av with
   | .O fs w wr sz e=>if s<ns/\nU kp ([2*st s]++fs.filter λn=>n %2==0)then
     some ((a.kill st [2*st s] (fs.filter λn=>n %2==0) (some (8000000+t))).set t (.O (2*s::fs.filter λn=>n %2==1) (8000000+t) wr sz e))else none
   |.F e=>some (a.set t (.F e))
   |.N e=>some (a.set t (.N e))
   |_=>none))else none
 | .cell t j o=>af (a.get t) λtv=>match tv with
  | .P b 0=>af (a.box b) λbx=>af bx.cs[j]? λav=>(match o with
   |none=>af (KH st 5 av) λp=>if nU kp p.2 then qB st fl kp (a.kill st [] p.2 none) b j (.F p.1)else none
   |some s=>(match av with
    | .O fs w wr sz e=>if s<ns/\nU kp ([2*st s]++fs.filter λn=>n %2==0)then
      qB st fl kp (a.kill st [2*st s] (fs.filter λn=>n %2==0) (some (7000000+64*b+j))) b j (.O (2*s::fs.filter λn=>n %2==1) (7000000+64*b+j) wr sz e)else none
    |.F e=>qB st fl kp a b j (.F e)
    |.N e=>qB st fl kp a b j (.N e)
    |_=>none))
  |_=>none
def Ak(st:Nat->Nat)(fl:Nat->Bool)(kp:List Nat)(ns nt:Nat):List Adj->Abs->Option Abs
 |[],a=>some a
 |j::js,a=>af (Hn st fl kp ns nt a j) λa1=>Ak st fl kp ns nt js a1
theorem DH{a a1:Abs}{fr:List PV}{h:Heap}(S:Sim I c a env ⟨fr,h⟩)(hodd:∀k∈I.kp,k %2=1){b j:Nat}{av:AV}{v:PV}(H:qB I.st I.fl I.kp a b j av=some a1)(hv:v.isCell=true)(R:Rel c h env av v):
  ∃h',(fK none (.ptr (c.be b).1 (c.be b).2 0 j) v).run h=some (.junk,h')/\Sim I c a1 env ⟨fr,h'⟩:=by
 simp only[qB,ab]at H;obtain⟨bx,h1,H⟩:=H;split at H
 case isFalse=>cases H
 rename_i hc;cases H;have hvc:v.cells=[v]:=by cases v<;>first|rfl|simp[PV.isCell]at hv
 obtain⟨h',g1,g2,g3,g4⟩:=tp S hodd (ln:=[av]) (o:=j) (sz:=none) (v:=v) h1 (by cases v<;>first|rfl|simp[PV.isCell]at hv) (by rw[hvc];simp[aj,hv]) (by rw[hvc];exact⟨R,trivial⟩) hc.1 hc.2.1 hc.2.2.1 hc.2.2.2;exact⟨h',HM.runT_run g1,g2⟩
theorem CV(N:Nm I c)(s:Nat)(nu:Nat->PV):Nm I ⟨λr=>if r=.l s then 2*s else c.nm r,nu,c.be⟩ where
 l t:=by
  by_cases ht:t=s
  ·subst ht;exact⟨t,by simp,rfl⟩
  ·obtain⟨j,h5,h6⟩:=N.l t;exact⟨j,by simp[ht,h5],h6⟩
 a i:=by simp[N.a i]
theorem Cj{a:Abs}{fr:List PV}{h:Heap}(S:Sim I c a env ⟨fr,h⟩)(hodd:∀k∈I.kp,k %2=1){s w' w sz:Nat}{fs:List Nat}{wr:Bool}{e:X}{v:PV}(hs:s<I.ns)(hk:nU I.kp ([2*I.st s]++fs.filter λn=>n %2==0)=true)(R:Rel c h env (.O fs w wr sz e) v):
  ∃v' h' c',(o7 s v).run h=some (v',h')/\Sim I c' (a.kill I.st [2*I.st s] (fs.filter λn=>n %2==0) (some w')) env ⟨fr,h'⟩/\c'.be=c.be/\v'.isCell=true/\Rel c' h' env (.O (2*s::fs.filter λn=>n %2==1) w' wr sz e) v':=by
 obtain⟨hv,x,T,he,hw⟩:=R;clear hv;have stay:∀v':PV,(o7 s v).run h=some (v',h)->v'=v->v.isCell=true->TokOk (λr=>(if r=.l s then 2*s else c.nm r)∈2*s::fs.filter λn=>n %2==1) h sz v x->
   ∃v' h' c',(o7 s v).run h=some (v',h')/\Sim I c' (a.kill I.st [2*I.st s] (fs.filter λn=>n %2==0) (some w')) env ⟨fr,h'⟩/\c'.be=c.be/\v'.isCell=true/\Rel c' h' env (.O (2*s::fs.filter λn=>n %2==1) w' wr sz e) v':=by
  intro v' h1 h2 h3 h4;subst h2
  let c':Cx:=⟨λr=>if r=.l s then 2*s else c.nm r,λu=>if u=w' then v' else c.nu u,c.be⟩
  have M:Mut I.st [2*I.st s] (fs.filter λn=>n %2==0) (some w') c c' h h env:=Mut.of (λr h5 h6=>⟨rfl,Pd (by intro hq;subst hq;rw[iC (r:=.l s) S.nm (by intro h;cases h)]at h5;simp[Inv.sr]at h5)⟩) λu hu=>⟨Pd (λe=>hu (by rw[e])),rfl⟩;have hnm:Nm I c':=CV S.nm s _;exact⟨v',h,c',h1,S.mutate M hnm rfl rfl hodd hk (.refl _ _),rfl,h3,(O9 rfl).symm,x,h4,he,hw⟩
 rcases T with⟨hn,hx⟩|⟨r,ver,off,len,room,c0,b,hT,hnm,hget,hsz,ho,hr,hpl,hc,hx⟩
 ·refine stay v ?_ rfl (by rcases hn with rfl|rfl<;>rfl) (.inl ⟨hn,hx⟩);rcases hn with rfl|rfl<;>rfl
 ·subst hT;cases r with
  |dead=>simp[Heap.get]at hget
  |a i=>
   refine stay _ rfl rfl rfl (.inr ⟨.a i,ver,off,len,room,c0,b,rfl,?_,hget,hsz,ho,hr,hpl,hc,hx⟩);show(if aq.a i=.l s then _ else _)∈_;rw[Pd (by intro e;cases e)];refine Pe _ (List.mem_filter.2 ⟨hnm,?_⟩);rw[S.nm.a i];simp
  | l t=>
   have hgn:(h.put (.l t) ⟨ver,none⟩).get (.l t)=some ⟨ver,none⟩:=Heap.get_put_same hget (by intro i hi;cases hi);obtain⟨e0,hg0⟩:∃e0,(h.put (.l t) ⟨ver,none⟩).get (.l s)=some e0:=lF (by rw[(bq h (.l t) ⟨ver,none⟩).1];exact S.hl) hs
   let v':PV:=.tok (.l s) (e0.ver+1) sz off len room c0
   let h2:=(h.put (.l t) ⟨ver,none⟩).put (.l s) ⟨e0.ver+1,some b⟩
   have hg2:h2.get (.l s)=some ⟨e0.ver+1,some b⟩:=Heap.get_put_same hg0 (by intro i hi;cases hi)
   let c':Cx:=⟨λr=>if r=.l s then 2*s else c.nm r,λu=>if u=w' then v' else c.nu u,c.be⟩
   have M:Mut I.st [2*I.st s] (fs.filter λn=>n %2==0) (some w') c c' h h2 env:=by
    refine Mut.of (λr h5 h6=>?_) λu hu=>⟨Pd (λe=>hu (by rw[e])),rfl⟩;have n1:r≠ .l s:=by intro hq;subst hq;rw[iC (r:=.l s) S.nm (by intro h;cases h)]at h5;simp[Inv.sr]at h5
    have n2:r≠ .l t:=by
     rintro rfl
     refine h6 (List.mem_filter.2 ⟨hnm,?_⟩);obtain⟨j,h7,_⟩:=S.nm.l t;rw[h7];simp
    exact⟨by show(Heap.put (h.put (.l t) ⟨ver,none⟩) (.l s) _).get r=_;rw[Heap.get_put_other n1,Heap.get_put_other n2],Pd n1⟩
   have hnm':Nm I c':=CV S.nm s _;refine⟨v',h2,c',?_,S.mutate M hnm' (by rw[(bq _ _ _).1,(bq _ _ _).1]) (by rw[(bq _ _ _).2,(bq _ _ _).2]) hodd hk ((FlOk.put_l _ _ _ _).trans (FlOk.put_l _ _ _ _)),rfl,rfl,(O9 rfl).symm,x,.inr ⟨.l s,e0.ver+1,off,len,room,c0,b,rfl,?_,hg2,hsz,ho,hr,hpl,hc,hx⟩,he,λq=>?_⟩
   ·simp only[o7];rw[HM.run_bind,HM.runT_run (aW hget)];simp only[HM.run,hget];rw[HM.run_bind,HM.runT_run (jB (b:=b) hg0)];rfl
   ·show(if aq.l s=.l s then _ else _)∈_;rw[O9 rfl];exact Pj ..
   ·rcases hw q with hn|⟨r3,ver3,sz3,off3,len3,room3,b3,e3,g3,q3,l3⟩
    ·rcases hn with hn|hn<;>cases hn
    ·cases e3;rw[hget]at g3;cases g3;exact .inr ⟨.l s,e0.ver+1,sz,off,len,room,b,rfl,hg2,q3,l3⟩
theorem AF{h:Heap}{x:BX}(B:BoxOk c h env x){j:Nat}{av:AV}(hj:x.cs[j]?=some av):∃n e ro,h.get (c.be x.id).1=some ⟨(c.be x.id).2,some ⟨n,[e],ro⟩⟩/\∃y,e.cells[j]?=some y/\y.isCell=true/\Rel c h env av y:=by
 obtain⟨n,e,ro,hn,hget,hro,hok,hR⟩:=B;have hl:=getElem?_lt hj;have hl2:j<e.cells.length:=by rw[<-hR.len];exact hl
 have hy:=Pa hl2;exact⟨n,e,ro,hget,_,hy,cI hok hy,by obtain⟨v,g1,g2⟩:=hR.get hj;rw[hy]at g1;cases g1;exact g2⟩
theorem Ic{a a1:Abs}{σ:St}(S:Sim I c a env σ)(hodd:∀k∈I.kp,k %2=1){j:Adj}(H:Hn I.st I.fl I.kp I.ns I.nt a j=some a1):
  ∃fr' h' c',(BW σ.fr j).run σ.h=some (fr',h')/\Sim I c' a1 env ⟨fr',h'⟩/\c'.be=c.be:=by
 cases j with
 | tmp t o=>
  simp only[Hn,ab]at H;obtain⟨av,h1,H⟩:=H;split at H
  case isFalse=>cases H
  rename_i ht;have hR:=Abs.get_rel S h1;have go:∀{y':PV}{h1:Heap}{c':Cx}{a2:Abs}{av':AV},(Fx o (lG σ.fr t)).run σ.h=some (y',h1)->Sim I c' a2 env ⟨σ.fr,h1⟩->c'.be=c.be->Rel c' h1 env av' y'->a2.set t av'=a1->
    ∃fr' h' c',(BW σ.fr (.tmp t o)).run σ.h=some (fr',h')/\Sim I c' a1 env ⟨fr',h'⟩/\c'.be=c.be:=by
   intro y' h1 c' a2 av' g1 g2 g3 g4 g5;refine⟨upd σ.fr t y',h1,c',?_,by rw[<-g5];exact g2.set ht g4,g3⟩;simp only[BW];rw[HM.run_bind,g1];rfl
  split at H
  ·simp only[ab]at H;obtain⟨p,h2,H⟩:=H;split at H
   case isFalse=>cases H
   rename_i hc;obtain⟨v',g,R1,W1,k1,k2,k3,k4,k5,k6⟩:=za S.nm 6 0 hR h2;have S1:Sim I c (a.kill I.st [] p.2 none) env ⟨σ.fr,g⟩:=Sim.mutate (S:Sim I c a env ⟨σ.fr,σ.h⟩) (k4.mut env none) S.nm k4.ll k4.la hodd (by simpa using hc) k4.fl;exact go (av':=.F p.1) (HM.runT_run k1) S1 rfl ⟨k2,k3⟩ (Q0 H)
  ·rename_i s;split at H
   ·split at H
    case isFalse=>cases H
    rename_i hc;obtain⟨v',h',c',k1,k2,k3,k4,k5⟩:=Cj (S:Sim I c a env ⟨σ.fr,σ.h⟩) hodd hc.1 hc.2 hR;exact go k1 k2 k3 k5 (Q0 H)
   ·have hp:(o7 s (lG σ.fr t)).run σ.h=some (lG σ.fr t,σ.h):=by
     have:=hR.1;generalize lG σ.fr t=y at*;cases y<;>first|rfl|simp[pl]at this
    exact go hp (S:Sim I c a env ⟨σ.fr,σ.h⟩) rfl hR (Q0 H)
   ·have hp:(o7 s (lG σ.fr t)).run σ.h=some (lG σ.fr t,σ.h):=by
     have:=hR.1;generalize lG σ.fr t=y at*;rcases this with rfl|rfl<;>rfl
    exact go hp (S:Sim I c a env ⟨σ.fr,σ.h⟩) rfl hR (Q0 H)
   ·cases H
 | cell t j o=>
  simp only[Hn,ab]at H;obtain⟨tv,h1,H⟩:=H;split at H
  case h_2=>cases H
  rename_i b;simp only[ab]at H;obtain⟨bx,h2,av,h3,H⟩:=H;have ht:=Abs.get_rel S h1;simp only[Rel]at ht;obtain⟨hid,B⟩:=Abs.box_ok S h2;obtain⟨n,e,ro,hget,y,hy,hyc,hyR⟩:=AF B h3;rw[hid]at hget;have go:∀{y':PV}{h1:Heap}{c':Cx}{a2:Abs}{av':AV},(Fx o y).run σ.h=some (y',h1)->Sim I c' a2 env ⟨σ.fr,h1⟩->c'.be=c.be->y'.isCell=true->Rel c' h1 env av' y'->qB I.st I.fl I.kp a2 b j av'=some a1->
    ∃fr' h' c',(BW σ.fr (.cell t j o)).run σ.h=some (fr',h')/\Sim I c' a1 env ⟨fr',h'⟩/\c'.be=c.be:=by
   intro y' h1 c' a2 av' g1 g2 g3 g4 g5 g6;obtain⟨h',k1,k2⟩:=DH g2 hodd g6 g4 g5;rw[g3]at k1;refine⟨σ.fr,h',c',?_,k2,g3⟩;simp only[BW,uh,ht];rw[HM.run_bind,HM.run_bind,HM.runT_run (aW hget)];simp only[Pg,hy];rw[HM.run_bind,g1];simp only;rw[k1];rfl
  split at H
  ·simp only[ab]at H;obtain⟨p,h4,H⟩:=H;split at H
   case isFalse=>cases H
   rename_i hc;obtain⟨v',g,R1,W1,k1,k2,k3,k4,k5,k6⟩:=za S.nm 5 1 hyR h4;have S1:Sim I c (a.kill I.st [] p.2 none) env ⟨σ.fr,g⟩:=Sim.mutate (S:Sim I c a env ⟨σ.fr,σ.h⟩) (k4.mut env none) S.nm k4.ll k4.la hodd (by simpa using hc) k4.fl;exact go (av':=.F p.1) (HM.runT_run k1) S1 rfl (k5 hyc) ⟨k2,k3⟩ H
  ·rename_i s;split at H
   ·split at H
    case isFalse=>cases H
    rename_i hc;obtain⟨v',h',c',k1,k2,k3,k4,k5⟩:=Cj (S:Sim I c a env ⟨σ.fr,σ.h⟩) hodd hc.1 hc.2 hyR;exact go k1 k2 k3 k4 k5 H
   ·have hp:(o7 s y).run σ.h=some (y,σ.h):=by
     have:=hyR.1;cases y<;>first|rfl|simp[pl]at this
    exact go hp (S:Sim I c a env ⟨σ.fr,σ.h⟩) rfl hyc hyR H
   ·have hp:(o7 s y).run σ.h=some (y,σ.h):=by
     rcases hyR.1 with rfl|rfl<;>rfl
    exact go hp (S:Sim I c a env ⟨σ.fr,σ.h⟩) rfl hyc hyR H
   ·cases H
theorem u3:∀{js:List Adj}{c:Cx}{a a1:Abs}{σ:St},Sim I c a env σ->(∀k∈I.kp,k %2=1)->Ak I.st I.fl I.kp I.ns I.nt js a=some a1->
  ∃fr' h' c',(DZ js σ.fr).run σ.h=some (fr',h')/\Sim I c' a1 env ⟨fr',h'⟩/\c'.be=c.be
 |[],c,a,a1,σ,S,hodd,H=>by
  cases H;exact⟨σ.fr,σ.h,c,rfl,S,rfl⟩
 |j::js,c,a,a1,σ,S,hodd,H=>by
  simp only[Ak,ab]at H;obtain⟨a2,h1,H⟩:=H;obtain⟨fr1,h1',c1,k1,k2,k3⟩:=Ic S hodd h1;obtain⟨fr2,h2',c2,l1,l2,l3⟩:=u3 k2 hodd H;refine⟨fr2,h2',c2,?_,l2,by rw[l3,k3]⟩;simp only[DZ];rw[HM.run_bind,k1];exact l1
end
def jw(l m:List Nat):List Nat:=l++m.filter λx=> !l.contains x
def yt:List IOper->List Nat->List Nat
 |[],L=>L
 |o::os,L=>jw o.uses (match o.dst,o.guard with|some d,none=>(yt os L).filter (·!=d)|_,_=>yt os L)
def Mb(X:List (Nat×List Nat))(id:Nat):List Nat:=match X.find? (λp=>p.1==id)with|some p=>p.2|none=>[]
def Adj.at:Adj->Nat
 |.cell t _ _=>t
 |.tmp t _=>t
def live(R:List Nat):eZ->List Nat->List (Nat×List Nat)->List Nat
 |.skip,L,_=>L
 |.reg ops _,L,_=>yt ops L
 |.seq a b,L,X=>live R a (live R b L X) X
 |.cond c x y,L,X=>jw c.ts (jw (live R x L X) (live R y L X))
 |.block id c,L,X=>live R c L ((id,L)::X)
 |.loop c,_L,X=>live R c (live R c [] X) X
 |.exit id,_,X=>Mb X id
 |.ret,_,_=>R
 |.adj js c,L,X=>jw (js.map Adj.at) (live R c L X)
 |.post c js,L,X=>live R c (jw (js.map Adj.at) L) X
def L0(R:List Nat):eZ->List Nat->List (Nat×List Nat)->List Nat
 |.cond (.t c) u v,L,X=>if(live R u L X).contains c||(live R v L X).contains c then[]else[c]
 |.seq a b,L,X=>L0 R a (live R b L X) X
 |_,_,_=>[]
def Bc(f:Nat->X):Nat->List AV->Bool
 |_,[]=>true
 |j,a::as=>(match td a with|some e=>e==f j|none=>true)&&Bc f (j+1) as
def JT(t:Nat)(av:AV):Bool:=match av with
 |.A cs=>Bc (λj=>.fld none (.v t) j) 0 cs
 |av=>match td av with|some e=>e== .v t|none=>true
def Fl(L nb:List Nat)(a:Abs):List Nat:=(a.t.filter λp=>L.contains p.1&& !nb.contains p.1&& !JT p.1 p.2).map Prod.fst
def EQ(a:Abs):List Nat:=(a.b.filter λx=> !Bc (λj=>.ld none (.v x.id) j) 0 x.cs).map BX.id
def MS(a:Abs)(x:BX):Bool:=(decide (4000<=x.id)&&decide (x.id<10000))||a.t.any (λp=> !(p.2.ok kN (·==x.id) kN))||a.b.any λy=>y.cs.any λav=> !(av.ok kN (·==x.id) kN)
def clean(L:List Nat)(a:Abs):Abs:=let a1:=a.only (λt=>L.contains t) (λ_=>true);a1.only (λ_=>true) (MS a1)
def Db(L nb:List Nat)(a:Abs):List Nat:=if nb.all λc=>match a.get c with|some av=>av.ok kN kN (λn=>(Fl L nb a).contains n||(EQ a).contains n)|none=>true then nb else[]
def Fa(E:nB)(a:Abs)(ops:List IOper)(dr:Bool)(L nb:List Nat):Option (List VS×Abs):=
 af (rz E dr a [] 0 [] ops) λq=>
  let a1:=clean (jw L nb) q.2.2
  let nb':=Db L nb a1
  let b:=a1.bind (Fl (jw L nb) nb' a1) (EQ a1)
  if(b.1.map Prod.fst).Nodup then
   let ns:=Gy b.1 q.2.1
   some (q.1++(if ns.isEmpty&&b.1.isEmpty then[]else[.asg ns b.1]),b.2)
  else none
theorem pA{C:bK}{V:Nat->List PV->List PV->Bool}:∀{l m:List VS}{env:Env},dp C V env (l++m)=af (dp C V env l) λe=>dp C V e m
 |[],m,env=>rfl
 |s::l,m,env=>by
  simp only[Qu,dp];cases s.run C V env with
  |none=>rfl
  |some e=>simp only[ac];exact pA
section
variable{I:Inv}{c0:Cx}
theorem Fy{FT:Nat->Option am}{E:nB}{C:bK}{V:Nat->List PV->List PV->Bool}(hC:ke FT E.sgs C V)(hE:E.st=I.st/\E.fl=I.fl/\E.kp=I.kp/\E.ns=I.ns/\E.nt=I.nt)(hodd:∀k∈I.kp,k %2=1){dr:Bool}
  {os:List IOper}{c:Cx}{a:Abs}{env:Env}{σ:St}{L nb:List Nat}{q:List VS×Abs}{env':Env}(H:Fa E a os dr L nb=some q)(S:Sim I c a env σ)(hb:BeOk c0 c)(hr:dp C V env q.1=some env'):
  ∃n σ' c',vj E.ros (bf FT n) dr 0 [] os σ=some σ'/\Sim I c' q.2 env' σ'/\BeOk c0 c':=by
 simp only[Fa,ab]at H;obtain⟨p,h1,H⟩:=H;split at H
 ·rename_i hnd;cases H;rw[pA,ab]at hr;obtain⟨e1,h2,h3⟩:=hr;have key:ao e1 (Gy ((clean (jw L nb) p.2.2).bind (Fl (jw L nb) (Db L nb (clean (jw L nb) p.2.2)) (clean (jw L nb) p.2.2)) (EQ (clean (jw L nb) p.2.2))).1 p.2.1)=true/\
    bW e1 ((clean (jw L nb) p.2.2).bind (Fl (jw L nb) (Db L nb (clean (jw L nb) p.2.2)) (clean (jw L nb) p.2.2)) (EQ (clean (jw L nb) p.2.2))).1 e1=some env':=by
   split at h3
   ·rename_i he;rw[O6,Qk,Qk]at he;simp only[dp,O5]at h3;rw[he.1,he.2,h3];exact⟨rfl,rfl⟩
   ·simp only[dp,ab,VS.run]at h3;obtain⟨e2,h4,h5⟩:=h3;cases h5;split at h4
    ·rename_i hg;exact⟨hg,h4⟩
    ·cases h4
  obtain⟨k1,k2⟩:=key;have hgood:ao e1 p.2.1=true:=by
   apply ph;rw[eV]at k1⊢;intro x hx;by_cases hs:(((clean (jw L nb) p.2.2).bind (Fl (jw L nb) (Db L nb (clean (jw L nb) p.2.2)) (clean (jw L nb) p.2.2)) (EQ (clean (jw L nb) p.2.2))).1.any λb=>dn x b.2)=true
   ·obtain⟨b,hb1,hb2⟩:=List.any_eq_true.1 hs;exact Ch hb2 (by rw[(qo k2).2 hnd b hb1];rfl)
   ·exact k1 x (List.mem_filter.2 ⟨hx,by simpa using hs⟩)
  obtain⟨n,σ',c',m1,m2,m3⟩:=vo hC hE hodd h1 S hb .nil h2 hgood;refine⟨n,σ',c',m1,Sim.bind ((m2.only _ _).only _ _) k2 hnd,m3⟩
 ·cases H
end
structure SX where
 vc:VC
 nx:Option Abs
 ex:List (Nat×Abs)
def Ib(a b:VC):VC:=match a,b with
 |.skip,b=>b
 |a,.skip=>a
 |.st l,.st m=>.st (l++m)
 |.st l,.seq (.st m) c=>.seq (.st (l++m)) c
 |a,b=>.seq a b
theorem Ag(C:bK)(V:Nat->List PV->List PV->Bool)(a b:VC)(env:Env):aF C V (Ib a b) env=aF C V (.seq a b) env:=by
 unfold Ib;split
 ·simp only[aF]
 ·simp only[aF];cases aF C V a env with
  |none=>rfl
  |some r=>cases r<;>rfl
 ·rename_i l m;simp only[aF,pA];cases dp C V env l with
  |none=>rfl
  |some e=>first|rfl|(simp only[ac];rfl)|(simp only[ac])
 ·rename_i l m c;simp only[aF,pA];cases dp C V env l with
  |none=>rfl
  |some e=>rfl
 ·rfl
def IM(w':Nat)(a b:AV):AV:=match a with
 |.F e=>(match b with|.F e'=>if e=e' then .F e else .D|.N e'=>if e=e' then .F e else .D|_=>.D)
 |.N e=>(match b with|.N e'=>if e=e' then .N e else .D|.F e'=>if e=e' then .F e else .D|.O fs _ wr sz e'=>if e=e' then .O fs w' wr sz e' else .D|_=>.D)
 |.O fs _ wr sz e=>(match b with|.N e'=>if e=e' then .O fs w' wr sz e else .D|.O fs' _ wr' sz' e'=>if sz=sz'/\e=e' then .O (jw fs fs') w' (wr&&wr') sz e else .D|_=>.D)
 |.Q fs e=>(match b with|.Q fs' e'=>if e=e' then .Q (jw fs fs') e else .D|_=>.D)
 |.P x o=>(match b with|.P y o'=>if x=y/\o=o' then .P x o else .D|_=>.D)
 |_=>.D
def CR(w':Nat):Nat->List AV->List AV->List AV
 |_,[],[]=>[]
 |j,a::as,b::bs=>IM (w'+j) a b::CR w' (j+1) as bs
 |_,_,_=>[]
def MJ(w':Nat)(a b:AV):AV:=match a with
 |.A cs=>(match b with|.A cs'=>if cs.length=cs'.length then .A (CR (w'+1) 0 cs cs')else .D|_=>.D)
 |.C f cs=>(match b with|.C g cs'=>if f=g/\cs.length=cs'.length then .C f (CR (w'+1) 0 cs cs')else .D|_=>.D)
 |a=>IM w' a b
def Ob(l:List (Nat×AV))(t:Nat)(a:AV):Nat:=match a with
 |.O _ w _ _ _=>(match l.find? (λp=>match p.2 with|.O _ w' _ _ _=>w'==w|_=>false)with|some p=>p.1|none=>t)
 |_=>t
def qW(L:List Nat)(a b:Abs):Abs:=
 ⟨(L.map λt=>(t,match a.get t,b.get t with|some x,some y=>MJ (1000000+64*Ob a.t t x) x y|_,_=>.D)).filter λp=>match p.2 with|.D=>false|_=>true,
  a.b.filterMap λx=>match b.box x.id with|some y=>(if x.cs.length=y.cs.length then some ⟨x.id,x.ro||y.ro,jw x.fs y.fs,CR (3000000+64*x.id) 0 x.cs y.cs⟩else none)|none=>none⟩
def Is(body:Abs->Option SX)(L:List Nat):Nat->Abs->Option (SX×Abs)
 |0,_=>none
 |n+1,inv=>af (body inv) λr=>match r.nx with
  |none=>some (r,inv)
  |some a1=>if ig a1 inv then some (r,inv)else Is body L n (qW L inv a1)
def o5:VC:=.st [.asg [.pos (.lst .nl)] []]
theorem pH(C:bK)(V:Nat->List PV->List PV->Bool)(env:Env):aF C V o5 env=none:=rfl
def sx(E:nB)(R:List Nat):eZ->List Nat->List (Nat×List Nat)->List Nat->Abs->Option SX
 |.skip,_,_,_,a=>some ⟨.skip,some a,[]⟩
 | .reg ops dr,L,_,nb,a=>match Fa E a ops dr L nb with
   |some q=>some ⟨.st q.1,some q.2,[]⟩
   |none=>some ⟨o5,none,[]⟩
 | .seq x y,L,X,nb,a=>af (sx E R x (live R y L X) X (L0 R y L X) a) λr1=>match r1.nx with
   |none=>some r1
   |some a1=>af (sx E R y L X nb a1) λr2=>some ⟨Ib r1.vc r2.vc,r2.nx,r1.ex++r2.ex⟩
 | .cond c x y,L,X,_,a=>af (a.fo c) λe=>af (sx E R x L X [] a) λr1=>af (sx E R y L X [] a) λr2=>
   match r1.nx,r2.nx with
   |none,n=>some ⟨.cond e r1.vc r2.vc,n,r1.ex++r2.ex⟩
   |n,none=>some ⟨.cond e r1.vc r2.vc,n,r1.ex++r2.ex⟩
   |some a1,some a2=>let J:=qW L a1 a2;if ig a1 J/\ig a2 J then some ⟨.cond e r1.vc r2.vc,some J,r1.ex++r2.ex⟩else none
 | .block id c,L,X,_,a=>af (sx E R c L ((id,L)::X) [] a) λr=>
   match r.nx.toList++(r.ex.filter λp=>p.1==id).map Prod.snd with
   |[]=>some ⟨.block id r.vc,none,r.ex⟩
   |x::xs=>let J:=xs.foldl (qW L) (qW L x x);if(x::xs).all (λa=>ig a J)then some ⟨.block id r.vc,some J,r.ex.filter λp=>p.1 !=id⟩else none
 | .loop c,_L,X,_,a=>let L':=live R c (live R c [] X) X
   af (Is (λi=>sx E R c L' X [] i) L' 5 (qW L' a a)) λq=>if ig a q.2 then some ⟨.loop q.1.vc,none,q.1.ex⟩else none
 |.exit id,_,_,_,a=>some ⟨.exit id,none,[(id,a)]⟩
 | .ret,_,_,_,a=>match sa E.st E.sg E.res E.frz a with
   |some ex=>some ⟨(if ex.2.2.isEmpty then .ret ex.1 ex.2.1 else .seq (.st [.asg ex.2.2 []]) (.ret ex.1 ex.2.1)),none,[]⟩
   |none=>some ⟨o5,none,[]⟩
 | .post c js,L,X,nb,a=>af (sx E R c (jw (js.map Adj.at) L) X [] a) λr=>match r.nx with
   |none=>some r
   |some a1=>af (Ak E.st E.fl E.kp E.ns E.nt js a1) λa2=>some ⟨r.vc,some a2,r.ex⟩
 | .adj js c,L,X,nb,a=>match Ak E.st E.fl E.kp E.ns E.nt js a with
   |some a1=>sx E R c L X nb a1
   |none=>some ⟨o5,none,[]⟩
theorem C5{body:Abs->Option SX}{L:List Nat}:∀{n:Nat}{i:Abs}{q:SX×Abs},Is body L n i=some q->body q.2=some q.1/\∀a1,q.1.nx=some a1->ig a1 q.2=true
 |0,i,q,h=>by cases h
 | n+1,i,q,h=>by
  simp only[Is,ab]at h;obtain⟨r,h1,h2⟩:=h;split at h2
  ·rename_i hn;cases h2;exact⟨h1,λa1 h=>by simp only at h;rw[hn]at h;cases h⟩
  ·rename_i a1 hn;split at h2
   ·rename_i hr;cases h2;exact⟨h1,λa h=>by simp only at h;rw[hn]at h;cases h;exact hr⟩
   ·exact C5 h2
def ResV(E:nB)(I:Inv)(c0:Cx)(r:SX)(out:ti)(e:Ex)(σ':St):Prop:=
 match out with
 |.norm env'=>e=.norm/\∃a' c',r.nx=some a'/\Sim I c' a' env' σ'/\BeOk c0 c'
 |.exit id env'=>e=.exit id/\∃a' c',(id,a')∈r.ex/\Sim I c' a' env' σ'/\BeOk c0 c'
 |.ret x os=>e=.ret/\∃a' c' env' ex,Sim I c' a' env' σ'/\BeOk c0 c'/\sa E.st E.sg E.res E.frz a'=some ex/\ao env' ex.2.2=true/\ex.1.ev env'=some x/\eO env' ex.2.1=some os
theorem ResV.ex{E:nB}{I:Inv}{c0:Cx}{r r':SX}{out:ti}{e:Ex}{σ':St}(h:ResV E I c0 r out e σ')(hn:∀env,out≠ .norm env)(hx:∀p∈r.ex,p∈r'.ex):ResV E I c0 r' out e σ':=by
 cases out with
 |norm env=>exact absurd rfl (hn env)
 |exit id env=>obtain⟨h1,a',c',h2,h3⟩:=h;exact⟨h1,a',c',hx _ h2,h3⟩
 |ret x os=>exact h
theorem BeOk.s{c0 c c':Cx}(h:BeOk c0 c)(k:BeS c c'):BeOk c0 c':=λw h1 h2=>by rw[k w h2];exact h w h1 h2
def pe(FT:Nat->Option am):Nat->List Bool:=λf=>match FT f with|some F=>F.ro|none=>[]
theorem Gw{FT:Nat->Option am}{n:Nat}{ops:List IOper}{dr:Bool}{σ σ':St}(k:vj (pe FT) (bf FT n) dr 0 [] ops σ=some σ'):bF FT (n+1) (.reg ops dr) σ=some (.norm,σ'):=by
 unfold vj at k;cases dr with
 |true=>
  simp only[PQ]at k;show(match fj (pe FT) (bf FT n) 0 [] ops σ with|some σ'=>some (Ex.norm,σ')|none=>none)=_;rw[wY (acc2:=[]) (λx hx=>by cases hx) k]
 |false=>
  simp only[Ps,PS]at k;show(match gX (pe FT) (bf FT n) ops σ with|some σ'=>some (Ex.norm,σ')|none=>none)=_;rw[k]
theorem K9{I:Inv}{c0:Cx}{FT:Nat->Option am}{E:nB}{C:bK}{V:Nat->List PV->List PV->Bool}(hC:ke FT E.sgs C V)(hE:E.st=I.st/\E.fl=I.fl/\E.kp=I.kp/\E.ns=I.ns/\E.nt=I.nt)(hodd:∀k∈I.kp,k %2=1)
  (hros:E.ros=pe FT){R:List Nat}:∀(code:eZ){L:List Nat}{X:List (Nat×List Nat)}{nb:List Nat}{a:Abs}{r:SX}{c:Cx}{env:Env}{σ:St}{out:ti},
  sx E R code L X nb a=some r->Sim I c a env σ->BeOk c0 c->aF C V r.vc env=some out->∃n e σ',bF FT n code σ=some (e,σ')/\ResV E I c0 r out e σ':=by
 intro code;induction code with
 |skip=>
  intro L X nb a r c env σ out H S hb hd;cases H;simp only[aF,O5]at hd;subst hd;exact⟨1,.norm,σ,rfl,rfl,a,c,rfl,S,hb⟩
 | reg ops dr=>
  intro L X nb a r c env σ out H S hb hd;simp only[sx]at H;split at H
  case h_2=>cases H;rw[pH]at hd;cases hd
  rename_i q h1;cases H;simp only[aF]at hd;split at hd
  ·rename_i env' hr;cases hd;obtain⟨n,σ',c',k1,k2,k3⟩:=Fy hC hE hodd h1 S hb hr;refine⟨n+1,.norm,σ',?_,rfl,q.2,c',rfl,k2,k3⟩;rw[hros]at k1;exact Gw k1
  ·cases hd
 | seq x y ihx ihy=>
  intro L X nb a r c env σ out H S hb hd;simp only[sx,ab]at H;obtain⟨r1,h1,H⟩:=H;split at H
  ·rename_i hn;cases H;obtain⟨n,e,σ',k1,k2⟩:=ihx h1 S hb hd;have hnn:∀env,out≠ .norm env:=λenv he=>by
    subst he;obtain⟨_,a',_,h,_⟩:=k2;rw[hn]at h;cases h
   refine⟨n+1,e,σ',?_,k2⟩;rw[bF.eq_def];simp only;rw[k1];cases out with
   |norm env=>exact absurd rfl (hnn env)
   |exit id env=>obtain⟨rfl,_⟩:=k2;rfl
   |ret x os=>obtain⟨rfl,_⟩:=k2;rfl
  ·rename_i a1 hn;simp only[ab]at H;obtain⟨r2,h2,h3⟩:=H;cases h3;rw[Ag]at hd;simp only[aF]at hd;split at hd
   ·rename_i env1 hd1;obtain⟨n1,e1,σ1,k1,rfl,a1',c1,g1,g2,g3⟩:=ihx h1 S hb hd1;rw[hn]at g1;cases g1;obtain⟨n2,e2,σ2,m1,m2⟩:=ihy h2 g2 g3 hd;refine⟨n1+n2+1,e2,σ2,?_,?_⟩
    ·rw[bF.eq_def];simp only;rw[pF (Nat.le_add_right n1 n2) k1];simp only;exact pF (Nat.le_add_left n2 n1) m1
    ·cases out with
     |norm env=>exact m2
     |exit id env=>exact ResV.ex m2 (λ_ h=>by cases h) λp hp=>O8 _ hp
     |ret x os=>exact m2
   ·rename_i hnn;obtain⟨n1,e1,σ1,k1,k2⟩:=ihx h1 S hb hd;have hnn':∀env,out≠ .norm env:=λenv he=>by subst he;exact hnn env hd
    refine⟨n1+1,e1,σ1,?_,ResV.ex k2 hnn' λp hp=>Pc _ hp⟩;rw[bF.eq_def];simp only;rw[k1];cases out with
    |norm env=>exact absurd rfl (hnn' env)
    |exit id env=>obtain⟨rfl,_⟩:=k2;rfl
    |ret x os=>obtain⟨rfl,_⟩:=k2;rfl
 | cond cc x y ihx ihy=>
  intro L X nb a r c env σ out H S hb hd;simp only[sx,ab]at H;obtain⟨e,h0,r1,h1,r2,h2,H⟩:=H;have hfo:=Abs.fo_ok S h0;have both:∀{nx:Option Abs},(∀a1,r1.nx=some a1->∃J,nx=some J/\ig a1 J=true∨nx=some a1)->(∀a2,r2.nx=some a2->∃J,nx=some J/\ig a2 J=true∨nx=some a2)->aF C V (.cond e r1.vc r2.vc) env=some out->
    ∃n e' σ',bF FT n (.cond cc x y) σ=some (e',σ')/\ResV E I c0 ⟨.cond e r1.vc r2.vc,nx,r1.ex++r2.ex⟩ out e' σ':=by
   intro nx hn1 hn2 hd;have fin:∀{r':SX}{n:Nat}{e':Ex}{σ':St},(∀a1,r'.nx=some a1->∃J,nx=some J/\ig a1 J=true∨nx=some a1)->(∀p∈r'.ex,p∈r1.ex++r2.ex)->ResV E I c0 r' out e' σ'->ResV E I c0 ⟨.cond e r1.vc r2.vc,nx,r1.ex++r2.ex⟩ out e' σ':=by
    intro r' n e' σ' hn hx hr;cases out with
    | norm env'=>
     obtain⟨g1,a',c',g2,g3,g4⟩:=hr;obtain⟨J,⟨g5,g6⟩|g5⟩:=hn a' g2
     ·obtain⟨c2,S2,b2⟩:=g3.reach g6;exact⟨g1,J,c2,g5,S2,g4.s b2⟩
     ·exact⟨g1,a',c',g5,g3,g4⟩
    |exit id env'=>exact ResV.ex hr (λ_ h=>by cases h) hx
    |ret x os=>exact hr
   simp only[aF]at hd;split at hd
   ·rename_i hev;have hv:=gu (by rw[hfo.2]at hev;simpa using hev);obtain⟨n,e',σ',k1,k2⟩:=ihx h1 S hb hd;refine⟨n+1,e',σ',?_,fin (n:=0) hn1 (λp hp=>Pc _ hp) k2⟩;rw[bF.eq_def];simp only;rw[hv];exact k1
   ·rename_i hev;have hv:=gu (by rw[hfo.2]at hev;simpa using hev);obtain⟨n,e',σ',k1,k2⟩:=ihy h2 S hb hd;refine⟨n+1,e',σ',?_,fin (n:=0) hn2 (λp hp=>O8 _ hp) k2⟩;rw[bF.eq_def];simp only;rw[hv];exact k1
   ·cases hd
  split at H
  ·rename_i hn;cases H;exact both (λa1 h=>by rw[hn]at h;cases h) (λa2 h=>⟨a2,.inr h⟩) hd
  ·rename_i hn _;cases H;exact both (λa1 h=>⟨a1,.inr h⟩) (λa2 h=>by rw[hn]at h;cases h) hd
  ·rename_i a1 a2 hn1 hn2;split at H
   ·rename_i hc;cases H;exact both (λb h=>by rw[hn1]at h;cases h;exact⟨_,.inl ⟨rfl,hc.1⟩⟩) (λb h=>by rw[hn2]at h;cases h;exact⟨_,.inl ⟨rfl,hc.2⟩⟩) hd
   ·cases H
 | block id cd ih=>
  intro L X nb a r c env σ out H S hb hd;simp only[sx,ab]at H;obtain⟨r1,h1,H⟩:=H;have go:∀{nx:Option Abs}{ex:List (Nat×Abs)},(∀b,(r1.nx=some b∨(id,b)∈r1.ex)->∃J,nx=some J/\ig b J=true)->(∀p∈r1.ex,p.1≠id->p∈ex)->aF C V (.block id r1.vc) env=some out->
    ∃n e' σ',bF FT n (.block id cd) σ=some (e',σ')/\ResV E I c0 ⟨.block id r1.vc,nx,ex⟩ out e' σ':=by
   intro nx ex hn hx hd;simp only[aF]at hd;split at hd
   ·rename_i i env1 hd1;obtain⟨n,e',σ',k1,rfl,a',c',g1,g2,g3⟩:=ih h1 S hb hd1;split at hd
    ·rename_i hi;subst hi;cases hd;obtain⟨J,g4,g5⟩:=hn a' (.inr g1);obtain⟨c2,S2,b2⟩:=g2.reach g5;refine⟨n+1,.norm,σ',?_,rfl,J,c2,g4,S2,g3.s b2⟩;rw[bF.eq_def];simp only;rw[k1];simp
    ·rename_i hi;cases hd;refine⟨n+1,.exit i,σ',?_,rfl,a',c',hx _ g1 hi,g2,g3⟩;rw[bF.eq_def];simp only;rw[k1];simp only;rw[Pd hi]
   ·rename_i hne;obtain⟨n,e',σ',k1,k2⟩:=ih h1 S hb hd;cases out with
    |norm env'=>
     obtain⟨rfl,a',c',g1,g2,g3⟩:=k2;obtain⟨J,g4,g5⟩:=hn a' (.inl g1);obtain⟨c2,S2,b2⟩:=g2.reach g5;refine⟨n+1,.norm,σ',?_,rfl,J,c2,g4,S2,g3.s b2⟩;rw[bF.eq_def];simp only;rw[k1]
    |exit i env'=>exact absurd hd (hne i env')
    |ret x os=>
     obtain⟨rfl,g⟩:=k2;refine⟨n+1,.ret,σ',?_,rfl,g⟩;rw[bF.eq_def];simp only;rw[k1]
  split at H
  ·rename_i hnil;cases H;refine go (λb hbb=>?_) (λp hp _=>hp) hd;have hm:b∈r1.nx.toList++(r1.ex.filter λp=>p.1==id).map Prod.snd:=by
    rcases hbb with hbb|hbb
    ·exact Pc _ (by rw[hbb];simp)
    ·exact O8 _ (List.mem_map.2 ⟨(id,b),List.mem_filter.2 ⟨hbb,by simp⟩,rfl⟩)
   rw[hnil]at hm;cases hm
  ·rename_i x xs hcons;split at H
   ·rename_i hall;cases H;refine go (λb hbb=>⟨_,rfl,?_⟩) (λp hp hne=>List.mem_filter.2 ⟨hp,by simpa using hne⟩) hd;have hm:b∈r1.nx.toList++(r1.ex.filter λp=>p.1==id).map Prod.snd:=by
     rcases hbb with hbb|hbb
     ·exact Pc _ (by rw[hbb];simp)
     ·exact O8 _ (List.mem_map.2 ⟨(id,b),List.mem_filter.2 ⟨hbb,by simp⟩,rfl⟩)
    rw[hcons]at hm;exact List.all_eq_true.1 hall b hm
   ·cases H
 | loop cd ih=>
  intro L X nb a r c env σ out H S hb hd;simp only[sx,ab]at H;obtain⟨q,h1,H⟩:=H;split at H
  ·rename_i hra;cases H;obtain⟨f1,f2⟩:=C5 h1;simp only[aF]at hd;have key:∀(N:Nat){c:Cx}{env:Env}{σ:St},Sim I c q.2 env σ->BeOk c0 c->dS (aF C V q.1.vc) N env=some out->∃n e σ',bF FT n (.loop cd) σ=some (e,σ')/\ResV E I c0 ⟨.loop q.1.vc,none,q.1.ex⟩ out e σ':=by
    intro N;induction N with
    |zero=>intro c env σ _ _ h;simp[dS]at h
    | succ N ihN=>
     intro c env σ S hb h;simp only[dS]at h;split at h
     ·rename_i env1 hd1;obtain⟨n1,e1,σ1,k1,rfl,a',c',g1,g2,g3⟩:=ih f1 S hb hd1;obtain⟨c2,S2,b2⟩:=g2.reach (f2 a' g1);obtain⟨n2,e2,σ2,m1,m2⟩:=ihN S2 (g3.s b2) h;refine⟨n1+n2+1,e2,σ2,?_,m2⟩;rw[bF.eq_def];simp only;rw[pF (Nat.le_add_right n1 n2) k1];simp only;exact pF (Nat.le_add_left n2 n1) m1
     ·rename_i hnn;obtain⟨n1,e1,σ1,k1,k2⟩:=ih f1 S hb h;have hnn':∀env,out≠ .norm env:=λenv he=>by subst he;exact hnn env h
      refine⟨n1+1,e1,σ1,?_,ResV.ex k2 hnn' λp hp=>hp⟩;rw[bF.eq_def];simp only;rw[k1];cases out with
      |norm env=>exact absurd rfl (hnn' env)
      |exit id env=>obtain⟨rfl,_⟩:=k2;rfl
      |ret x os=>obtain⟨rfl,_⟩:=k2;rfl
   obtain⟨c1,S1,b1⟩:=S.reach hra;exact key zq S1 (hb.s b1) hd
  ·cases H
 |exit id=>
  intro L X nb a r c env σ out H S hb hd;cases H;simp only[aF,O5]at hd;subst hd;exact⟨1,.exit id,σ,rfl,rfl,a,c,List.mem_singleton.2 rfl,S,hb⟩
 | ret=>
  intro L X nb a r c env σ out H S hb hd;simp only[sx]at H;split at H
  case h_2=>cases H;rw[pH]at hd;cases hd
  rename_i ex h1;cases H;have fin:∀{r:SX},ao env ex.2.2=true->aF C V (.ret ex.1 ex.2.1) env=some out->∃n e σ',bF FT n .ret σ=some (e,σ')/\ResV E I c0 r out e σ':=λ{r} hg hd=>by
   simp only[aF,ab]at hd;obtain⟨x,hx,os,ho,he⟩:=hd;cases he;exact⟨1,.ret,σ,rfl,rfl,a,c,env,ex,S,hb,h1,hg,hx,ho⟩
  split at hd
  ·rename_i he;rw[Qk]at he;obtain⟨n,e,σ',k1,k2⟩:=fin (by rw[he];rfl) hd;refine⟨n,e,σ',k1,?_⟩;cases out<;>first|exact k2|(simp only[aF,ab]at hd;obtain⟨x,hx,os,ho,hh⟩:=hd;cases hh)
  ·rw[aF.eq_def]at hd;simp only[aF,dp,VS.run,bW]at hd;by_cases hg:ao env ex.2.2=true
   ·simp only[hg,PQ,ac]at hd;obtain⟨n,e,σ',k1,k2⟩:=fin hg (by simpa only[aF]using hd);refine⟨n,e,σ',k1,?_⟩;cases out<;>first|exact k2|(simp only[ab]at hd;obtain⟨x,hx,os,ho,hh⟩:=hd;cases hh)
   ·simp only[hg]at hd;simp at hd
 | post cd js ih=>
  intro L X nb a r c env σ out H S hb hd;simp only[sx,ab]at H;obtain⟨r1,h1,H⟩:=H;split at H
  ·rename_i hn;cases H;obtain⟨n,e,σ',k1,k2⟩:=ih h1 S hb hd;refine⟨n+1,e,σ',?_,k2⟩;rw[bF.eq_def];simp only;rw[k1];cases out with
   |norm env=>obtain⟨_,a',_,h,_⟩:=k2;rw[hn]at h;cases h
   |exit id env=>obtain⟨rfl,_⟩:=k2;rfl
   |ret x os=>obtain⟨rfl,_⟩:=k2;rfl
  ·rename_i a1 hn;simp only[ab]at H;obtain⟨a2,h2,h3⟩:=H;cases h3;obtain⟨n,e,σ',k1,k2⟩:=ih h1 S hb hd;cases out with
   |norm env'=>
    obtain⟨rfl,a',c',g1,g2,g3⟩:=k2;rw[hn]at g1;cases g1;obtain⟨e1,e2,e3,e4,e5⟩:=hE;rw[e1,e2,e3,e4,e5]at h2;obtain⟨fr',h',c2,l1,l2,l3⟩:=u3 g2 hodd h2;refine⟨n+1,.norm,⟨fr',h'⟩,?_,rfl,a2,c2,rfl,l2,λw q1 q2=>by rw[l3];exact g3 w q1 q2⟩;rw[bF.eq_def];simp only;rw[k1];simp only;rw[l1]
   |exit id env=>
    refine⟨n+1,e,σ',?_,k2⟩;obtain⟨rfl,_⟩:=k2;rw[bF.eq_def];simp only;rw[k1]
   |ret x os=>
    refine⟨n+1,e,σ',?_,k2⟩;obtain⟨rfl,_⟩:=k2;rw[bF.eq_def];simp only;rw[k1]
 |adj js cd ih=>
  intro L X nb a r c env σ out H S hb hd;simp only[sx]at H;split at H
  case h_2=>cases H;rw[pH]at hd;cases hd
  rename_i a1 h1;obtain⟨e1,e2,e3,e4,e5⟩:=hE;rw[e1,e2,e3,e4,e5]at h1;obtain⟨fr',h',c',k1,k2,k3⟩:=u3 S hodd h1;obtain⟨n,e,σ',l1,l2⟩:=ih H k2 (λw g1 g2=>by rw[k3];exact hb w g1 g2) hd;refine⟨n+1,e,σ',?_,l2⟩;rw[bF.eq_def];simp only;rw[k1];exact l1
mutual
theorem K.n_le:∀k:K,k.n<=k.w
 |.F=>by simp[K.n,K.w]
 |.O _ _=>by simp[K.n,K.w]
 |.Q=>by simp[K.n,K.w]
 |.B _ ks=>by have:=K.nL_le ks;simp only[K.n,K.w];omega
 |.A ks=>by have:=K.nL_le ks;simp only[K.n,K.w];omega
 |.T ks=>by have:=K.nL_le ks;simp only[K.n,K.w];omega
theorem K.nL_le:∀ks:List K,K.nL ks<=K.wL ks
 |[]=>by simp[K.nL,K.wL]
 |k::ks=>by have:=K.n_le k;have:=K.nL_le ks;simp only[K.nL,K.wL];omega
end
theorem EntB.be{c c':Cx}:∀{ps:List K}{vs:List PV}{j:Nat},EntB c ps vs j->(∀w,Ew<=w->w<10000->c'.be w=c.be w)->Ew+j+K.nL ps<=10000->EntB c' ps vs j
 |[],_,_,_,_,_=>trivial
 |k::ps,v::vs,j,h,hb,hl=>by
  simp only[K.nL]at hl;refine⟨λks hk=>?_,EntB.be h.2 hb (by omega)⟩;have hn:1<=k.n:=by subst hk;simp only[K.n];omega
  rw[hb _ (by omega) (by omega)];exact h.1 ks hk
 |_::_,[],_,h,_,_=>by cases h
def nW(sgs:Nat->Option Sig):eZ->List (Nat×Nat)
 |.reg ops _=>ops.filterMap λo=>match o.op with
  |.call f _ s=>(match sgs f with|some sg=>if 2<=sg.nown then some (s,sg.nown)else none|none=>none)
  |_=>none
 |.seq a b=>nW sgs a++nW sgs b
 |.cond _ a b=>nW sgs a++nW sgs b
 |.block _ c=>nW sgs c
 |.loop c=>nW sgs c
 |.adj _ c=>nW sgs c
 |.post c _=>nW sgs c
 |_=>[]
def N5(rs:List (Nat×Nat))(i:Nat):Nat:=match rs.find? (λp=>decide (p.1<=i)&&decide (i<p.1+p.2))with|some p=>p.1|none=>i
def Cs:List uR->List Nat
 |[]=>[]
 |.tmp t::rs=>t::Cs rs
 |.cell _ t::rs=>t::Cs rs
def nY(sgs:Nat->Option Sig)(ros:Nat->List Bool)(F:am)(sg:Sig):nB:=⟨sgs,ros,N5 (nW sgs F.body),sg.fl,sg.kp,F.nslots,F.ntmps,sg,F.res,F.frz⟩
theorem x9{v:PV}(h:v.scalar=true):d8 v=true:=by
 cases v<;>first|rfl|(simp[PV.scalar]at h;done)|skip
 rename_i vs;simp only[PV.scalar]at h;simp only[d8];induction vs with
 |nil=>rfl
 |cons x xs ih=>
  simp only[List.all_cons,O6]at h;simp only[iD,O6];exact⟨by cases x<;>first|rfl|(simp at h;done),ih h.2⟩
theorem Js{h:Heap}{P:Nat->aq->Prop}{k:K}{j:Nat}{v x:PV}(H:KR h P k j v x)(hs:fW x=true):k.n=0:=by
 cases k with
 |F=>rfl
 |O sz wf=>rcases H.1 with⟨_,rfl⟩|⟨_,_,_,_,_,_,_,_,_,_,_,_,_,_,_,rfl⟩<;>simp[fW]at hs
 |Q=>obtain⟨f,vs,xs,_,rfl,_⟩:=H;simp[fW]at hs
 |B ro ks=>obtain⟨_,_,_,_,_,_,_,_,_,_,_,rfl,_⟩:=H;simp[fW]at hs
 |A ks=>obtain⟨_,_,_,_,rfl,_⟩:=H;simp[fW]at hs
 | T ks=>
  obtain⟨vs,xs,rfl,rfl,hR⟩:=H;simp only[fW]at hs;simp only[K.n];have key:∀{ks:List K}{j:Nat}{vs xs:List PV},KRs h P ks j vs xs->(xs.all λ |.int .. |.bool _|.str _|.nilp|.nilfn=>true|_=>false)=true->K.nL ks=0:=by
   intro ks;induction ks with
   |nil=>intro j vs xs _ _;rfl
   | cons k ks ih=>
    intro j vs xs hR hx;cases vs with
    |nil=>simp[KRs]at hR
    | cons v vs=>
     cases xs with
     |nil=>simp[KRs]at hR
     |cons x xs=>
      simp only[List.all_cons,O6]at hx;simp only[K.nL,ih hR.2 hx.2,Qp];have h1:=hR.1;cases k with
      |F=>rfl
      |O sz wf=>rcases h1.1 with⟨_,rfl⟩|⟨_,_,_,_,_,_,_,_,_,_,_,_,_,_,_,rfl⟩<;>simp at hx
      |Q=>obtain⟨f,vs,xs,_,rfl,_⟩:=h1;simp at hx
      |B ro ks=>obtain⟨_,_,_,_,_,_,_,_,_,_,_,rfl,_⟩:=h1;simp at hx
      |A ks=>obtain⟨_,_,_,_,rfl,_⟩:=h1;simp at hx
      |T ks=>obtain⟨_,_,_,rfl,_⟩:=h1;simp at hx
  exact key hR hs
theorem zl:∀ps:List K,eA ps<=K.nL ps
 |[]=>Pf _
 |k::ps=>by
  have:=zl ps;cases k with
  |B ro ks=>cases ro<;>simp only[eA,K.nL,K.n]<;>omega
  |_=>simp only[eA,K.nL,K.n]<;>omega
theorem ExitOk.clean{sg:Sig}{P:Nat->aq->Prop}{args:List PV}{G:List Blk}{G':List (Option Blk)}{rE x:PV}{os:List PV}(E:ExitOk sg P args G G' rE x os)(hn:K.nL sg.ps=0)(hs:fW x=true):
  d8 rE=true/\g9 (G'.drop G.length)=true:=by
 obtain⟨P',hP⟩:=E.ex;refine⟨x9 (Hc hP.r hs),?_⟩;cases hd:G'.drop G.length with
 |nil=>rfl
 | cons b bs=>
  exfalso;have hlen:0<G'.length-G.length:=by
   have:=congrArg List.length hd;simp only[P7,PJ]at this;omega
  obtain⟨i,hi⟩:=hP.new 0 hlen;have h3:=hP.lt i _ hi;have h4:=Js hP.r hs;have h5:=zl sg.ps;simp only[Sig.nown]at h3;omega
def Fu(ex:X×List X×List X):VC:=if ex.2.2.isEmpty then .ret ex.1 ex.2.1 else .seq (.st [.asg ex.2.2 []]) (.ret ex.1 ex.2.1)
def KG(sgs:Nat->Option Sig)(ros:Nat->List Bool)(F:am)(sg:Sig):Option VC:=
 if oo sg/\sg.ps.length<=F.ntmps/\F.intr.isNone/\(sg.scal&&Ow sg.r)=false then
  af (sx (nY sgs ros F sg) (Cs F.res) F.body (Cs F.res) [] [] (FY sg.ps)) λr=>match r.nx with
   |none=>some r.vc
   |some a=>af (sa (nY sgs ros F sg).st sg F.res F.frz a) λex=>some (Ib r.vc (Fu ex))
 else none
theorem Et{C:bK}{V:Nat->List PV->List PV->Bool}{ex:X×List X×List X}{env:Env}{out:ti}(h:aF C V (Fu ex) env=some out):ao env ex.2.2=true/\∃x os,ex.1.ev env=some x/\eO env ex.2.1=some os/\out=.ret x os:=by
 unfold Fu at h;split at h
 ·rename_i he;rw[Qk]at he;rw[he];simp only[aF,ab,O5]at h;obtain⟨x,hx,os,ho,hh⟩:=h;exact⟨rfl,x,os,hx,ho,hh.symm⟩
 ·simp only[aF,dp,VS.run,bW]at h;by_cases hg:ao env ex.2.2=true
  ·simp only[hg,PQ,ac]at h;simp only[ab,O5]at h;obtain⟨x,hx,os,ho,hh⟩:=h;exact⟨hg,x,os,hx,ho,hh.symm⟩
  ·simp only[hg]at h;simp at h
theorem J0(sg:Sig):∀k∈sg.kp,k %2=1:=by
 intro k hk;obtain⟨p,_,rfl⟩:=List.mem_map.1 hk;omega
theorem FH{FT:Nat->Option am}{sgs:Nat->Option Sig}{C:bK}{V:Nat->List PV->List PV->Bool}(hC:ke FT sgs C V){f:Nat}{F:am}{sg:Sig}{vc:VC}(hF:FT f=some F)(H:KG sgs (pe FT) F sg=some vc)
  {xs:List PV}{x:PV}{os:List PV}(hd:aF C V vc (Env.ofArgs xs)=some (.ret x os))(hsx:sg.scal=true->fW x=true):Nz FT sg f xs x os:=by
 intro args G P kr uP loc hG;unfold KG at H;split at H
 ·rename_i hc;obtain⟨hsg,hnt,hin,_⟩:=hc;simp only[ab]at H;obtain⟨r,h1,H⟩:=H;have hsg':=hsg;simp only[oo,O6,PG]at hsg';obtain⟨⟨⟨⟨⟨hps,hnq⟩,hwt⟩,hwa⟩,hqb⟩,hqp⟩:=hsg';obtain⟨c,al,S,hE,hal⟩:=FI (nt:=F.ntmps) (ns:=F.nslots) (nY sgs (pe FT) F sg).st kr uP loc hG hps hnt;have hin':F.intr=none:=by cases h:F.intr with|none=>rfl|some g=>rw[h]at hin;simp at hin
  have key:∀{a':Abs}{c':Cx}{env':Env}{σ':St}{ex:X×List X×List X}{n:Nat}{e:Ex},e=.norm∨e=.ret->bF FT n F.body ⟨args++List.replicate (F.ntmps-args.length) .junk,⟨G.map some,List.replicate F.nslots ⟨0,none⟩⟩⟩=some (e,σ')->
    Sim ⟨F.ntmps,F.nslots,G.length,(nY sgs (pe FT) F sg).st,al,sg.kp,⟨G.map some,List.replicate F.nslots ⟨0,none⟩⟩,sg.fl⟩ c' a' env' σ'->BeOk c c'->sa (nY sgs (pe FT) F sg).st sg F.res F.frz a'=some ex->ao env' ex.2.2=true->ex.1.ev env'=some x->eO env' ex.2.1=some os->
    ∃n rE G',bf FT n f args G=some (rE,G')/\ExitOk sg P args G G' rE x os/\(K.nL sg.ps=0->sg.scal=true->d8 rE=true/\g9 (G'.drop G.length)=true):=by
   intro a' c' env' σ' ex n e he hx S' hb hex hg hxx ho;have hE':EntB c' sg.ps args 0:=hE.be hb (by have:=K.nL_le sg.ps;simp only[Ew];omega);obtain⟨rE,G',h',x',os',k1,k2,k3,k4⟩:=HK (F:=F) kr uP loc hG hal rfl rfl rfl (λk=>rfl) hsg S' hE' hex hg;rw[hxx]at k2;cases k2;rw[ho]at k3;cases k3;refine⟨n+1,rE,G',?_,k4,λq1 q2=>k4.clean q1 (hsx q2)⟩;rw[bf.eq_def];simp only;rw[hF];simp only;rw[hin'];simp only;rw[hx];rcases he with rfl|rfl<;>simp only<;>rw[k1]
  have hst:(nY sgs (pe FT) F sg).st=(nY sgs (pe FT) F sg).st/\(nY sgs (pe FT) F sg).fl=sg.fl/\(nY sgs (pe FT) F sg).kp=sg.kp/\(nY sgs (pe FT) F sg).ns=F.nslots/\(nY sgs (pe FT) F sg).nt=F.ntmps:=⟨rfl,rfl,rfl,rfl,rfl⟩;have run:=λ{out:ti} hd=>K9 (E:=nY sgs (pe FT) F sg) (C:=C) (V:=V) (out:=out) hC hst (J0 sg) rfl F.body h1 S (λw _ _=>rfl) hd;split at H
  ·rename_i hn;cases H;obtain⟨n,e,σ',k1,k2⟩:=run hd;obtain⟨rfl,a',c',env',ex,m1,m2,m3,m4,m5,m6⟩:=k2;exact key (.inr rfl) k1 m1 m2 m3 m4 m5 m6
  ·rename_i a hn;simp only[ab]at H;obtain⟨ex,h2,h3⟩:=H;cases h3;rw[Ag]at hd;simp only[aF]at hd;split at hd
   ·rename_i env1 hd1;obtain⟨n,e,σ',k1,k2⟩:=run hd1;obtain⟨rfl,a',c',m1,m2,m3⟩:=k2;rw[hn]at m1;cases m1;obtain⟨g1,x',os',g2,g3,g4⟩:=Et hd;cases g4;exact key (.inl rfl) k1 m2 m3 h2 g1 g2 g3
   ·obtain⟨n,e,σ',k1,k2⟩:=run hd;obtain⟨rfl,a',c',env',ex',m1,m2,m3,m4,m5,m6⟩:=k2;exact key (.inr rfl) k1 m1 m2 m3 m4 m5 m6
 ·cases H
def az(FT:Nat->Option am)(sgs:Nat->Option Sig)(f:Nat)(F:ax):Prop:=
 (∃IF,FT f=some IF/\KG sgs (pe FT) IF F.sig=some F.body)∨
 (oo F.sig=true/\∀(C:bK)(V:Nat->List PV->List PV->Bool) xs x os,ke FT sgs C V->aF C V F.body (Env.ofArgs xs)=some (.ret x os)->F.sig.ps.length=xs.length->(F.sig.scal=true->fW x=true∨ta x=true)->Nz FT F.sig f xs x os)
def Di(FT:Nat->Option am)(VT:Nat->Option ax):Prop:=
 ∀f F,VT f=some F->F.binds=[]/\az FT (λg=>(VT g).map ax.sig) f F
theorem D9{FT:Nat->Option am}{VT:Nat->Option ax}(hT:Di FT VT):∀m,ke FT (λg=>(VT g).map ax.sig) (ak VT m) (bc VT):=by
 have hv:∀k vs caps,bc VT k vs caps=true->∃sg,(VT k).map ax.sig=some sg/\vOk sg.ps vs.length caps=true/\sg.r=.F/\sg.scal=true/\oo sg=true:=by
  intro k vs caps h;unfold bc at h;split at h
  ·rename_i F hF;obtain⟨_,h3⟩:=hT k F hF;rw[O6]at h;refine⟨F.sig,by rw[hF];rfl,h.1,?_,?_,?_⟩
   ·have:=h.2;split at this
    ·assumption
    ·cases this
   ·have:=h.2;split at this
    ·exact this
    ·cases this
   ·rcases h3 with⟨IF,_,h3⟩|⟨h3,_⟩
    ·unfold KG at h3;split at h3
     ·rename_i hc;exact hc.1
     ·cases h3
    ·exact h3
  ·cases h
 intro m;induction m with
 |zero=>exact⟨λf xs r os h=>by simp[ak]at h,hv⟩
 | succ m ih=>
  refine⟨λf xs r os h sg hsg=>?_,hv⟩;simp only[ak]at h;split at h
  ·cases h
  ·rename_i F hF;obtain⟨h0,hE⟩:=hT f F hF;simp only[hF,Py,O5]at hsg;subst hsg;rw[h0]at h;simp only[bW,ac]at h;split at h
   ·rename_i x o hd;split at h
    ·rename_i hc;cases h;rcases hE with⟨IF,h2,h3⟩|⟨_,h3⟩
     ·refine FH ih h2 h3 hd λhs=>?_;rcases hc.2 with h|h|h
      ·rw[h]at hs;cases hs
      ·exact h
      ·unfold KG at h3;split at h3
       ·rename_i hk;have:=hk.2.2.2;rw[O6]at h;rw[hs,h.1]at this;cases this
       ·cases h3
     ·refine h3 _ _ _ _ _ ih hd hc.1 λhs=>?_;rcases hc.2 with h|h|h
      ·rw[h]at hs;cases hs
      ·exact .inl h
      ·rw[O6]at h;exact .inr h.2
    ·cases h
   ·cases h
def HZ(L:List (Option ax))(f:Nat):Option ax:=L.getD f none
theorem I5{h:Heap}:∀{n:Nat}{j:Nat}{vs:List PV},bX vs=true->vs.length=n->KRs h (λ_ _=>False) (List.replicate n .F) j vs (aB vs)
 |0,j,[],_,_=>trivial
 |n+1,j,v::vs,h,hl=>by
  simp only[bX,O6]at h;exact⟨⟨h.1,rfl⟩,I5 h.2 (by simpa using hl)⟩
 |0,_,_::_,_,hl=>by simp at hl
 |_+1,_,[],_,hl=>by simp at hl
theorem CC:∀n:Nat,K.nL (List.replicate n K.F)=0/\eA (List.replicate n K.F)=0
 |0=>⟨rfl,rfl⟩
 | n+1=>by
  obtain⟨h1,h2⟩:=CC n;refine⟨?_,?_⟩
  ·simp only[Qj,K.nL,K.n,h1]
  ·simp only[Qj];rw[eA]
   ·exact h2
   ·intro ks h;cases h
theorem Nf{FT:Nat->Option am}{VT:Nat->Option ax}(hT:Di FT VT){m f n:Nat}{F:ax}(hF:VT f=some F)(hs:F.sig=⟨List.replicate n .F,.F,true⟩){args:List PV}(hp:bX args=true)(hl:args.length=n)(hv:ak VT m f (aB args)=some (.bool true,[])):
  ∃k,bf FT k f args []=some (.bool true,[]):=by
 have hc:=(D9 hT m).c f _ _ _ hv F.sig (by simp[hF]);rw[hs]at hc;obtain⟨k,rE,G',h1,h2,_⟩:=hc args [] (λ_ _=>False) (I5 hp hl) (λ_ _ _ h=>h.elim) (λ_ _ h=>h.elim) (λk b h=>by simp at h);obtain⟨P',hP⟩:=h2.ex;have hr:rE=.bool true:=by
  obtain⟨g1,g2⟩:=hP.r;cases rE<;>simp[aO]at g2⊢
  first|exact g2.symm|exact g2
 have hG:G'=[]:=by
  cases G' with
  |nil=>rfl
  |cons b bs=>
   exfalso;obtain⟨i,hi⟩:=hP.new 0 (by simp);have h3:=hP.lt i _ hi;obtain⟨e1,e2⟩:=CC n;simp only[Sig.nown,K.n,e2]at h3;omega
 subst hr;subst hG;exact⟨k,h1⟩
end Gv
namespace Gv
open Go
variable{C:bK}{V:Nat->List PV->List PV->Bool}
theorem IB{a b:VC}{env env1:Env}(h:aF C V a env=some (.norm env1)):aF C V (.seq a b) env=aF C V b env1:=by simp only[aF,h]
theorem ai{a b:VC}{env:Env}{r:PV}{os:List PV}(h:aF C V a env=some (.ret r os)):aF C V (.seq a b) env=some (.ret r os):=by simp only[aF,h]
theorem nJ{a b:VC}{env env1:Env}{i:Nat}(h:aF C V a env=some (.exit i env1)):aF C V (.seq a b) env=some (.exit i env1):=by simp only[aF,h]
theorem fD{i:Nat}{a:VC}{env env1:Env}(h:aF C V a env=some (.exit i env1)):aF C V (.block i a) env=some (.norm env1):=by simp only[aF,h,PQ]
theorem bd{i:Nat}{a:VC}{env env1:Env}(h:aF C V a env=some (.norm env1)):aF C V (.block i a) env=some (.norm env1):=by simp only[aF,h]
theorem aM{i:Nat}{a:VC}{env:Env}{r:PV}{os:List PV}(h:aF C V a env=some (.ret r os)):aF C V (.block i a) env=some (.ret r os):=by simp only[aF,h]
theorem Ac{c:VC}{env:Env}{r:ti}(n j:Nat)(h:dS (aF C V c) (n+j) env=some r)(hn:n+j=zq):aF C V (.loop c) env=some r:=by simp only[aF];rw[<-hn];exact h
theorem an{VT:Nat->Option ax}{m f:Nat}{F:ax}(hF:VT f=some F){vs os:List PV}{r:PV}(hb:F.binds=[])(hl:F.sig.ps.length=vs.length)(hd:aF (ak VT m) (bc VT) F.body (Env.ofArgs vs)=some (.ret r os))(hs:F.sig.scal=false∨fW r=true):
  ak VT (m+1) f vs=some (r,os):=by
 simp only[ak,hF,hb,bW,ac,hd];rw[O9 ⟨hl,hs.imp_right .inl⟩]
theorem Dv{VT:Nat->Option ax}{m f:Nat}{F:ax}(hF:VT f=some F){vs os:List PV}{r:PV}(hb:F.binds=[])(hl:F.sig.ps.length=vs.length)(hd:aF (ak VT m) (bc VT) F.body (Env.ofArgs vs)=some (.ret r os))(ho:Ow F.sig.r=true)(hs:F.sig.scal=false∨ta r=true):
  ak VT (m+1) f vs=some (r,os):=by
 simp only[ak,hF,hb,bW,ac,hd];rw[O9 ⟨hl,hs.imp_right λh=>.inr (by rw[ho,h];rfl)⟩]
theorem Env.ofArgs_at(vs:List PV)(i:Nat):Env.ofArgs vs i=(vs[i]?).getD .junk:=rfl
end Gv
