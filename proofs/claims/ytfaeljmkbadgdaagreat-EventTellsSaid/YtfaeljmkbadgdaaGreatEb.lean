/- A part of the proof that the law is true of all its inputs, by an interpreter that is proved sound. -/
import Derived.Test.YtfaeljmkbadgdaaGreatEa
import Derived.Laws.MakeOwn
import Derived.Laws.BytesString
namespace Gv
open Go
section
variable{ah:Nat->FuncId}{P:Program}{M:Mp}{w:World}{h:Heap}
theorem oe{t t2 ty e:TypeId}{i:TypeInfo}{d2:TypeDesc}(ht:P.underlying t=some (.slice e))(h2:P.underlying t2=some d2)(hni:∀k,d2≠ .int k)
  (hi:P.info? e=some i){base:Option Addr}{sLen sCap n:Nat}{x:Value}(hlen:∀w,(Builtin.lenOf x).run P w=.ok n w){new:Array Value}{w':World}
  (hn:(Builtin.firstCells i.size n x).run P w=.ok new w)(hroom:sLen+n<=sCap)
  (hst:(match base with|some a=>storeCells (a.add (sLen*i.size)) new.toList|none=>pure ():Sem Unit).run P w=.ok () w'):
  (Builtin.append_ #[t,t2] ty #[.slice base sLen sCap,x]).run P w=.ok (.slice base (sLen+n) sCap) w':=by
 unfold Builtin.append_;have hz:∀w,Sem.run P (Go.underlying t2>>= λd=>pure (match d with|.int _=>true|_=>false)) w=.ok false w:=by
  intro w;simp only[Sem.run_bind,br h2,Result.andThen_ok];cases d2<;>first|rfl|exact absurd rfl (hni _)
 have e1:(#[t,t2]:Array TypeId)[0]?=some t:=rfl;have e2:(#[t,t2]:Array TypeId)[1]?=some t2:=rfl;have e3:(#[Value.slice base sLen sCap,x]:Array Value)[0]?=some (.slice base sLen sCap):=rfl;have e4:(#[Value.slice base sLen sCap,x]:Array Value)[1]?=some x:=rfl;simp only[e1,e2,e3,e4];rw[Sem.run_bind,br ht];simp only[Result.andThen_ok];rw[Sem.run_bind,hI hi];simp only[Result.andThen_ok];rw[Sem.run_bind,br h2];simp only[Result.andThen_ok];cases d2 with
 |int k=>exact absurd rfl (hni k)
 | _=>
  rw[Sem.run_bind];simp only[Sem.run_pure,Result.andThen_ok,Ps,PS,Qy,PQ];rw[Sem.run_bind,hlen];simp only[Result.andThen_ok,O9 hroom];rw[Sem.run_bind,hn];simp only[Result.andThen_ok];cases base with
  |none=>
   have:w=w':=by simpa using hst
   subst this;rfl
  |some a=>
   simp only at hst⊢;rw[Sem.run_bind,hst];rfl
theorem nZ{t t2 ty e:TypeId}{i:TypeInfo}{d2:TypeDesc}{z:Value}(ht:P.underlying t=some (.slice e))(h2:P.underlying t2=some d2)(hni:∀k,d2≠ .int k)
  (hi:P.info? e=some i)(hz:i.zero=some z){base:Option Addr}{sLen sCap n:Nat}{x:Value}(hlen:∀w,(Builtin.lenOf x).run P w=.ok n w){old new:Array Value}
  (ho:(Builtin.firstCells i.size sLen (.slice base sLen sCap)).run P w.drew=.ok old w.drew)(hn:(Builtin.firstCells i.size n x).run P w.drew=.ok new w.drew)
  (hb0:i.bytes≠0)(hroom:sCap<sLen+n)(hb:(sLen+n)*i.bytes<=140737488355328):
  ∃cap,(sLen+n<=cap/\cap<=9223372036854775807)/\(Builtin.append_ #[t,t2] ty #[.slice base sLen sCap,x]).run P w=
   .ok (.slice (some ⟨w.heap.size,0,none⟩) (sLen+n) cap) (w.drew.alloc (.cells (old++new++Builtin.zeroCells z.cells (cap-(sLen+n))) e)):=by
 have hfit:=growslice_fits hroom hb;refine⟨grownCap w (sLen+n) sCap e,⟨grownCap_ge _ _ _ _,?_⟩,?_⟩
 ·have h1:=Nat.le_mul_of_pos_right (sLen+n) (Nat.pos_of_ne_zero hb0);have:=grownCap_le_maxLen w (sLen+n) sCap e (by unfold maxLen;omega);unfold maxLen at this;omega
 unfold Builtin.append_;have hnr:¬(sLen+n<=sCap):=by omega
 have h48:¬(281474976710656<Builtin.nextslicecap (sLen+n) sCap*i.bytes):=by omega
 simp only[QV,Pg,Qc,Sem.run_bind,br ht,Result.andThen_ok,hI hi];have hzr:∀w,(Go.zeroValue e).run P w=.ok z w:=by intro w;simp[Go.zeroValue,re hi,hz]
 cases d2<;>first|exact absurd rfl (hni _)|(simp[h2,br,hlen,hnr,hn,ho,re hi,h48,hb0,Question.forced,hzr,newRow,grownCap];done)
end
section
variable{ah:Nat->FuncId}{P:Program}{M:Mp}{w:World}{h:Heap}
structure NewsR (ah:Nat->FuncId) (M:Mp) (sz:Nat) (vs:List PV) (news:List Value):Prop where
 len:news.length=vs.length*sz
 cells:∀(i:Nat)(e:PV),vs[i]?=some e->e.cells.length=sz/\∀(j:Nat)(x:PV),e.cells[j]?=some x->x.isCell=true/\∃u,news[i*sz+j]?=some u/\VR ah M x u
 one:∀u∈news,u.oneCell'=true
theorem NewsR.mono{M M':Mp}(le:M.le M'){sz:Nat}{vs:List PV}{news:List Value}(h:NewsR ah M sz vs news):NewsR ah M' sz vs news:=
 ⟨h.len,λi e hi=>⟨(h.cells i e hi).1,λj x hj=>⟨((h.cells i e hi).2 j x hj).1,by obtain⟨u,a,b⟩:=((h.cells i e hi).2 j x hj).2;exact⟨u,a,b.mono le⟩⟩⟩,h.one⟩
theorem cW{es:List PV}{c:Value}(S:oD ah M w es c){sz:Nat}(hs:∀(i:Nat)(e:PV),es[i]?=some e->e.cells.length=sz)(n:Nat)(hn:n<=es.length):
  (∀w',(Builtin.lenOf c).run P w'=.ok es.length w')/\∃news:List Value,(∀w':World,w'.heap=w.heap->(Builtin.firstCells sz n c).run P w'=.ok news.toArray w')/\news.length=n*sz/\
   (∀u∈news,u.oneCell'=true)/\∀(i:Nat)(e:PV)(j:Nat)(x:PV),i<n->es[i]?=some e->e.cells[j]?=some x->x.isCell=true/\∃u,news[i*sz+j]?=some u/\VR ah M x u:=by
 cases S with
 |none k cap hk=>
  subst hk;have h0:n=0:=by simpa using hn
  subst h0;exact⟨λw'=>rfl,[],λw' _=>by simp[Builtin.firstCells],by simp,by simp,λi e j x hi=>by omega⟩
 |empty a cap=>
  have h0:n=0:=by simpa using hn
  subst h0;refine⟨λw'=>rfl,[],λw' _=>?_,by simp,by simp,λi e j x hi=>by omega⟩;cases a with
  |none=>simp[Builtin.firstCells]
  |some a=>simp[Builtin.firstCells,loadCells,loadCellsFrom]
 | some ad cap sz' _ us S hne=>
  have hsz:sz'=sz:=by
   cases es with
   |nil=>exact absurd rfl hne
   |cons e es=>rw[<-S.len 0 e rfl,hs 0 e rfl]
  subst hsz;refine⟨λw'=>rfl,mQ n sz' us,λw' hw=>?_,nk _ _ _,?_,?_⟩
  ·have hc:∀j v,(mQ n sz' us)[j]?=some v->w'.cell? (ad.add j)=some v:=by
    intro j v hj;have:w'.cell? (ad.add j)=w.cell? (ad.add j):=by simp only[World.cell?,hw]
    rw[this];refine(S.row j v ?_).1;unfold mQ at hj⊢;rw[Pk]at hj⊢;have hlt:j<n*sz':=by
     rcases Pt j (n*sz')with z|z
     ·exact z
     ·rw[Ph (by simpa using z)]at hj;cases hj
    have:n*sz'<=es.length*sz':=PA _ hn;rw[Qi hlt]at hj;rw[Qi (by omega)];exact hj
   have:=run_loadCells_list (P:=P) w' ad (mQ n sz' us) hc;rw[nk]at this;simpa[Builtin.firstCells]using this
  ·intro u hu;obtain⟨k,hk,rfl⟩:=List.mem_iff_getElem.1 hu;have hlt:k<n*sz':=by rw[nk]at hk;exact hk
   have hk2:(mQ es.length sz' us)[k]?=some (mQ n sz' us)[k]:=by
    have:n*sz'<=es.length*sz':=PA _ hn;rw[<-Pa hk];unfold mQ;rw[Pk,Pk,Qi hlt,Qi (by omega)]
   obtain⟨_,i,j,e,x,h1,h2,_,h4⟩:=S.row k _ hk2;rw[h4];obtain⟨g1,_,g3⟩:=S.cell i e j x h1 h2;exact g3.isCell_one g1
  ·intro i e j x hi he hj;obtain⟨g1,_,g3⟩:=S.cell i e j x he hj;have hjs:j<sz':=by
    rw[<-S.len i e he];rcases Pt j e.cells.length with z|z
    ·exact z
    ·rw[Ph z]at hj;cases hj
   exact⟨g1,_,Ep us hi hjs,g3⟩
 | str s=>
  have hl:(s.map λb=>PV.int .u8 b.toNat).length=s.length:=by simp
  have hsz:(⟨s.toArray⟩:ByteArray).size=s.length:=by simp[ByteArray.size]
  refine⟨λw'=>by simp[Builtin.lenOf,hsz],(s.take n).map (λb=>Value.int .u8 b.toNat),λw' _=>?_,?_,?_,?_⟩
  ·have:(⟨s.toArray⟩:ByteArray).extract 0 n=⟨(s.take n).toArray⟩:=by
    apply ByteArray.ext;simp[ByteArray.data_extract,List.extract_eq_take_drop]
   simp only[Builtin.firstCells,this,Sem.run_pure];congr 1;apply Array.ext';simp
  ·rw[hl]at hn;cases s with
   |nil=>simp at hn;subst hn;simp
   |cons b s=>
    have:=hs 0 _ rfl;simp[PV.cells]at this;subst this;simp at hn⊢;omega
  ·intro u hu;simp only[List.mem_map]at hu;obtain⟨b,_,rfl⟩:=hu;rfl
  ·intro i e j x hi he hj;rw[Pk]at he;cases hb:s[i]? with
   |none=>simp[hb]at he
   | some b=>
    simp only[hb,Py,O5]at he;subst he;have:=hs i _ (by rw[Pk,hb];rfl);simp[PV.cells]at this;subst this;cases j with
    |succ j=>simp[PV.cells]at hj
    |zero=>
     simp only[PV.cells,Pg,O5]at hj;subst hj;refine⟨rfl,.int .u8 b.toNat,?_,.fr (.int _ _)⟩;rw[Pk,Nat.mul_one,Qp,PN,O9 hi,hb];rfl
theorem Ax{es vs:List PV}{h':Heap}{n:Nat}{news:List Value}{sz:Nat}(hv:(HM.mapM (bp n) es).run h=some (vs,h'))(H:HR ah M h w)
  (hes:∀(i:Nat)(e:PV),es[i]?=some e->e.cells.length=sz)(hl:news.length=es.length*sz)(h1:∀u∈news,u.oneCell'=true)
  (hc:∀(i:Nat)(e:PV)(j:Nat)(x:PV),es[i]?=some e->e.cells[j]?=some x->x.isCell=true/\∃u,news[i*sz+j]?=some u/\VR ah M x u):
  ∃M',Stp M w M' w/\HR ah M' h' w/\vs.length=es.length/\NewsR ah M' sz vs news:=by
 obtain⟨M1,S1,H1,L1,F1⟩:=iP (iY n) (cs:=λi=>wU (es.getD i .junk) (λj=>news.getD (i*sz+j) undef)) hv H (λi e hi=>by
  have hd:es.getD i .junk=e:=by simp[List.getD,hi]
  rw[hd];refine yH (λj x hj=>?_);obtain⟨_,u,g1,g2⟩:=hc i e j x hi hj;simpa[List.getD,g1]using g2)
 refine⟨M1,S1,H1,L1,by rw[L1];exact hl,λi e' hi=>?_,h1⟩;have hilt:i<es.length:=by
  rw[<-L1];rcases Pt i vs.length with z|z
  ·exact z
  ·rw[Ph z]at hi;cases hi
 have he:es[i]?=some es[i]:=Pa hilt;have hF:=F1 i e' hi;have hd:es.getD i .junk=es[i]:=by simp[List.getD,he]
 rw[hd]at hF;have hone:(∀cs,es[i]≠ .agg cs)->(news.getD (i*sz+0) undef).oneCell'=true:=by
  intro hna;have hcl:es[i].cells=[es[i]]:=by cases hh:es[i]<;>first|rfl|exact absurd hh (hna _)
  obtain⟨g0,u,g1,g2⟩:=hc i _ 0 es[i] he (by rw[hcl];rfl);have:news.getD (i*sz+0) undef=u:=by simp only[List.getD,g1,PK]
  rw[this];exact g2.isCell_one g0
 have hsize:=rX (e:=es[i]) (u:=λj=>news.getD (i*sz+j) undef) hone;have hlen:e'.cells.length=sz:=by rw[hF.cells_size,hsize];exact hes i _ he
 refine⟨hlen,λj x hj=>?_⟩;have hjlt:j<es[i].cells.length:=by
  rw[hes i _ he,<-hlen];rcases Pt j e'.cells.length with z|z
  ·exact z
  ·rw[Ph z]at hj;cases hj
 obtain⟨u,h5,h6⟩:=hF.cells_at j x hj;rw[kX j hjlt hone]at h5;simp only[O5]at h5;obtain⟨g0,u',g1,g2⟩:=hc i _ j _ he (Pa hjlt);have hu:news.getD (i*sz+j) undef=u':=by simp[List.getD,g1]
 rw[hu]at h5;subst h5;exact⟨h6.isCell (g2.isCell_one g0),u',g1,.fr h6⟩
end
section
variable{ah:Nat->FuncId}{P:Program}{M:Mp}{w:World}{h:Heap}
theorem HR.drew(H:HR ah M h w):HR ah M h w.drew:=
 ⟨H.cv,H.dom,H.has,H.out,λr e b loc h1 h2 h3=>by obtain⟨c,t,lo,hi,B⟩:=H.blk r e b loc h1 h2 h3;exact⟨c,t,lo,hi,⟨B.heap,B.sz,B.size,B.free,B.lohi,B.fits,B.ro,B.rw_,B.cells⟩⟩,H.inj,H.rd⟩
theorem Stp.drew:Stp M w M w.drew:=⟨⟨.refl _,rfl,rfl,rfl,Pf _,λ_ _ _=>rfl,λ_ h=>.inl h,λ_ h=>.inl h⟩,.refl _⟩
theorem Heap.put_put{r:aq}{e e':fg}:(h.put r e).put r e'=h.put r e':=by cases r<;>simp[Heap.put]
theorem HR.drop{r:aq}{e:fg}(H:HR ah M h w)(hg:h.get r=some e):
  let M':=M.at r e.ver none M.rd
  HR ah M' (h.put r ⟨e.ver,none⟩) w/\Stp M w M' w/\(∀r',r'≠r->M'.io r'=M.io r')/\(∀v,M'.io r v=none):=by
 intro M';have hcv:M.cv r=e.ver:=H.cv _ _ hg;have hio:∀r',r'≠r->M'.io r'=M.io r':=λr' hr=>by funext v;show(if r'=r then _ else _)=_;rw[Pd hr]
 have hself:∀v,M'.io r v=none:=λv=>by show(if r=r then(if v=e.ver then none else none)else _)=_;rw[O9 rfl];split<;>rfl
 have le:M.le M':=⟨.refl _,λr'=>by
   show _<=(if r'=r then e.ver else _);split
   ·rename_i hr;rw[hr,hcv];exact Pf _
   ·exact Pf _,λr' v _=>by
   by_cases hr:r'=r
   ·subst hr;exact .inr (hself v)
   ·left;rw[hio r' hr]⟩
 refine⟨H.upd hg (by intro i hi;subst hi;have:=Heap.ver_a hg;exact this) le (λr' hr=>by show(if r'=r then _ else _)=_;rw[Pd hr]) hio (by show(if r=r then _ else _)=_;rw[O9 rfl])
  (λv hv=>absurd (hself v) hv) (λhb=>absurd rfl hb) (λb loc hb=>by cases hb) (λv loc r' v' loc' hr h1=>by rw[hself]at h1;cases h1) (λ_ _ _ _ _=>⟨rfl,rfl⟩) H.rd,?_,hio,hself⟩
 refine⟨⟨.refl _,rfl,rfl,rfl,Pf _,λ_ _ _=>rfl,λk hk=>?_,λk hk=>.inl hk⟩,le⟩;obtain⟨r',v,loc',hl',rfl⟩:=hk;by_cases hr:r'=r
 ·subst hr;rw[hself]at hl';cases hl'
 ·rw[hio _ hr]at hl';exact .inl (dx hl')
theorem HR.take{s:Nat}{e:fg}(H:HR ah M h w)(hg:h.get (.l s)=some e){loc:C3}{b:Blk}(hnew:∀r v loc',r≠ .l s->M.io r v=some loc'->loc'.b≠loc.b)
  (hb:∀M',M.le M'->M'.rd=M.rd->∃c t lo hi,BlkAt ah M' w loc b c t lo hi):
  let M':=M.at (.l s) (e.ver+1) (some loc) M.rd
  HR ah M' (h.put (.l s) ⟨e.ver+1,some b⟩) w/\M.le M'/\M'.io (.l s) (e.ver+1)=some loc/\e.ver+1<=M'.cv (.l s)/\(∀r,r≠ .l s->M'.io r=M.io r)/\
   (∀v loc',M'.io (.l s) v=some loc'->loc'=loc):=by
 intro M';have hcv:M.cv (.l s)=e.ver:=H.cv _ _ hg;have hio:∀r',r'≠ .l s->M'.io r'=M.io r':=λr' hr=>by funext v;show(if r'=.l s then _ else _)=_;rw[Pd hr]
 have hself:∀v,M'.io (.l s) v=if v=e.ver+1 then some loc else none:=λv=>by show(if(aq.l s)=.l s then _ else _)=_;rw[O9 rfl]
 have le:M.le M':=⟨.refl _,λr'=>by
   show _<=(if r'=.l s then e.ver+1 else _);split
   ·rename_i hr;rw[hr,hcv];omega
   ·exact Pf _,λr' v hv=>by
   by_cases hr:r'=.l s
   ·subst hr;rw[hcv]at hv;right;rw[hself,Pd (by omega)]
   ·left;rw[hio r' hr]⟩
 refine⟨H.upd hg (by intro i hi;cases hi) le (λr' hr=>by show(if r'=.l s then _ else _)=_;rw[Pd hr]) hio (by show(if(aq.l s)=.l s then _ else _)=_;rw[O9 rfl])
  ?_ ?_ ?_ ?_ (λ_ _ _ _ _=>⟨rfl,rfl⟩) H.rd,le,by rw[hself,O9 rfl],by show _<=(if(aq.l s)=.l s then _ else _);rw[O9 rfl];exact Pf _,hio,?_⟩
 ·intro v hv;rw[hself]at hv;split at hv
  ·rename_i hv';exact⟨hv',by simp⟩
  ·exact absurd rfl hv
 ·intro _;rw[hself];simp
 ·intro b1 loc1 h1 h2;simp only[O5]at h1;subst h1;rw[hself,O9 rfl]at h2;simp only[O5]at h2;subst h2;exact hb M' le rfl
 ·intro v loc1 r' v' loc' hr h1 h2 e1;rw[hself]at h1;split at h1
  ·simp only[O5]at h1;subst h1;exact hnew _ _ _ hr h2 e1.symm
  ·cases h1
 ·intro v loc' h1;rw[hself]at h1;split at h1
  ·simp only[O5]at h1;exact h1.symm
  ·cases h1
theorem fC{c:Array Value}{base sz:Nat}{old vs:List PV}{news:List Value}(N:NewsR ah M sz vs news)
  (ho:CellsAt ah M c base sz old)(hn:∀(k:Nat)(u:Value),news[k]?=some u->c[base+old.length*sz+k]?=some u):CellsAt ah M c base sz (old++vs):=by
 intro i e hi;rcases Pt i old.length with z|z
 ·rw[Pz z]at hi;exact ho i e hi
 ·rw[Pp z]at hi;obtain⟨h1,h2⟩:=N.cells _ _ hi;refine⟨h1,λj x hj=>⟨(h2 j x hj).1,?_⟩⟩;obtain⟨u,h3,h4⟩:=(h2 j x hj).2;refine⟨u,?_,h4⟩;rw[<-hn _ _ h3];congr 1;have:i*sz=old.length*sz+(i-old.length)*sz:=by rw[<-PL];congr 1;omega
  omega
theorem CellsAt.sub{c:Array Value}{base sz:Nat}{es:List PV}(h:CellsAt ah M c base sz es)(off n:Nat):CellsAt ah M c (base+off*sz) sz ((es.drop off).take n):=by
 intro i e hi;rw[PN]at hi;split at hi
 ·rw[PP]at hi;obtain⟨h1,h2⟩:=h _ _ hi;refine⟨h1,λj x hj=>⟨(h2 j x hj).1,?_⟩⟩;obtain⟨u,h3,h4⟩:=(h2 j x hj).2;refine⟨u,?_,h4⟩;rw[<-h3];congr 1;rw[PL];omega
 ·cases hi
structure C4 (P:Program) (t t2:TypeId) (sz:Nat) (e:TypeId) (i:TypeInfo) (z:Value) (d2:TypeDesc):Prop where
 ht:P.underlying t=some (.slice e)
 h2:P.underlying t2=some d2
 hni:∀k,d2≠ .int k
 hi:P.info? e=some i
 hz:i.zero=some z
 hsz:i.size=sz
 hzs:z.cells.size=sz
 hb0:i.bytes≠0
 hb:i.bytes<=32768
 hs0:0<sz
theorem nF{t t2 ty e:TypeId}{sz:Nat}{i:TypeInfo}{z:Value}{d2:TypeDesc}(T:C4 P t t2 sz e i z d2){base:Option Addr}{cap:Nat}{cy:Value}{vs:List PV}{news:List Value}{s:Nat}{v:PV}{h':Heap}
  (H:HR ah M h w)(hv:(eE sz [] vs s).run h=some (v,h'))(hm:vs≠[])(hcap:cap=0)(N:NewsR ah M sz vs news)
  (hlen:∀w',(Builtin.lenOf cy).run P w'=.ok vs.length w')(hfc:∀w':World,w'.heap=w.heap->(Builtin.firstCells sz vs.length cy).run P w'=.ok news.toArray w'):
  OkR ah P M w (Builtin.append_ #[t,t2] ty #[.slice base 0 cap,cy]) v h':=by
 subst hcap;have T2:=T.hsz;unfold eE at hv;simp only[PT,PZ,Pi]at hv;by_cases hc:vs.length<bG
 case neg=>rw[Pd hc]at hv;simp[HM.run]at hv
 rw[O9 hc]at hv;obtain⟨n,h1,hb,hv⟩:=HM.run_bind_some hv;obtain⟨rfl,rfl⟩:=HM.run_ret_some hv;have hpos:0<vs.length:=List.length_pos_iff.2 hm;have hold:(Builtin.firstCells i.size 0 (.slice base 0 0)).run P w.drew=.ok #[] w.drew:=by
  cases base with
  |none=>simp[Builtin.firstCells]
  |some a=>simp[Builtin.firstCells,loadCells,loadCellsFrom]
 obtain⟨cap,⟨hcap,hcapM⟩,hrun⟩:=nZ (P:=P) (w:=w) (ty:=ty) (base:=base) (sLen:=0) (sCap:=0) T.ht T.h2 T.hni T.hi T.hz hlen hold (by rw[T2];exact hfc _ rfl) T.hb0 (by omega) (by
  have h3:=T.hb;have:(0+vs.length)*i.bytes<=2147483648*32768:=Re (by unfold bG at hc;omega) h3;omega)
 simp only[PZ]at hrun hcap;have hsz:(#[]++news.toArray++Builtin.zeroCells z.cells (cap-vs.length)).size=cap*sz:=by
  simp only[Array.size_append,List.size_toArray,N.len,size_zeroCells,T.hzs,PT,PZ];rw[<-PL];congr 1;omega
 obtain⟨M',S',H',q1,q2⟩:=kF (t:=e) (H.drew) hb rfl (b:=⟨sz,vs,false⟩) (cs:= #[]++news.toArray++Builtin.zeroCells z.cells (cap-vs.length))
  (by rw[hsz];exact PA _ hcap) (by rw[hsz];exact PA _ hcapM) (by
   have:=fC (c:= #[]++news.toArray++Builtin.zeroCells z.cells (cap-vs.length)) (base:=0) (old:=[]) N (λi e hi=>by simp at hi) (λk u hk=>by
    have hlt:k<news.length:=by
     rcases Pt k news.length with z|z
     ·exact z
     ·rw[Ph z]at hk;cases hk
    simp only[PT,Nat.zero_mul,PZ];rw[Qr (by simp;exact hlt)];simpa using hk)
   exact this)
 exact⟨_,_,M',hrun,Stp.drew.trans S',H',lC q1 q2 (Pf _) hcap (by rw[hsz];exact Pf _)⟩
theorem yA{t t2 ty e:TypeId}{sz:Nat}{i:TypeInfo}{z:Value}{d2:TypeDesc}(T:C4 P t t2 sz e i z d2){cx cy:Value}{vs:List PV}{news:List Value}{s:Nat}{v:PV}{h':Heap}
  {r:aq}{ver off len room:Nat}(H:HR ah M h w)(hv:(gO sz r ver off len room vs s).run h=some (v,h'))(hm:vs≠[])(hx:VR ah M (.tok r ver sz off len room false) cx)(N:NewsR ah M sz vs news)
  (hlen:∀w',(Builtin.lenOf cy).run P w'=.ok vs.length w')(hfc:∀w':World,w'.heap=w.heap->(Builtin.firstCells sz vs.length cy).run P w'=.ok news.toArray w'):
  OkR ah P M w (Builtin.append_ #[t,t2] ty #[cx,cy]) v h':=by
 have T2:=T.hsz;have hs0:=T.hs0;unfold gO at hv;obtain⟨b,h1,hb,hv⟩:=HM.run_bind_some hv;obtain⟨rfl,hg⟩:=bh hb;by_cases hc:b.sz=sz/\b.ro=false/\off+len<=b.es.length/\len+vs.length<bG
 case neg=>rw[Pd hc]at hv;simp[HM.run]at hv
 rw[O9 hc]at hv;obtain⟨c1,c2,c3,c4⟩:=hc;obtain⟨loc,ca,tb,lo,hi,hl,B⟩:=H.live hg;obtain⟨a,cap,rfl,hver,k2,k3,k4,k5⟩:=hx.tok_inv;obtain⟨e1,e2⟩:=k5 loc hl;have hpos:0<vs.length:=List.length_pos_iff.2 hm;have hBsz:=B.sz;have hBsize:=B.size;have hfit:=B.fits;rw[c1]at hfit;have hold:CellsAt ah M ca (loc.base+off*sz) sz ((b.es.drop off).take len):=by
  have:=B.cells;rw[c1]at this;exact this.sub off len
 have hlold:((b.es.drop off).take len).length=len:=by simp;omega
 have inplace:∀{es':List PV},len+vs.length<=cap->0<cap->
   loc.base+es'.length*sz<=ca.size->
   CellsAt ah M (cF ca (loc.base+(off+len)*sz) news) loc.base sz es'->
   ∃w',(Builtin.append_ #[t,t2] ty #[.slice (some a) len cap,cy]).run P w=.ok (.slice (some a) (len+vs.length) cap) w'/\Stp M w M w'/\
    HR ah M (h.put r ⟨ver,some ⟨sz,es',false⟩⟩) w'/\w'=gJ w loc.b (.cells (cF ca (loc.base+(off+len)*sz) news) tb (lo,hi))/\a=⟨loc.b,loc.base+off*sz,none⟩/\loc.base+off*sz+cap*sz<=loc.size:=by
  intro es' q1 q2 q3 q5;rcases e2 with e2|⟨rfl,e2⟩
  ·omega
  have hmul:(len+vs.length)*sz<=cap*sz:=PA _ q1;rw[PL]at hmul;have hbound:loc.base+(off+len)*sz+news.length<=ca.size:=by rw[N.len,PL];omega
  have hst:=ei (P:=P) loc.b (loc.base+off*sz+len*sz) tb lo hi news 0 ca w B.heap (by rw[Qp];rw[PL]at hbound;omega) B.free N.one;have hadd:loc.base+off*sz+len*sz+0=loc.base+(off+len)*sz:=by rw[PL];omega
  rw[hadd]at hst;have hrun:=oe (P:=P) (w:=w) (ty:=ty) (base:=some ⟨loc.b,loc.base+off*sz,none⟩) (sLen:=len) (sCap:=cap) T.ht T.h2 T.hni T.hi hlen (by rw[T2];exact hfc w rfl) q1
   (w':=gJ w loc.b (.cells (cF ca (loc.base+(off+len)*sz) news) tb (lo,hi))) (by simp only[T2,nK];exact hst)
  obtain⟨H',S'⟩:=H.write hg c2 (b':=⟨sz,es',false⟩) rfl hl B c1.symm (c':=cF ca (loc.base+(off+len)*sz) news) (da hbound) q3 q5;exact⟨_,hrun,S',H',rfl,rfl,e2⟩
 have spl:∀(cap:Nat),loc.base+(off+len)*sz+news.length<=ca.size->CellsAt ah M (cF ca (loc.base+(off+len)*sz) news) loc.base sz (b.es.take (off+len)++vs):=by
  intro cap hbound;refine fC N ?_ ?_
  ·intro k e' hk;rw[PN]at hk;split at hk
   ·rename_i hkl;have hBc:=B.cells;rw[c1]at hBc;obtain⟨g1,g2⟩:=hBc k e' hk;refine⟨g1,λj x hj=>⟨(g2 j x hj).1,?_⟩⟩;obtain⟨u,g3,g4⟩:=(g2 j x hj).2;refine⟨u,?_,g4⟩;have hjl:j<sz:=by
     rw[<-g1];rcases Pt j e'.cells.length with z|z
     ·exact z
     ·rw[Ph z]at hj;cases hj
    have:(k+1)*sz<=(off+len)*sz:=PA _ hkl;rw[PL,Rl]at this;rw[bQ hbound,Pd (by omega),g3]
   ·cases hk
  ·intro k u hk;have hlt:k<news.length:=by
    rcases Pt k news.length with z|z
    ·exact z
    ·rw[Ph z]at hk;cases hk
   have:(b.es.take (off+len)).length=off+len:=by simp;omega
   rw[this,bQ hbound,O9 (by omega),<-hk];congr 1;omega
 by_cases hroom:len+vs.length<=room
 ·rw[O9 hroom]at hv;by_cases hfl:off+len+vs.length<=b.es.length
  case neg=>rw[Pd hfl]at hv;simp[HM.run]at hv
  rw[O9 hfl]at hv;obtain⟨e0,he0,hv⟩:=bA hv;obtain⟨rfl,rfl⟩:=HM.run_ret_some hv;have hcap:len+vs.length<=cap:=by omega
  have hbound:loc.base+(off+len)*sz+news.length<=ca.size:=by
   rw[N.len,Rj,<-PL];have:(off+len+vs.length)*sz<=b.es.length*sz:=PA _ hfl;omega
  have hl':(b.es.take (off+len)++vs++b.es.drop (off+len+vs.length)).length=b.es.length:=by simp;omega
  obtain⟨w',hrun,S',H',hw',ha,hb'⟩:=inplace (es':=b.es.take (off+len)++vs++b.es.drop (off+len+vs.length)) hcap (by omega) (by rw[hl'];omega) (by
   intro k e' hk;rcases Pt k (off+len+vs.length)with z|z
   ·rw[Pz (by simp;omega)]at hk;exact spl cap hbound k e' hk
   ·rw[Pp (by simp;omega),PP]at hk;have hk':b.es[k]?=some e':=by rw[<-hk];congr 1;simp;omega
    have hBc:=B.cells;rw[c1]at hBc;obtain⟨g1,g2⟩:=hBc k e' hk';refine⟨g1,λj x hj=>⟨(g2 j x hj).1,?_⟩⟩;obtain⟨u,g3,g4⟩:=(g2 j x hj).2;refine⟨u,?_,g4⟩;have:(off+len+vs.length)*sz<=k*sz:=PA _ z;rw[PL _ vs.length]at this;rw[bQ hbound,Pd (by rw[N.len];omega),g3])
  refine⟨_,w',M,hrun,S',H',.tok _ _ _ _ _ _ _ _ _ hver hroom k3 (by intro h0;cases h0) (λloc' hl''=>?_)⟩;rw[hl]at hl'';cases hl'';exact⟨e1,.inr ⟨ha,hb'⟩⟩
 ·rw[ Pd hroom]at hv;have hslen:((b.es.drop off).take len++vs).length=len+vs.length:=by rw[Pu,hlold]
  have hne:∀r' v' loc',r'≠r->M.io r' v'=some loc'->loc'.b≠loc.b:=λr' v' loc' hr q e=>hr (H.inj _ _ _ _ _ _ q hl e);have hrdn:M.rd loc.b=none:=B.rw_ c2;have hmaxb:(len+vs.length)*i.bytes<=140737488355328:=by
   have h3:=T.hb;have:(len+vs.length)*i.bytes<=2147483648*32768:=Re (by unfold bG at c4;omega) h3;omega
  rcases Pt cap (len+vs.length)with hcap|hcap
  ·
   have hel:(elems (.tok r ver sz off len room false)).run h=some ((b.es.drop off).take len,h):=by
    unfold elems;by_cases hl0:len=0
    ·subst hl0;simp[HM.run]
    ·simp only[Pd hl0,HM.run_bind];have:(bS r ver).run h=some (b,h):=hb;rw[this];simp only[O9 (And.intro c3 c1),HM.run]
   obtain⟨_,SR⟩:=gU hel H hx;obtain⟨_,olds,ho1,ho2,ho3,ho4⟩:=cW (P:=P) SR (sz:=sz) (λk e' hk=>(hold k e' hk).1) len (by omega);have NO:NewsR ah M sz ((b.es.drop off).take len) olds:=⟨by rw[hlold];exact ho2,λk e' hk=>⟨(hold k e' hk).1,λj x hj=>ho4 k e' j x (by
    rw[<-hlold];rcases Pt k ((b.es.drop off).take len).length with z|z
    ·exact z
    ·rw[Ph z]at hk;cases hk) hk hj⟩,ho3⟩
   obtain⟨cap',⟨hcap',hcapM⟩,hrun⟩:=nZ (P:=P) (w:=w) (ty:=ty) (base:=some a) (sLen:=len) (sCap:=cap) T.ht T.h2 T.hni T.hi T.hz hlen (by rw[T2];exact ho1 _ rfl) (by rw[T2];exact hfc _ rfl) T.hb0 hcap hmaxb;have hsz:(olds.toArray++news.toArray++Builtin.zeroCells z.cells (cap'-(len+vs.length))).size=cap'*sz:=by
    simp only[Array.size_append,List.size_toArray,N.len,ho2,size_zeroCells,T.hzs];rw[<-PL,<-PL];congr 1;omega
   have hcells:∀{M':Mp},M.le M'->CellsAt ah M' (olds.toArray++news.toArray++Builtin.zeroCells z.cells (cap'-(len+vs.length))) 0 sz ((b.es.drop off).take len++vs):=by
    intro M' le;refine fC (N.mono le) ?_ ?_
    ·have:=fC (M:=M') (c:=olds.toArray++news.toArray++Builtin.zeroCells z.cells (cap'-(len+vs.length))) (base:=0) (old:=[]) (NO.mono le) (λi e hi=>by simp at hi) (λk u hk=>by
      have hlt:k<olds.length:=by
       rcases Pt k olds.length with z|z
       ·exact z
       ·rw[Ph z]at hk;cases hk
      simp only[PT,Nat.zero_mul,PZ];rw[Qr (by simp;omega),Qr (by simpa using hlt)];simpa using hk)
     exact this
    ·intro k u hk;have hlt:k<news.length:=by
      rcases Pt k news.length with z|z
      ·exact z
      ·rw[Ph z]at hk;cases hk
     rw[hlold,Qr (by simp[ho2];omega),Array.getElem?_append_right (by simp[ho2])];simp only[QV,List.size_toArray,ho2];rw[<-hk];congr 1;omega
   by_cases hrs:r=.l s
   ·rw[O9 hrs]at hv;obtain⟨n,h2,hb2,hv⟩:=HM.run_bind_some hv;obtain⟨rfl,rfl⟩:=HM.run_ret_some hv;obtain⟨M',S',H',q1,q2⟩:=kF (t:=e) H.drew hb2 rfl (by rw[hsz];show _*sz<=_;rw[hslen];exact PA _ hcap') (by rw[hsz];exact PA _ hcapM) (hcells (.refl _));exact⟨_,_,M',hrun,Stp.drew.trans S',H',lC q1 q2 (Pf _) hcap' (by rw[hsz];exact Pf _)⟩
   ·rw[Pd hrs]at hv;obtain⟨e0,he0,hv⟩:=bA hv;rw[hg]at he0;cases he0;obtain⟨n,h2,hb2,hv⟩:=HM.run_bind_some hv;obtain⟨rfl,rfl⟩:=HM.run_ret_some hv;obtain⟨H1,S1,_,_⟩:=H.drop hg;obtain⟨M',S',H',q1,q2⟩:=kF (t:=e) H1.drew hb2 rfl (by rw[hsz];show _*sz<=_;rw[hslen];exact PA _ hcap') (by rw[hsz];exact PA _ hcapM) (hcells S1.le);exact⟨_,_,M',hrun,S1.trans (Stp.drew.trans S'),H',lC q1 q2 (Pf _) hcap' (by rw[hsz];exact Pf _)⟩
  ·
   have hcap0:0<cap:=by omega
   have hbase:a=⟨loc.b,loc.base+off*sz,none⟩/\loc.base+off*sz+cap*sz<=loc.size:=by
    rcases e2 with e2|e2
    ·omega
    ·exact e2
   have hmul:(len+vs.length)*sz<=cap*sz:=PA _ hcap;have hbound:loc.base+(off+len)*sz+news.length<=ca.size:=by
    rw[N.len,PL];rw[PL]at hmul;have:=hbase.2;omega
   have htl:(b.es.take (off+len)++vs).length=off+len+vs.length:=by simp;omega
   obtain⟨w',hrun,S',H',hw',ha,hb'⟩:=inplace (es':=b.es.take (off+len)++vs) hcap hcap0 (by
    rw[htl,Rj,PL];rw[B.size];omega) (spl cap hbound)
   have hdrop:(b.es.take (off+len)++vs).drop off=(b.es.drop off).take len++vs:=by
    rw[List.drop_append_of_le_length (by simp;omega),List.drop_take];congr 2;omega
   have hblk:∀M',M.le M'->M'.rd=M.rd->∃c t lo hi,BlkAt ah M' w' ⟨loc.b,loc.base+off*sz,sz,loc.size⟩ ⟨sz,(b.es.drop off).take len++vs,false⟩ c t lo hi:=by
    intro M' le hrd;refine⟨cF ca (loc.base+(off+len)*sz) news,tb,lo,hi,⟨?_,rfl,?_,?_,⟨B.lohi.1,λq=>by rw[da hbound];exact B.lohi.2.1 (by rw[<-B.sz,e1];exact q),by rw[da hbound];have:=B.lohi.2.2;rw[<-B.sz,e1]at this;exact this⟩,?_,λq=>(by cases q),λ_=>by rw[hrd];exact hrdn,?_⟩⟩
    ·rw[hw'];exact gP B.lt
    ·rw[da hbound];exact B.size
    ·intro k hk;rw[da hbound]at hk;exact B.free k hk
    ·show loc.base+off*sz+_*sz<=_;rw[hslen,da hbound,B.size];omega
    ·have h5:=((spl cap hbound).mono le).sub off (len+vs.length);rw[hdrop,Qv (by rw[hslen];exact Pf _)]at h5;exact h5
   have fin:∀{M1 M':Mp}{v':Nat},M.le M1->(∀r',r'≠ .l s->M'.io r'=M1.io r')->(∀k,own M1 k->own M k)->M1.le M'->M'.rd=M.rd->M'.io (.l s) v'=some ⟨loc.b,loc.base+off*sz,sz,loc.size⟩->v'<=M'.cv (.l s)->
     (∀v loc',M'.io (.l s) v=some loc'->loc'=⟨loc.b,loc.base+off*sz,sz,loc.size⟩)->
     Stp M w M' w'/\VR ah M' (.tok (.l s) v' sz 0 (len+vs.length) (len+vs.length) false) (.slice (some a) (len+vs.length) cap):=by
    intro M1 M' v' le1 hio how le2 hrd hi1 hv1 hall;refine⟨⟨⟨by rw[hrd];exact .refl _,S'.os,S'.tape,S'.output,S'.size,S'.frame,λk hk=>?_,λk hk=>.inl (by rw[hrd]at hk;exact hk)⟩,le1.trans le2⟩,.tok _ _ _ _ _ _ _ _ _ hv1 (Pf _) hcap (by intro h0;cases h0) (λloc' hl'=>?_)⟩
    ·obtain⟨r',v2,loc',hl',rfl⟩:=hk;by_cases hr:r'=.l s
     ·subst hr;have h8:=hall _ _ hl';subst h8;exact .inl (show own M loc.b from dx hl)
     ·rw[hio _ hr]at hl';exact .inl (how _ (dx hl'))
    ·rw[hi1]at hl';cases hl';exact⟨rfl,.inr ⟨by rw[ha];simp,by simpa using hb'⟩⟩
   by_cases hrs:r=.l s
   ·rw[O9 hrs]at hv;obtain⟨n,h2,hb2,hv⟩:=HM.run_bind_some hv;obtain⟨rfl,rfl⟩:=HM.run_ret_some hv;obtain⟨e3,he3,rfl,rfl⟩:=jG hb2;subst hrs;rw[hg]at he3;cases he3;have hg2:(h.put (.l s) ⟨ver,some ⟨sz,b.es.take (off+len)++vs,false⟩⟩).get (.l s)=some ⟨ver,some ⟨sz,b.es.take (off+len)++vs,false⟩⟩:=Heap.get_put_same hg (by intro i hi;cases hi);obtain⟨H2,le2,q1,q2,q3,q4⟩:=H'.take hg2 (loc:=⟨loc.b,loc.base+off*sz,sz,loc.size⟩) (b:=⟨sz,(b.es.drop off).take len++vs,false⟩) (λr' v' loc' hr q=>hne r' v' loc' hr q) hblk;rw[Heap.put_put]at H2;obtain⟨S2,V2⟩:=fin (.refl _) q3 (λ_ h=>h) le2 rfl q1 q2 q4;exact⟨_,w',_,hrun,S2,H2,V2⟩
   ·rw[Pd hrs]at hv;obtain⟨e0,he0,hv⟩:=bA hv;rw[hg]at he0;cases he0;obtain⟨n,h2,hb2,hv⟩:=HM.run_bind_some hv;obtain⟨rfl,rfl⟩:=HM.run_ret_some hv;obtain⟨e3,he3,rfl,rfl⟩:=jG hb2;have hva:∀i,r=.a i->ver=0:=by intro i hi;subst hi;have:=Heap.ver_a hg;exact this
    have hg2:(h.put r ⟨ver,some ⟨sz,b.es.take (off+len)++vs,false⟩⟩).get r=some ⟨ver,some ⟨sz,b.es.take (off+len)++vs,false⟩⟩:=Heap.get_put_same hg hva;obtain⟨H1,S1,p1,p2⟩:=H'.drop hg2;rw[Heap.put_put]at H1;obtain⟨H2,le2,q1,q2,q3,q4⟩:=H1.take he3 (loc:=⟨loc.b,loc.base+off*sz,sz,loc.size⟩) (b:=⟨sz,(b.es.drop off).take len++vs,false⟩) (λr' v' loc' hr q=>by
     by_cases hrr:r'=r
     ·subst hrr;rw[p2]at q;cases q
     ·rw[p1 _ hrr]at q;exact hne r' v' loc' hrr q) (λM' le hrd=>hblk M' (S1.le.trans le) hrd)
    obtain⟨S2,V2⟩:=fin S1.le q3 (λk hk=>by
     rcases S1.own k hk with z|z
     ·exact z
     ·obtain⟨r',v',loc',hl',rfl⟩:=hk;by_cases hrr:r'=r
      ·subst hrr;rw[p2]at hl';cases hl'
      ·rw[p1 _ hrr]at hl';exact dx hl') le2 rfl q1 q2 q4
    exact⟨_,w',_,hrun,S2,H2,V2⟩
end
section
variable{ah:Nat->FuncId}{P:Program}{M:Mp}{w:World}{h:Heap}
theorem OkR.after{M1:Mp}{s:Sem Value}{v:PV}{h':Heap}(S:Stp M w M1 w)(o:OkR ah P M1 w s v h'):OkR ah P M w s v h':=by
 obtain⟨c,w',M',h1,h2,h3,h4⟩:=o;exact⟨c,w',M',h1,S.trans h2,h3,h4⟩
theorem sh:∀{sz:Nat}{vs:List PV},cC sz vs=true->∀(i:Nat)(e:PV),vs[i]?=some e->e.cells.length=sz
 |sz,v::vs,h,0,e,hi=>by simp only[cC,O6,PF]at h;simp at hi;subst hi;exact h.1
 |sz,v::vs,h,i+1,e,hi=>by simp only[cC,O6]at h;exact sh h.2 i e hi
 |_,[],_,i,e,hi=>by simp at hi
theorem DF{t t2 ty e:TypeId}{sz:Nat}{i:TypeInfo}{z:Value}{d2:TypeDesc}(T:C4 P t t2 sz e i z d2){x y v:PV}{cx cy:Value}{s:Nat}{h':Heap}
  (H:HR ah M h w)(hv:(jy sz x y s).run h=some (v,h'))(hx:VR ah M x cx)(hy:VR ah M y cy):OkR ah P M w (Builtin.append_ #[t,t2] ty #[cx,cy]) v h':=by
 unfold jy at hv;obtain⟨vs0,h1,he,hv2⟩:=HM.run_bind_some hv;clear hv;obtain⟨rfl,S⟩:=gU he H hy;have hv:=hv2;clear hv2;by_cases hs:cC sz vs0=true
 case neg=>rw[Pd hs]at hv;simp[HM.run]at hv
 rw[O9 hs]at hv;obtain⟨vs,h2,hm,hv3⟩:=HM.run_bind_some hv;clear hv;have hv:=hv3;clear hv3;obtain⟨hlen,news,hfc,hl,hone,hcells⟩:=cW (P:=P) S (sh hs) vs0.length (Pf _);obtain⟨M1,S1,H1,L1,N⟩:=Ax hm H (sh hs) hl hone (λi e j x hi hj=>hcells i e j x (by
  rcases Pt i vs0.length with z|z
  ·exact z
  ·rw[Ph z]at hi;cases hi) hi hj)
 refine OkR.after S1 ?_;have hx1:=hx.mono S1.le;rw[<-L1]at hlen hfc;by_cases hem:vs.isEmpty=true
 ·rw[O9 hem]at hv;have h0:vs=[]:=by simpa using hem
  subst h0;have hn0:news=[]:=by simpa using N.len
  subst hn0;have key:∀(b:Option Addr)(n cap:Nat),n<=cap->(Builtin.append_ #[t,t2] ty #[.slice b n cap,cy]).run P w=.ok (.slice b n cap) w:=by
   intro b n cap hle;have:=oe (P:=P) (w:=w) (ty:=ty) (base:=b) (sLen:=n) (sCap:=cap) T.ht T.h2 T.hni T.hi hlen (by rw[T.hsz];exact hfc w rfl) (by simpa using hle) (w':=w) (by
    cases b<;>simp[storeCells])
   simpa using this
  split at hv
  ·obtain⟨rfl,rfl⟩:=HM.run_ret_some hv;have:=hx1.nils_inv;subst this;exact OkR.pure H1 (key _ _ _ (Pf _)) hx1
  ·obtain⟨rfl,rfl⟩:=HM.run_ret_some hv;have hf:=hx1.lst_inv;cases hf with
   |lst _ _ a cap esz us g1 g2 g3 g4 g5=>exact OkR.pure H1 (key _ _ _ g1) hx1
  ·obtain⟨rfl,rfl⟩:=HM.run_ret_some hv;obtain⟨a,cap,rfl,hver,k2,k3,k4,k5⟩:=hx1.tok_inv;exact OkR.pure H1 (key _ _ _ (by omega)) hx1
  ·simp[HM.run]at hv
 ·rw[Pd hem]at hv;have hne:vs≠[]:=by simpa using hem
  split at hv
  ·have:=hx1.nils_inv;subst this;exact nF T H1 hv hne rfl N hlen hfc
  ·rename_i es c0;split at hv
   ·rename_i hc;have hf:=hx1.lst_inv;cases hf with
    |lst _ _ ad cap esz us g1 g2 g3 g4 g5=>
     have h0:es=[]:=by simpa using hc.2
     cases h0;exact nF T H1 hv hne (g2 hc.1) N hlen hfc
   ·simp[HM.run]at hv
  ·rename_i r ver z' off len room c0;split at hv
   ·split at hv
    ·rename_i hc0 hl0;subst hl0;obtain⟨a,cap,rfl,hver,k2,k3,k4,k5⟩:=hx1.tok_inv;exact nF T H1 hv hne (k4 hc0) N hlen hfc
    ·simp[HM.run]at hv
   ·rename_i hc0;split at hv
    ·rename_i hz;subst hz;have:c0=false:=by simpa using hc0
     subst this;exact yA T H1 hv hne hx1 N hlen hfc
    ·simp[HM.run]at hv
  ·simp[HM.run]at hv
end
section
variable{ah:Nat->FuncId}{P:Program}{M:Mp}{w:World}{h:Heap}
theorem HE{c a b v:PV}{cc ca cb:Value}{h':Heap}(hv:(vS c a b).run h=some (v,h'))(hc:VR ah M c cc)(ha:VR ah M a ca)(hb:VR ah M b cb):
  h'=h/\∃t,(∀w,(asBool cc).run P w=.ok t w)/\VR ah M v (if t then ca else cb):=by
 unfold vS at hv;split at hv
 ·obtain⟨rfl,rfl⟩:=HM.run_ret_some hv;have:=hc.bool_inv;subst this;exact⟨rfl,true,λw=>rfl,ha⟩
 ·obtain⟨rfl,rfl⟩:=HM.run_ret_some hv;have:=hc.bool_inv;subst this;exact⟨rfl,false,λw=>rfl,hb⟩
 ·simp[HM.run]at hv
theorem DN{x v:PV}{c:Value}{h':Heap}(hv:(jx x).run h=some (v,h'))(hx:VR ah M x c):
  h'=h/\v=x/\((∃a,c=.pointer (some a))∨∃f vs,c=.func (.func f) #[] vs):=by
 unfold jx at hv;split at hv
 ·obtain⟨rfl,rfl⟩:=HM.run_ret_some hv;obtain⟨a,rfl,_⟩:=hx.ptr_inv;exact⟨rfl,rfl,.inl ⟨a,rfl⟩⟩
 ·obtain⟨rfl,rfl⟩:=HM.run_ret_some hv;obtain⟨a,rfl⟩:=hx.lptr_inv;exact⟨rfl,rfl,.inl ⟨a,rfl⟩⟩
 ·obtain⟨rfl,rfl⟩:=HM.run_ret_some hv;obtain⟨vs,rfl,_⟩:=hx.fn_inv;exact⟨rfl,rfl,.inr ⟨_,vs,rfl⟩⟩
 ·simp[HM.run]at hv
theorem tc:∀{es:List PV}{l:List UInt8},eN es=some l->∃ns:List Int,es=ns.map (PV.int .u8)/\l=ns.map λn=>UInt8.ofNat n.toNat
 |[],l,h=>by simp[eN]at h;exact⟨[],rfl,h⟩
 | e::es,l,h=>by
  unfold eN at h;split at h
  ·rename_i h1;cases h1
  ·rename_i n vs h1;cases h1;split at h
   ·rename_i l' hl;obtain⟨ns,h1,h2⟩:=tc hl;simp only[O5]at h;exact⟨n::ns,by simp[h1],by rw[<-h,h2];rfl⟩
   ·cases h
  ·cases h
theorem Bq(ns:List Int)(r:ByteArray):ns.foldl (λr n=>r.push (UInt8.ofNat n.toNat)) r=⟨(r.data.toList++ns.map λn=>UInt8.ofNat n.toNat).toArray⟩:=by
 induction ns generalizing r with
 |nil=>simp
 |cons n ns ih=>rw[List.foldl_cons,ih];simp[ByteArray.push]
theorem JM{x v:PV}{c:Value}{h':Heap}(hv:(xc x).run h=some (v,h'))(H:HR ah M h w)(hx:VR ah M x c){src dst e:TypeId}
  (hs:P.underlying src=some (.slice e))(he:P.underlying e=some (.int .u8))(hd:P.underlying dst=some .string):
  h'=h/\∃u,(convert src dst c).run P w=.ok u w/\VR ah M v u:=by
 unfold xc at hv;by_cases hst:x.isStr=true
 ·rw[O9 hst]at hv;simp[HM.run]at hv
 rw[Pd hst]at hv;have hns:∀s,x≠ .str s:=λs e=>hst (by rw[e];rfl);obtain⟨es,h1,hel,hv2⟩:=HM.run_bind_some hv;obtain⟨rfl,S⟩:=gU hel H hx;cases hb:eN es with
 |none=>rw[hb]at hv2;simp[HM.run]at hv2
 | some l=>
  rw[hb]at hv2;obtain⟨rfl,rfl⟩:=HM.run_ret_some hv2;refine⟨rfl,?_⟩;obtain⟨ns,hes,rfl⟩:=tc hb;cases S with
  |none n cap h0=>
   have:ns=[]:=List.map_eq_nil_iff.1 hes.symm;subst this;exact⟨_,by rw[run_convert_bytes_string w src dst e none n cap hs he hd];rfl,.fr (.str [])⟩
  |empty a cap=>
   have:ns=[]:=List.map_eq_nil_iff.1 hes.symm;subst this;refine⟨.string ⟨#[]⟩,?_,.fr (.str [])⟩;rw[run_convert_bytes_string w src dst e a 0 cap hs he hd];cases a with
   |none=>rfl
   |some a=>rw[run_bytesToString w a 0 cap [] (by simp[loadCells,loadCellsFrom])];rfl
  | some ad cap sz _ us h hne=>
   subst hes;refine⟨_,?_,.fr (.str _)⟩;rw[run_convert_bytes_string w src dst e _ _ cap hs he hd,run_bytesToString w ad _ cap ns,Bq]
   ·rfl
   ·have hsz:sz=1:=by
     cases ns with
     |nil=>exact absurd rfl hne
     |cons n ns=>rw[<-h.len 0 (.int .u8 n) rfl];rfl
    subst hsz;have:=run_loadCells_list (P:=P) w ad (ns.map (Value.int .u8)) (λj v hj=>by
     rw[Pk]at hj;cases hn:ns[j]? with
     |none=>rw[hn]at hj;cases hj
     |some n=>
      rw[hn]at hj;simp only[Py,O5]at hj;subst hj;obtain⟨_,h3,h4⟩:=h.cell j (.int .u8 n) 0 (.int .u8 n) (by rw[Pk,hn];rfl) rfl;have h5:=h4.int_inv;rw[h5]at h3;simpa using h3)
    simpa using this
  |str s=>
   exfalso;unfold elems at hel;split at hel
   ·have:=hx.nils_inv;cases this
   ·have:=hx.lst_inv;cases this
   ·exact hns _ rfl
   ·obtain⟨a,cap,h9,_⟩:=hx.tok_inv;cases h9
   ·simp[HM.run]at hel
theorem Bu{sz s:Nat}{z n v:PV}{cn:Value}{h':Heap}(H:HR ah M h w)(hv:(kE sz z n s).run h=some (v,h'))(hn:VR ah M n cn){t e:TypeId}{i:TypeInfo}{zv:Value}
  (ht:P.underlying t=some (.slice e))(hi:P.info? e=some i)(hz:i.zero=some zv)(hsz:i.size=sz)(hb:i.bytes<=32768)(hzz:∀rd,FR ah rd z zv):OkR ah P M w (Instr.makeSlice t cn cn) v h':=by
 unfold kE at hv;split at hv
 case h_2=>simp[HM.run]at hv
 rename_i k n;by_cases hc:0<=n/\n<bG/\z.cells.length=sz/\aj z.cells
 case neg=>rw[Pd hc]at hv;simp[HM.run]at hv
 rw[O9 hc]at hv;obtain⟨c1,c2,c3,c4⟩:=hc;obtain⟨ver,h1,hbk,hv2⟩:=HM.run_bind_some hv;obtain⟨rfl,rfl⟩:=HM.run_ret_some hv2;have:=hn.int_inv;subst this;have hm:(n:Int)<2147483648:=by have:=c2;simp only[bG]at this;omega
 have hbytes:(i.bytes:Int)*n<=281474976710656:=by
  have h1:(i.bytes:Int)*n<=32768*n:=Int.mul_le_mul_of_nonneg_right (by omega) c1;omega
 have hrun:=run_make (P:=P) w t e i zv ht hi hz k k n n c1 (Int.le_refl _) hbytes (by omega);have hzs:=(hzz M.rd).cells_size;have hsize:(madeCells zv.cells (n.toNat*i.size)).size=n.toNat*sz:=by rw[size_madeCells,hsz]
 obtain⟨M',S',H',q1,q2⟩:=kF (t:=e) H hbk rfl (cs:=madeCells zv.cells (n.toNat*i.size)) (by rw[hsize];simp) (by rw[hsize];exact PA _ (by omega)) (by
  intro j x hj;rw[Qd]at hj;split at hj
  ·rename_i hjn;simp only[O5]at hj;subst hj;refine⟨c3,λk x hk=>⟨cI c4 hk,?_⟩⟩;obtain⟨u,h5,h6⟩:=(hzz M.rd).cells_at k x hk;have hks:k<sz:=by
    rw[<-c3];rcases Pt k z.cells.length with z|z
    ·exact z
    ·rw[Ph z]at hk;cases hk
   refine⟨u,?_,.fr h6⟩;have hlt:j*sz+k<n.toNat*i.size:=by
    have:(j+1)*sz<=n.toNat*sz:=PA _ hjn;rw[PL]at this;rw[hsz];omega
   have hmod:(j*sz+k) %zv.cells.size=k:=by
    rw[<-hzs,c3,Nat.add_comm,Nat.add_mul_mod_self_right,Nat.mod_eq_of_lt hks]
   have hkz:k<zv.cells.size:=by rw[<-hzs,c3];exact hks
   rw[Pv hkz]at h5;simp only[O5]at h5;simp only[PZ,madeCells];rw[Q6,Array.getElem?_range,O9 hlt];simp only[Py,hmod];rw[getElem!_pos zv.cells k hkz,h5]
  ·cases hj)
 exact⟨_,_,M',hrun,S',H',lC q1 q2 (Pf _) (Pf _) (by rw[hsize];exact Pf _)⟩
theorem vK{sz:Option Nat}:∀(vs:List PV)(A:List PV)(k:Nat),gy sz vs=true->A.length=k*jK sz->
  kW (A++List.replicate (vs.length*jK sz) .junk) ((vs.zipIdx k).map λp=>(p.2*jK sz,sz,p.1))=some (A++vs.flatMap PV.cells)
 |[],A,k,_,_=>by simp[kW]
 | v::vs,A,k,h,hA=>by
  simp only[gy,O6]at h;have hl:v.cells.length=jK sz:=by
   cases sz with
   |none=>cases v<;>first|rfl|(simp[PV.fits]at h;done)
   |some n=>cases v<;>first|(simp[PV.fits]at h;done)|(simpa[PV.fits,jK,PV.cells]using h.1.1)
  rw[List.zipIdx_cons,PM];simp only[kW];rw[O9 ⟨h.1.1,by rw[hl];simp only[Pu,Qz,PJ,hA,PL];omega⟩];have e1:(A++List.replicate ((v::vs).length*jK sz) PV.junk).take (k*jK sz)=A:=by rw[<-hA];simp
  have e2:(A++List.replicate ((v::vs).length*jK sz) PV.junk).drop (k*jK sz+v.cells.length)=List.replicate (vs.length*jK sz) PV.junk:=by
   rw[hl,<-hA,List.drop_append,List.drop_eq_nil_of_le (by omega)];simp only[Pi,PJ,List.drop_replicate,PL];congr 1;omega
  rw[e1,e2];have:=vK vs (A++v.cells) (k+1) h.2 (by rw[Pu,hA,hl,PL];omega);rw[this];simp[QI]
theorem AI{sz:Nat}:∀{vs:List PV}(_:∀(i:Nat)(e:PV),vs[i]?=some e->e.cells.length=sz)(i j:Nat)(e x:PV),vs[i]?=some e->e.cells[j]?=some x->(vs.flatMap PV.cells)[i*sz+j]?=some x
 |[],_,i,j,e,x,hi,_=>by simp at hi
 |v::vs,hs,0,j,e,x,hi,hj=>by
  simp only[Pg,O5]at hi;subst hi;rw[QI,Nat.zero_mul,PZ,Pz,hj];rcases Pt j v.cells.length with z|z
  ·exact z
  ·rw[Ph z]at hj;cases hj
 |v::vs,hs,i+1,j,e,x,hi,hj=>by
  have h0:=hs 0 v rfl;rw[QI,Pp (by rw[h0,PL];omega),h0];have:=AI (vs:=vs) (λi e h=>hs (i+1) e h) i j e x hi hj;rw[<-this];congr 1;rw[PL];omega
theorem oQ{sz:Option Nat}:∀{vs:List PV},gy sz vs=true->∀(i:Nat)(e:PV),vs[i]?=some e->e.fits sz=true/\aj e.cells=true
 |v::vs,h,0,e,hi=>by simp only[gy,O6]at h;simp at hi;subst hi;exact h.1
 |v::vs,h,i+1,e,hi=>by simp only[gy,O6]at h;exact oQ h.2 i e hi
 |[],_,i,e,hi=>by simp at hi
theorem wB{sz:Option Nat}{s:Nat}{vs:List PV}{cs:List Value}{v:PV}{h':Heap}(H:HR ah M h w)(hv:(dz sz vs s).run h=some (v,h'))
  {t e:TypeId}{i:TypeInfo}{zv:Value}(ht:P.underlying t=some (.slice e))(hse:ku P e sz=true)(hi:P.info? e=some i)(hz:i.zero=some zv)
  (hl:vs.length=cs.length)(hvs:∀(i:Nat)(e:PV)(u:Value),vs[i]?=some e->cs[i]?=some u->VR ah M e u)(hlen:cs.length*jK sz<=16777216):
  OkR ah P M w (Instr.buildSlice t cs.length (cs.zipIdx.map λp=>(p.2,p.1)).toArray) v h':=by
 unfold dz at hv;by_cases hc:gy sz vs=true
 case neg=>rw[Pd hc]at hv;simp[HM.run]at hv
 rw[O9 hc]at hv;obtain⟨ver,h1,hb,hv2⟩:=HM.run_bind_some hv;obtain⟨rfl,rfl⟩:=HM.run_ret_some hv2;have hrow:=vK (sz:=sz) vs [] 0 hc (by simp);simp only[Pi]at hrow;have hparts:∀(vs:List PV)(cs:List Value)(k:Nat),vs.length=cs.length->(∀(i:Nat)(e:PV)(u:Value),vs[i]?=some e->cs[i]?=some u->VR ah M e u)->
   qw ah M (λi=>some (i*jK sz,jK sz)) ((vs.zipIdx k).map λp=>(p.2*jK sz,sz,p.1)) ((cs.zipIdx k).map λp=>(p.2,p.1)):=by
  intro vs;induction vs with
  |nil=>intro cs k hl _;cases cs with
   |nil=>exact .nil
   |cons _ _=>cases hl
  | cons v vs ih=>intro cs k hl hr;cases cs with
   |nil=>cases hl
   |cons c cs=>
    simp only[List.zipIdx_cons,PM];exact .cons _ _ _ _ _ _ _ (hr 0 v c rfl rfl) rfl (ih cs (k+1) (by simpa using hl) (λi e u a b=>hr (i+1) e u a b))
 let Z:=if cs.length*jK sz=0 then(#[]:Array Value)else zv.cells
 obtain⟨R,hR,r1,r2⟩:=C8 (hparts vs cs 0 hl hvs) hrow (Z:=(Array.range (cs.length*jK sz)).map (Z[·%Z.size]!)) (by simp[hl]) (by
  intro i e u hi _;rw[Qd]at hi;split at hi
  ·simp only[O5]at hi;subst hi;exact .junk _
  ·cases hi)
 have hlens:∀(i:Nat)(e:PV),vs[i]?=some e->e.cells.length=jK sz:=by
  intro i e hi;have h9:=oQ hc i e hi;cases sz with
  |none=>cases e<;>first|rfl|(simp[PV.fits]at h9;done)
  |some n=>cases e<;>first|(simp[PV.fits]at h9;done)|(simpa[PV.fits,jK,PV.cells]using h9.1)
 have hflen:(vs.flatMap PV.cells).length=vs.length*jK sz:=by
  have:∀(vs:List PV),(∀(i:Nat)(e:PV),vs[i]?=some e->e.cells.length=jK sz)->(vs.flatMap PV.cells).length=vs.length*jK sz:=by
   intro vs;induction vs with
   |nil=>simp
   |cons v vs ih=>intro hh;rw[QI,Pu,ih (λi e h=>hh (i+1) e h),hh 0 v rfl,PJ,PL];omega
  exact this vs hlens
 obtain⟨M',S',H',q1,q2⟩:=kF (t:=e) H hb rfl (cs:=R) (by rw[<-r1,hflen];exact Pf _) (by
  rw[<-r1,hflen];show vs.length*jK sz<=9223372036854775807*jK sz;rcases Nat.eq_zero_or_pos (jK sz)with z|z
  ·rw[z];omega
  ·refine PA _ ?_;have:=Nat.le_mul_of_pos_right cs.length z;omega) (by
  intro i e hi;refine⟨hlens i e hi,λj x hj=>⟨cI (oQ hc i e hi).2 hj,?_⟩⟩;have h5:=AI hlens i j e x hi hj;have hlt:i*jK sz+j<R.size:=by
   rw[<-r1];rcases Pt (i*jK sz+j) (vs.flatMap PV.cells).length with z|z
   ·exact z
   ·rw[Ph z]at h5;cases h5
  refine⟨R[i*jK sz+j],?_,r2 _ _ _ h5 (Pv hlt)⟩;rw[PZ];exact Pv hlt)
 refine⟨.slice (some ⟨w.heap.size,0,none⟩) cs.length cs.length,w.alloc (.cells R e),M',?_,S',H',?_⟩
 ·unfold Instr.buildSlice;have hno:¬(cs.length*jK sz>2^24):=by simpa using hlen
  simp only[Sem.run_bind,br ht,Result.andThen_ok,i6 hse,Pd hno];have hR':Instr.fill (λi=>some (i*jK sz,jK sz)) ((Array.range (cs.length*jK sz)).map (Z[·%Z.size]!)) (cs.zipIdx.map λp=>(p.2,p.1))=some R:=hR;by_cases h0:cs.length*jK sz=0
  ·have hZ:Z= #[]:=O9 h0;rw[hZ]at hR';have e0:Array.range 0= #[]:=rfl;simp only[h0,e0,Array.map_empty]at hR';simp only[h0,e0,PQ,Sem.run_pure,Result.andThen_ok,Array.map_empty,hR',Sem.run_bind];simp[newRow]
  ·have hZ:Z=zv.cells:=Pd h0;rw[hZ]at hR';simp[h0,hR',newRow,zeroValue,typeInfo,hi,hz]
 ·rw[<-hl];exact lC q1 q2 (Pf _) (Pf _) (by show _*jK sz<=_;rw[<-r1,hflen];exact Pf _)
theorem Iv{x v:PV}{c:Value}{h':Heap}(hv:(y0 x).run h=some (v,h'))(H:HR ah M h w)(hx:VR ah M x c){src e:TypeId}(hs:P.underlying src=some (.slice e))(he:P.underlying e=some (.int .u8)):
  OkR ah P M w (convert src src c) v h':=by
 unfold y0 at hv;split at hv
 case h_2=>simp[HM.run]at hv
 rename_i r ver sz off len room c0;by_cases hl0:0<len/\sz=1
 case neg=>rw[Pd hl0]at hv;simp[HM.run]at hv
 rw[O9 hl0]at hv;obtain⟨b,h1,hb,hv2⟩:=HM.run_bind_some hv;obtain⟨rfl,hg⟩:=bh hb;by_cases hro:b.ro=false
 case neg=>rw[Pd hro]at hv2;simp[HM.run]at hv2
 rw[O9 hro]at hv2;obtain⟨rfl,rfl⟩:=HM.run_ret_some hv2;obtain⟨a,cap,rfl,hver,k2,k3,k4,k5⟩:=hx.tok_inv;obtain⟨loc,ca,ty,lo,hi,hl,B⟩:=H.live hg;obtain⟨e1,e2⟩:=k5 loc hl;rcases e2 with e2|⟨rfl,e2⟩
 ·omega
 have hlt:=B.lt;have hh:=B.heap
 let lo':=if lo==hi then ca.size else min lo ca.size
 let hi':=if lo==hi then ca.size+1 else max hi (ca.size+1)
 have hw:w.freeze ⟨loc.b,ca.size,none⟩ 1=gJ w loc.b (.cells ca ty (lo',hi')):=by
  unfold World.freeze gJ;rw[Pd (by decide)];congr 1;apply Array.ext_getElem?;intro k;by_cases hk:k=loc.b
  ·subst hk;rw[Array.getElem?_modify,O9 rfl,hh,Qh hlt];simp only[Py,lo',hi'];by_cases hlh:lo=hi
   ·subst hlh;simp
   ·simp[hlh]
  ·rw[Array.getElem?_modify,Pd (λe=>hk e.symm),Qe (λe=>hk e.symm)]
 have hfree:∀k,k<ca.size->¬(lo'<=k/\k<hi'):=by
  intro k hk;have hf:=B.free k hk;have hle:=B.lohi.1;simp only[lo',hi'];by_cases hlh:lo=hi
  ·subst hlh;simp;omega
  ·have h0:ca.size<=lo:=by
    rcases Pt lo ca.size with z|z
    ·exact absurd ⟨Pf _,by omega⟩ (B.free lo z)
    ·exact z
   simp[hlh];omega
 have hle':lo'<=hi':=by
  simp only[lo',hi'];have:=B.lohi.1;by_cases hlh:lo=hi
  ·subst hlh;simp
  ·simp[hlh];omega
 have hne:∀r' v' loc',r'≠r->M.io r' v'=some loc'->loc'.b≠loc.b:=λr' v' loc' hr h1 e=>hr (H.inj _ _ _ _ _ _ h1 hl e);have hrd:M.rd loc.b=none:=B.rw_ hro;refine⟨_,gJ w loc.b (.cells ca ty (lo',hi')),M,?_,?_,?_,hx⟩
 ·have hc:(convert src src (.slice (some ⟨loc.b,loc.base+off*sz,none⟩) len cap)).run P w=((markStringish ⟨loc.b,loc.base+off*sz,none⟩>>= λ_=>(Pure.pure (.slice (some ⟨loc.b,loc.base+off*sz,none⟩) len cap):Sem Value))).run P w:=by
   simp[convert,br hs,br he]
  rw[hc,Sem.run_bind];have hm:(markStringish ⟨loc.b,loc.base+off*sz,none⟩).run P w=.ok () (gJ w loc.b (.cells ca ty (lo',hi'))):=by
   rw[<-hw];unfold markStringish;simp[Go.shape,Go.freeze,Sem.run,World.shape?,hh]
  rw[hm];rfl
 ·exact⟨⟨.refl _,rfl,rfl,rfl,by simp[gJ],λk hk hn=>cE (λe=>hn ⟨r,ver,loc,hl,e.symm⟩),λk hk=>.inl hk,λk hk=>.inl hk⟩,.refl _⟩
 ·refine⟨H.cv,H.dom,H.has,H.out,λr' e' b' loc' q1 q2 q3=>?_,H.inj,λb1 vs q=>?_⟩
  ·by_cases hr:r'=r
   ·subst hr;rw[hg]at q1;cases q1;rw[hl]at q3;cases q3;simp only[O5]at q2;subst q2;exact⟨ca,ty,lo',hi',⟨gP hlt,B.sz,B.size,hfree,⟨hle',λq=>absurd (by rw[<-B.sz];exact e1.trans hl0.2) q,B.lohi.2.2⟩,B.fits,B.ro,B.rw_,B.cells⟩⟩
   ·obtain⟨c',t',l',u',B'⟩:=H.blk r' e' b' loc' q1 q2 q3;exact⟨c',t',l',u',⟨by rw[cE (hne _ _ _ hr q3)];exact B'.heap,B'.sz,B'.size,B'.free,B'.lohi,B'.fits,B'.ro,B'.rw_,B'.cells⟩⟩
  ·obtain⟨t1,fz,h2⟩:=H.rd b1 vs q;exact⟨t1,fz,by rw[cE (by intro e;subst e;rw[hrd]at q;cases q)];exact h2⟩
theorem tY{es:List PV}{c:Value}(S:oD ah M w es c)(sz:Nat):(∀w',(Builtin.lenOf c).run P w'=.ok es.length w')/\∀w':World,(Builtin.firstCells sz 0 c).run P w'=.ok #[] w':=by
 cases S with
 |none k cap hk=>subst hk;exact⟨λw'=>rfl,λw'=>by simp[Builtin.firstCells]⟩
 |empty a cap=>
  refine⟨λw'=>rfl,λw'=>?_⟩;cases a with
  |none=>simp[Builtin.firstCells]
  |some a=>simp[Builtin.firstCells,loadCells,loadCellsFrom]
 |some ad cap sz' _ us S hne=>exact⟨λw'=>rfl,λw'=>by simp[Builtin.firstCells,loadCells,loadCellsFrom]⟩
 | str s=>
  have hsz:(⟨s.toArray⟩:ByteArray).size=s.length:=by simp[ByteArray.size]
  refine⟨λw'=>by simp[Builtin.lenOf,hsz],λw'=>?_⟩;have:(⟨s.toArray⟩:ByteArray).extract 0 0=⟨#[]⟩:=by
   apply ByteArray.ext;simp[ByteArray.data_extract]
  simp only[Builtin.firstCells,this,Sem.run_pure];simp
theorem kD{t t2 ty e:TypeId}{i:TypeInfo}(hu:P.underlying t=some (.slice e))(hi:P.info? e=some i){base:Option Addr}{dLen dCap m:Nat}{src:Value}(hlen:∀w',(Builtin.lenOf src).run P w'=.ok m w')
  {news:List Value}(hf:(Builtin.firstCells i.size (Nat.min m dLen) src).run P w=.ok news.toArray w){w':World}(hst:(match base with|some a=>storeCells a news|none=>pure ():Sem Unit).run P w=.ok () w'):
  (Builtin.copy_ #[t,t2] ty #[.slice base dLen dCap,src]).run P w=.ok (goInt (Nat.min m dLen)) w':=by
 unfold Builtin.copy_;have e1:(#[t,t2]:Array TypeId)[0]?=some t:=rfl;have e3:(#[Value.slice base dLen dCap,src]:Array Value)[0]?=some (.slice base dLen dCap):=rfl;have e4:(#[Value.slice base dLen dCap,src]:Array Value)[1]?=some src:=rfl;simp only[e1,e3,e4];rw[Sem.run_bind,br hu];simp only[Result.andThen_ok];rw[Sem.run_bind,hlen];simp only[Result.andThen_ok];rw[Sem.run_bind,hI hi];simp only[Result.andThen_ok];rw[Sem.run_bind,hf];simp only[Result.andThen_ok];cases base with
 |none=>
  have:w=w':=by simpa using hst
  subst this;rfl
 |some a=>
  simp only at hst⊢;rw[Sem.run_bind,hst];rfl
theorem Hy{t t2 ty e:TypeId}{i:TypeInfo}{sz:Nat}(hu:P.underlying t=some (.slice e))(hi:P.info? e=some i)(hz:i.size=sz){x y v:PV}{cx cy:Value}{h':Heap}
  (H:HR ah M h w)(hv:(BU sz x y).run h=some (v,h'))(hx:VR ah M x cx)(hy:VR ah M y cy):OkR ah P M w (Builtin.copy_ #[t,t2] ty #[cx,cy]) v h':=by
 subst hz;unfold BU at hv;obtain⟨vs,h1,hes,hw⟩:=HM.run_bind_some hv;clear hv;have hv:=hw;clear hw;obtain⟨rfl,SR⟩:=gU hes H hy;obtain⟨hlen,hf0⟩:=tY (P:=P) SR i.size;have zero:∀{base:Option Addr}{dLen dCap:Nat},Nat.min vs.length dLen=0->(Builtin.copy_ #[t,t2] ty #[.slice base dLen dCap,cy]).run P w=.ok (goInt 0) w:=by
  intro base dLen dCap h0;have:=kD (P:=P) (w:=w) (t2:=t2) (ty:=ty) (base:=base) (dCap:=dCap) hu hi hlen (news:=[]) (dLen:=dLen) (by rw[h0];exact hf0 w) (w':=w) (by cases base<;>simp[storeCells]);rw[h0]at this;exact this
 cases x with
 | tok r ver z off len room c0=>
  obtain⟨a,cap,rfl,hver,k2,k3,k4,k5⟩:=hx.tok_inv;simp only at hv;by_cases hn:min vs.length len=0
  ·rw[O9 hn]at hv;obtain⟨rfl,rfl⟩:=HM.run_ret_some hv;exact⟨_,w,M,zero hn,.refl _ _,H,.fr (.int _ _)⟩
  ·rw[ Pd hn]at hv;obtain⟨b,h2,hb,hv3⟩:=HM.run_bind_some hv;obtain⟨rfl,hg⟩:=bh hb;split at hv3
   case isFalse=>simp[HM.run]at hv3
   rename_i hc;obtain⟨rfl,c2,c3,c4,c5⟩:=hc;obtain⟨e0,he0,hv4⟩:=bA hv3;obtain⟨rfl,rfl⟩:=HM.run_ret_some hv4;obtain⟨loc,ca,tb,lo,hi',hl,B⟩:=H.live hg;obtain⟨e1,e2⟩:=k5 loc hl;have hnl:min vs.length len<=vs.length:=Nat.min_le_left _ _;have hnr:min vs.length len<=len:=Nat.min_le_right _ _;rcases e2 with e2|⟨rfl,e2⟩
   ·omega
   have hs:∀(k:Nat)(e:PV),vs[k]?=some e->e.cells.length=i.size:=by
    intro k e' hk;have:=List.all_eq_true.1 c5 e' (Pl hk);simpa using this
   obtain⟨_,news,f1,f2,f3,f4⟩:=cW (P:=P) SR hs (min vs.length len) hnl;generalize hnn:min vs.length len=n at hn hnl hnr f1 f2 f3 f4;have hfit:=B.fits;rw[c2]at hfit;have hbound:loc.base+off*i.size+news.length<=ca.size:=by
    rw[f2];have:(off+n)*i.size<=b.es.length*i.size:=PA _ (by omega);rw[PL]at this;omega
   have hst:=ei (P:=P) loc.b (loc.base+off*i.size) tb lo hi' news 0 ca w B.heap (by omega) B.free f3;rw[Qp]at hst;have hrun:=kD (P:=P) (w:=w) (t2:=t2) (ty:=ty) (base:=some ⟨loc.b,loc.base+off*i.size,none⟩) (dCap:=cap) hu hi hlen (dLen:=len) (news:=news) (by
    show(Builtin.firstCells i.size (min vs.length len) cy).run P w=_;rw[hnn];exact f1 w rfl) hst
   have hl':(b.es.take off++vs.take n++b.es.drop (off+n)).length=b.es.length:=by simp;omega
   obtain⟨H',S'⟩:=H.write hg c4 (b':=⟨i.size,b.es.take off++vs.take n++b.es.drop (off+n),false⟩) rfl hl B c2.symm (c':=cF ca (loc.base+off*i.size) news) (da hbound) (by
    show loc.base+(b.es.take off++vs.take n++b.es.drop (off+n)).length*i.size<=_;rw[hl'];omega) (by
    intro k e' hk;have hk:(b.es.take off++vs.take n++b.es.drop (off+n))[k]?=some e':=hk;show e'.cells.length=i.size/\∀(j:Nat)(x:PV),e'.cells[j]?=some x->x.isCell=true/\∃u,(cF ca (loc.base+off*i.size) news)[loc.base+k*i.size+j]?=some u/\VR ah M x u;have hBc:=B.cells;rw[c2]at hBc;have old:∀(hk':b.es[k]?=some e')(hout:∀j,j<i.size->¬(loc.base+off*i.size<=loc.base+k*i.size+j/\loc.base+k*i.size+j<loc.base+off*i.size+news.length)),
      e'.cells.length=i.size/\∀(j:Nat)(x:PV),e'.cells[j]?=some x->x.isCell=true/\∃u,(cF ca (loc.base+off*i.size) news)[loc.base+k*i.size+j]?=some u/\VR ah M x u:=by
     intro hk' hout;obtain⟨g1,g2⟩:=hBc k e' hk';refine⟨g1,λj x hj=>⟨(g2 j x hj).1,?_⟩⟩;obtain⟨u,g3,g4⟩:=(g2 j x hj).2;refine⟨u,?_,g4⟩;have hjl:j<i.size:=by
      rw[<-g1];rcases Pt j e'.cells.length with z|z
      ·exact z
      ·rw[Ph z]at hj;cases hj
     rw[bQ hbound,Pd (hout j hjl),g3]
    rcases Pt k off with z|z
    ·rw[P6,Pz (by simp;omega),PN,O9 z]at hk;refine old hk (λj hj=>?_);have:(k+1)*i.size<=off*i.size:=PA _ z;rw[PL,Rl]at this;omega
    ·rcases Pt k (off+n)with z2|z2
     ·obtain⟨q,rfl⟩:∃q,k=off+q:=⟨k-off,by omega⟩;have hto:(b.es.take off).length=off:=by rw[Pw];omega
      rw[P6,Pp (by rw[hto];omega),hto,Pz (by simp;omega),PN,O9 (by omega)]at hk;rw[show off+q-off=q by omega]at hk;refine⟨hs q e' hk,λj x hj=>?_⟩;obtain⟨g1,u,g2,g3⟩:=f4 q e' j x (by omega) hk hj;refine⟨g1,u,?_,g3⟩;have hlt:q*i.size+j<news.length:=by
       rcases Pt (q*i.size+j) news.length with z|z
       ·exact z
       ·rw[Ph z]at g2;cases g2
      have hq:(off+q)*i.size=off*i.size+q*i.size:=PL _ _ _;rw[bQ hbound,O9 ⟨by omega,by omega⟩,<-g2];congr 1;omega
     ·have hto:(b.es.take off++vs.take n).length=off+n:=by rw[Pu,Pw,Pw];omega
      rw[Pp (by rw[hto];omega),hto,PP,show off+n+(k-(off+n))=k by omega]at hk;refine old hk (λj hj=>?_);have:(off+n)*i.size<=k*i.size:=PA _ z2;rw[PL]at this;rw[f2];omega)
   refine⟨_,_,M,hrun,S',H',?_⟩;have:Nat.min vs.length len=n:=hnn;rw[this];exact .fr (.int _ _)
 |nils=>
  obtain⟨rfl,rfl⟩:=HM.run_ret_some hv;have:=hx.nils_inv;subst this;exact⟨_,w,M,zero (Nat.min_eq_right (Qf _)),.refl _ _,H,.fr (.int _ _)⟩
 | lst es c0=>
  simp only at hv;split at hv
  case isFalse=>simp[HM.run]at hv
  rename_i hc;obtain⟨rfl,rfl⟩:=HM.run_ret_some hv;obtain⟨a,cap,rfl,_⟩:=hx.lst_inv.lst_inv;have h0:Nat.min vs.length es.length=0:=by
   simp only[Qt,Qk]at hc;rcases hc with rfl|rfl
   ·exact Nat.min_eq_left (Qf _)
   ·exact Nat.min_eq_right (Qf _)
  exact⟨_,w,M,zero h0,.refl _ _,H,.fr (.int _ _)⟩
 |_=>simp[HM.run]at hv
theorem Bw{t ty e:TypeId}{i:TypeInfo}{zv:Value}(hu:P.underlying t=some (.slice e))(hi:P.info? e=some i)(hz:i.zero=some zv){a:Addr}{len cap:Nat}(hl:len≠0){w':World}
  (hst:(storeCells a (Builtin.zeroCells zv.cells len).toList:Sem Unit).run P w=.ok () w'):(Builtin.clear_ #[t] ty #[.slice (some a) len cap]).run P w=.ok (.tuple #[]) w':=by
 unfold Builtin.clear_;have e1:(#[t]:Array TypeId)[0]?=some t:=rfl;have e2:(#[Value.slice (some a) len cap]:Array Value)[0]?=some (.slice (some a) len cap):=rfl;have hzr:∀w,(Go.zeroValue e).run P w=.ok zv w:=by intro w;simp[Go.zeroValue,re hi,hz]
 simp only[e1,e2];rw[Sem.run_bind,br hu];simp only[Result.andThen_ok];cases len with
 |zero=>exact absurd rfl hl
 |succ n=>
  rw[Sem.run_bind,hzr];simp only[Result.andThen_ok];rw[Sem.run_bind,hst];rfl
theorem qC{t ty e:TypeId}(hu:P.underlying t=some (.slice e)){a:Option Addr}{len cap:Nat}(hl:len=0∨a=none):(Builtin.clear_ #[t] ty #[.slice a len cap]).run P w=.ok (.tuple #[]) w:=by
 unfold Builtin.clear_;have e1:(#[t]:Array TypeId)[0]?=some t:=rfl;have e2:(#[Value.slice a len cap]:Array Value)[0]?=some (.slice a len cap):=rfl;simp only[e1,e2];rw[Sem.run_bind,br hu];simp only[Result.andThen_ok];cases a with
 |none=>rfl
 |some a=>
  rcases hl with rfl|h
  ·rfl
  ·cases h
theorem FM{t ty e:TypeId}{i:TypeInfo}{zv:Value}{z:PV}(hu:P.underlying t=some (.slice e))(hi:P.info? e=some i)(hz:i.zero=some zv)(hzz:∀rd,FR ah rd z zv){x v:PV}{cx:Value}{h':Heap}
  (H:HR ah M h w)(hv:(yE z x).run h=some (v,h'))(hx:VR ah M x cx):OkR ah P M w (Builtin.clear_ #[t] ty #[cx]) v h':=by
 unfold yE at hv;cases x with
 | tok r ver sz off len room c0=>
  obtain⟨a,cap,rfl,hver,k2,k3,k4,k5⟩:=hx.tok_inv;simp only at hv;by_cases hn:len=0
  ·rw[O9 hn]at hv;obtain⟨rfl,rfl⟩:=HM.run_ret_some hv;exact⟨_,w,M,qC hu (.inl hn),.refl _ _,H,.junk _⟩
  ·rw[ Pd hn]at hv;obtain⟨b,h2,hb,hv3⟩:=HM.run_bind_some hv;obtain⟨rfl,hg⟩:=bh hb;split at hv3
   case isFalse=>simp[HM.run]at hv3
   rename_i hc;obtain⟨c1,c2,c3,c4,c5⟩:=hc;obtain⟨e0,he0,hv4⟩:=bA hv3;obtain⟨rfl,rfl⟩:=HM.run_ret_some hv4;obtain⟨loc,ca,tb,lo,hi',hl,B⟩:=H.live hg;obtain⟨e1,e2⟩:=k5 loc hl;rcases e2 with e2|⟨rfl,e2⟩
   ·omega
   have F0:=hzz M.rd;have hzs:zv.cells.size=sz:=by rw[<-F0.cells_size];exact c1
   have hcell:∀(j:Nat)(y:PV),z.cells[j]?=some y->y.isCell=true/\∃u,zv.cells[j]?=some u/\FR ah M.rd y u:=by
    intro j y hj;obtain⟨u,g1,g2⟩:=F0.cells_at j y hj;refine⟨?_,u,g1,g2⟩;have:∀(l:List PV),aj l=true->∀y∈l,y.isCell=true:=by
     intro l;induction l with
     |nil=>intro _ y hy;cases hy
     |cons q qs ih=>
      intro h y hy;simp only[aj,O6]at h;rcases List.mem_cons.1 hy with rfl|hy
      ·exact h.1
      ·exact ih h.2 y hy
    exact this _ c2 y (Pl hj)
   generalize hnews:(Builtin.zeroCells zv.cells len).toList=news;have f2:news.length=len*sz:=by rw[<-hnews,QT,size_zeroCells,hzs]
   have fat:∀(q j:Nat),q<len->j<sz->news[q*sz+j]?=zv.cells[j]?:=by
    intro q j hq hj;have hlt:q*sz+j<len*sz:=by
     have:(q+1)*sz<=len*sz:=PA _ hq;rw[PL,Rl]at this;omega
    rw[<-hnews,QJ];unfold Builtin.zeroCells;rw[hzs,Q6,Array.getElem?_range];simp only[hlt,PQ,Py];have hmod:(q*sz+j) %sz=j:=by rw[Nat.mul_comm,Nat.mul_add_mod,Nat.mod_eq_of_lt hj]
    rw[hmod];have hj':j<zv.cells.size:=by omega
    rw[Pv hj',getElem!_pos zv.cells j hj']
   have f3:∀u∈news,u.oneCell'=true:=by
    intro u hu;obtain⟨k,hk,rfl⟩:=List.mem_iff_getElem.1 hu;have hs0:0<sz:=by
     rcases Nat.eq_zero_or_pos sz with h0|h0
     ·rw[h0,Nat.mul_zero]at f2;omega
     ·exact h0
    have hk2:k<len*sz:=by omega
    have hdiv:k/sz<len:=(Nat.div_lt_iff_lt_mul hs0).2 hk2;have hkk:=fat (k/sz) (k %sz) hdiv (Nat.mod_lt _ hs0);rw[show k/sz*sz+k %sz=k by rw[Nat.mul_comm];exact Nat.div_add_mod k sz,Pa hk]at hkk;have hjz:k %sz<z.cells.length:=by rw[c1];exact Nat.mod_lt _ hs0
    obtain⟨g0,u,g1,g2⟩:=hcell (k %sz) _ (Pa hjz);rw[g1]at hkk;simp only[O5]at hkk;rw[hkk];exact(VR.fr (M:=M) g2).isCell_one g0
   have hfit:=B.fits;rw[c3]at hfit;have hbound:loc.base+off*sz+news.length<=ca.size:=by
    rw[f2];have:(off+len)*sz<=b.es.length*sz:=PA _ (by omega);rw[PL]at this;omega
   have hst:=ei (P:=P) loc.b (loc.base+off*sz) tb lo hi' news 0 ca w B.heap (by omega) B.free f3;rw[Qp]at hst;have hrun:=Bw (P:=P) (w:=w) (ty:=ty) (cap:=cap) (a:=⟨loc.b,loc.base+off*sz,none⟩) hu hi hz hn (by rw[hnews];exact hst);have hl':(b.es.take off++List.replicate len z++b.es.drop (off+len)).length=b.es.length:=by simp;omega
   obtain⟨H',S'⟩:=H.write hg c5 (b':=⟨sz,b.es.take off++List.replicate len z++b.es.drop (off+len),false⟩) rfl hl B c3.symm (c':=cF ca (loc.base+off*sz) news) (da hbound) (by
    show loc.base+(b.es.take off++List.replicate len z++b.es.drop (off+len)).length*sz<=_;rw[hl'];omega) (by
    intro k e' hk;have hk:(b.es.take off++List.replicate len z++b.es.drop (off+len))[k]?=some e':=hk;show e'.cells.length=sz/\∀(j:Nat)(x:PV),e'.cells[j]?=some x->x.isCell=true/\∃u,(cF ca (loc.base+off*sz) news)[loc.base+k*sz+j]?=some u/\VR ah M x u;have hBc:=B.cells;rw[c3]at hBc;have old:∀(hk':b.es[k]?=some e')(hout:∀j,j<sz->¬(loc.base+off*sz<=loc.base+k*sz+j/\loc.base+k*sz+j<loc.base+off*sz+news.length)),
      e'.cells.length=sz/\∀(j:Nat)(x:PV),e'.cells[j]?=some x->x.isCell=true/\∃u,(cF ca (loc.base+off*sz) news)[loc.base+k*sz+j]?=some u/\VR ah M x u:=by
     intro hk' hout;obtain⟨g1,g2⟩:=hBc k e' hk';refine⟨g1,λj x hj=>⟨(g2 j x hj).1,?_⟩⟩;obtain⟨u,g3,g4⟩:=(g2 j x hj).2;refine⟨u,?_,g4⟩;have hjl:j<sz:=by
      rw[<-g1];rcases Pt j e'.cells.length with z|z
      ·exact z
      ·rw[Ph z]at hj;cases hj
     rw[bQ hbound,Pd (hout j hjl),g3]
    rcases Pt k off with y|y
    ·rw[P6,Pz (by simp;omega),PN,O9 y]at hk;refine old hk (λj hj=>?_);have:(k+1)*sz<=off*sz:=PA _ y;rw[PL,Rl]at this;omega
    ·rcases Pt k (off+len)with y2|y2
     ·obtain⟨q,rfl⟩:∃q,k=off+q:=⟨k-off,by omega⟩;have hto:(b.es.take off).length=off:=by rw[Pw];omega
      rw[P6,Pp (by rw[hto];omega),hto,Pz (by simp;omega),Qd,O9 (by omega)]at hk;simp only[O5]at hk;subst hk;refine⟨c1,λj x hj=>?_⟩;obtain⟨g0,u,g1,g2⟩:=hcell j x hj;refine⟨g0,u,?_,.fr g2⟩;have hjl:j<sz:=by
       rw[<-c1];rcases Pt j z.cells.length with y|y
       ·exact y
       ·rw[Ph y]at hj;cases hj
      have hq:(off+q)*sz=off*sz+q*sz:=PL _ _ _;have hfa:=fat q j (by omega) hjl;rw[g1]at hfa;have hlt:q*sz+j<news.length:=by
       rcases Pt (q*sz+j) news.length with y|y
       ·exact y
       ·rw[Ph y]at hfa;cases hfa
      rw[bQ hbound,O9 ⟨by omega,by omega⟩,<-hfa];congr 1;omega
     ·have hto:(b.es.take off++List.replicate len z).length=off+len:=by rw[Pu,Pw,Qz];omega
      rw[Pp (by rw[hto];omega),hto,PP,show off+len+(k-(off+len))=k by omega]at hk;refine old hk (λj hj=>?_);have:(off+len)*sz<=k*sz:=PA _ y2;rw[PL]at this;rw[f2];omega)
   exact⟨_,_,M,hrun,S',H',.junk _⟩
 |nils=>
  obtain⟨rfl,rfl⟩:=HM.run_ret_some hv;have:=hx.nils_inv;subst this;exact⟨_,w,M,qC hu (.inl rfl),.refl _ _,H,.junk _⟩
 |lst es c0=>
  simp only at hv;split at hv
  case isFalse=>simp[HM.run]at hv
  rename_i hc;obtain⟨rfl,rfl⟩:=HM.run_ret_some hv;obtain⟨a,cap,rfl,_⟩:=hx.lst_inv.lst_inv;have h0:es.length=0:=by simpa using hc
  exact⟨_,w,M,qC hu (.inl h0),.refl _ _,H,.junk _⟩
 |_=>simp[HM.run]at hv
end
theorem ed(f:aq->Nat->Option (aq×Nat)):∀cs:List PV,co f cs=cs.map (ren f)
 |[]=>rfl
 |x::xs=>by simp[co,ed f xs]
theorem rZ(f:aq->Nat->Option (aq×Nat))(v:PV):(ren f v).cells=v.cells.map (ren f):=by
 cases v with
 |agg cs=>simp[ren,PV.cells,ed]
 |tok r ver sz off len room c0=>cases h:f r ver<;>simp[ren,PV.cells,h]
 |ptr r ver i o=>cases h:f r ver<;>simp[ren,PV.cells,h]
 |_=>simp[ren,PV.cells]
theorem vL(f:aq->Nat->Option (aq×Nat))(v:PV):(ren f v).isCell=v.isCell:=by
 cases v with
 |tok r ver sz off len room c0=>cases h:f r ver<;>simp[ren,PV.isCell,h]
 |ptr r ver i o=>cases h:f r ver<;>simp[ren,PV.isCell,h]
 |_=>simp[ren,PV.isCell]
theorem oN{α:Type}{f:α->α}:∀{l:List α},(∀(i:Nat)(x:α),l[i]?=some x->f x=x)->l.map f=l
 |[],_=>rfl
 |x::xs,h=>by rw[PM,h 0 x rfl,oN (λi y hy=>h (i+1) y hy)]
theorem getElem?_lt{α:Type}{l:List α}{i:Nat}{x:α}(h:l[i]?=some x):i<l.length:=by
 rcases Pt i l.length with z|z
 ·exact z
 ·rw[Ph z]at h;cases h
section
variable{ah:Nat->FuncId}{P:Program}{M:Mp}{w:World}{h:Heap}
theorem FR.ren{rd:RD}(f:aq->Nat->Option (aq×Nat)){v:PV}{c:Value}(x:FR ah rd v c):ren f v=v:=by
 induction x with
 |agg cs vs h1 h2 ih=>
  simp only[Gv.ren,ed];rw[oN];intro i y hy;have:i<vs.size:=by rw[<-h1];exact getElem?_lt hy
  exact ih i y vs[i] hy (Pv this)
 |tup cs vs h1 h2 ih=>
  simp only[Gv.ren,ed];rw[oN];intro i y hy;have:i<vs.size:=by rw[<-h1];exact getElem?_lt hy
  exact ih i y vs[i] hy (Pv this)
 |fn f=>simp[Gv.ren,co]
 |_=>simp[Gv.ren]
structure xw (M M2:Mp) (f:aq->Nat->Option (aq×Nat)):Prop where
 rd:RdLe M.rd M2.rd
 some:∀r v r' v',v<=M.cv r->f r v=some (r',v')->v'<=M2.cv r'/\∀loc,M2.io r' v'=some loc->M.io r v=some loc
 dead:M2.io .dead 0=none
theorem VR.ren{M2:Mp}{f:aq->Nat->Option (aq×Nat)}(R:xw M M2 f){v:PV}{c:Value}(x:VR ah M v c):VR ah M2 (ren f v) c:=by
 induction x with
 |fr h=>rw[h.ren];exact .fr (h.mono ah R.rd)
 |junk c=>exact .junk c
 | tok r ver sz off len room c0 a cap hv h2 h3 h4 h5=>
  simp only[Gv.ren];cases hf:f r ver with
  |none=>exact .tok _ _ _ _ _ _ _ _ _ (Qf _) h2 h3 h4 (λloc hl=>by rw[R.dead]at hl;cases hl)
  |some p=>
   obtain⟨g1,g2⟩:=R.some r ver p.1 p.2 hv hf;exact .tok _ _ _ _ _ _ _ _ _ g1 h2 h3 h4 (λloc hl=>h5 loc (g2 loc hl))
 | ptr r ver i o a hv h=>
  simp only[Gv.ren];cases hf:f r ver with
  |none=>exact .ptr _ _ _ _ _ (Qf _) (λloc hl=>by rw[R.dead]at hl;cases hl)
  |some p=>
   obtain⟨g1,g2⟩:=R.some r ver p.1 p.2 hv hf;exact .ptr _ _ _ _ _ g1 (λloc hl=>h loc (g2 loc hl))
 |agg cs vs h1 h2 ih=>
  simp only[Gv.ren,ed];refine .agg _ _ (by simpa using h1) (λi e u hi hu=>?_);rw[Pk]at hi;cases hc:cs[i]? with
  |none=>rw[hc]at hi;cases hi
  |some y=>rw[hc]at hi;simp only[Py,O5]at hi;subst hi;exact ih i y u hc hu
 |tup cs vs h1 h2 ih=>
  simp only[Gv.ren,ed];refine .tup _ _ (by simpa using h1) (λi e u hi hu=>?_);rw[Pk]at hi;cases hc:cs[i]? with
  |none=>rw[hc]at hi;cases hi
  |some y=>rw[hc]at hi;simp only[Py,O5]at hi;subst hi;exact ih i y u hc hu
 |fn g cs vs h1 h2 ih=>
  simp only[Gv.ren,ed];refine .fn _ _ _ (by simpa using h1) (λi e u hi hu=>?_);rw[Pk]at hi;cases hc:cs[i]? with
  |none=>rw[hc]at hi;cases hi
  |some y=>rw[hc]at hi;simp only[Py,O5]at hi;subst hi;exact ih i y u hc hu
theorem CellsAt.ren{M2:Mp}{f:aq->Nat->Option (aq×Nat)}(R:xw M M2 f){c:Array Value}{base sz:Nat}{es:List PV}(x:CellsAt ah M c base sz es):CellsAt ah M2 c base sz (co f es):=by
 intro i e hi;rw[ed,Pk]at hi;cases hc:es[i]? with
 |none=>rw[hc]at hi;cases hi
 | some y=>
  rw[hc]at hi;simp only[Py,O5]at hi;subst hi;obtain⟨h1,h2⟩:=x i y hc;refine⟨by rw[rZ,PU];exact h1,λj z hj=>?_⟩;rw[rZ,Pk]at hj;cases hd:y.cells[j]? with
  |none=>rw[hd]at hj;cases hj
  |some t=>
   rw[hd]at hj;simp only[Py,O5]at hj;subst hj;obtain⟨h3,u,h4,h5⟩:=h2 j t hd;exact⟨by rw[vL];exact h3,u,h4,h5.ren R⟩
theorem BlkAt.ren{M2:Mp}{f:aq->Nat->Option (aq×Nat)}(R:xw M M2 f){loc:C3}{b:Blk}{c:Array Value}{t lo hi:Nat}(B:BlkAt ah M w loc b c t lo hi)
  (hn:b.ro=false->M2.rd loc.b=none):BlkAt ah M2 w loc (b.ren f) c t lo hi:=
 ⟨B.heap,B.sz,B.size,B.free,B.lohi,by show loc.base+(co f b.es).length*b.sz<=_;rw[ed,PU];exact B.fits,λq=>R.rd _ _ (B.ro q),hn,B.cells.ren R⟩
theorem VR.frozen:∀{v:PV}{c:Value},fN v=true->VR ah M v c->FR ah M.rd v c:=by
 intro v c hf x;induction x with
 |fr h=>exact h
 |junk c=>simp[fN]at hf
 |tok=>simp[fN]at hf
 |ptr=>simp[fN]at hf
 | agg cs vs h1 h2 ih=>
  have hall:∀(cs:List PV),dv cs=true->∀(i:Nat)(e:PV),cs[i]?=some e->fN e=true:=by
   intro cs;induction cs with
   |nil=>intro _ i e hi;simp at hi
   |cons x xs ih=>intro h i e hi;simp only[dv,O6]at h;cases i with
    |zero=>simp at hi;subst hi;exact h.1
    |succ i=>exact ih h.2 i e hi
  exact .agg cs vs h1 (λi e u a b=>ih i e u a b (hall cs hf i e a))
 | tup cs vs h1 h2 ih=>
  have hall:∀(cs:List PV),dv cs=true->∀(i:Nat)(e:PV),cs[i]?=some e->fN e=true:=by
   intro cs;induction cs with
   |nil=>intro _ i e hi;simp at hi
   |cons x xs ih=>intro h i e hi;simp only[dv,O6]at h;cases i with
    |zero=>simp at hi;subst hi;exact h.1
    |succ i=>exact ih h.2 i e hi
  exact .tup cs vs h1 (λi e u a b=>ih i e u a b (hall cs hf i e a))
 |fn g cs vs h1 h2 ih=>
  simp only[fN,Qk]at hf;subst hf;have:vs= #[]:=by simpa using h1.symm
  subst this;exact .fn g
theorem sW:∀{cs:List PV},dv cs=true->∀(i:Nat)(e:PV),cs[i]?=some e->fN e=true
 |x::xs,h,0,e,hi=>by simp only[dv,O6]at h;simp at hi;subst hi;exact h.1
 |x::xs,h,i+1,e,hi=>by simp only[dv,O6]at h;exact sW h.2 i e hi
 |[],_,i,e,hi=>by simp at hi
def sM(h:Heap)(l:List (aq×Nat×Blk)):Prop:=∀x∈l,h.get x.1=some ⟨x.2.1,some x.2.2⟩
def EB(M:Mp)(w:World)(rd:RD)(l:List (aq×Nat×Blk)):Prop:=
 ∀x∈l,∀loc ca t fz,M.io x.1 x.2.1=some loc->w.heap[loc.b]?=some (.cells ca t fz)->rd loc.b=some ca
theorem yG{n:Nat}(ih:∀{h h':Heap}{v:PV}{r:PV×List (aq×Nat×Blk)}{c:Value},(bR n v).run h=some (r,h')->HR ah M h w->VR ah M v c->
   h'=h/\sM h r.2/\∀M',M.le M'->EB M w M'.rd r.2->VR ah M' r.1 c):
  ∀{es:List PV}{r:List PV×List (aq×Nat×Blk)}{h h':Heap}{cs:Nat->Value},(qh (bR n) es).run h=some (r,h')->HR ah M h w->(∀i e,es[i]?=some e->VR ah M e (cs i))->
   h'=h/\sM h r.2/\r.1.length=es.length/\∀M',M.le M'->EB M w M'.rd r.2->∀(i:Nat)(e:PV),r.1[i]?=some e->VR ah M' e (cs i)
 |[],r,h,h',cs,hv,H,_=>by
  obtain⟨rfl,rfl⟩:=HM.run_ret_some hv;exact⟨rfl,λx hx=>by simp at hx,rfl,λM' _ _ i e hi=>by simp at hi⟩
 | e::es,r,h,h',cs,hv,H,hr=>by
  obtain⟨y,h1,hy,hv2⟩:=HM.run_bind_some hv;obtain⟨ys,h2,hys,hv3⟩:=HM.run_bind_some hv2;obtain⟨rfl,rfl⟩:=HM.run_ret_some hv3;obtain⟨rfl,L1,F1⟩:=ih hy H (hr 0 e rfl);obtain⟨rfl,L2,N2,F2⟩:=yG ih (cs:=λi=>cs (i+1)) hys H (λi e' hi=>hr (i+1) e' hi);refine⟨rfl,λx hx=>?_,by simp[N2],λM' le hk i e' hi=>?_⟩
  ·rcases List.mem_append.1 hx with z|z
   ·exact L1 x z
   ·exact L2 x z
  ·cases i with
   |zero=>
    simp only[Pg,O5]at hi;subst hi;exact F1 M' le (λx hx=>hk x (Pc _ hx))
   |succ i=>
    simp only[Qc]at hi;exact F2 M' le (λx hx=>hk x (O8 _ hx)) i e' hi
theorem qi:∀(n:Nat){h h':Heap}{v:PV}{r:PV×List (aq×Nat×Blk)}{c:Value},(bR n v).run h=some (r,h')->HR ah M h w->VR ah M v c->
   h'=h/\sM h r.2/\∀M',M.le M'->EB M w M'.rd r.2->VR ah M' r.1 c
 |0,h,h',v,r,c,hv,H,hx=>by simp[bR,HM.run]at hv
 | n+1,h,h',v,r,c,hv,H,hx=>by
  unfold bR at hv;cases v with
  | tok q ver sz off len room c0=>
   simp only at hv;obtain⟨a,cap,rfl,hver,k2,k3,k4,k5⟩:=hx.tok_inv;by_cases hl0:len=0
   ·rw[O9 hl0]at hv;obtain⟨rfl,rfl⟩:=HM.run_ret_some hv;subst hl0;exact⟨rfl,λx hx=>by simp at hx,λM' _ _=>.fr (.lst [] c0 a cap 0 (λ_ _=>undef) (by simp) k4 (by simp) (by simp) (by simp))⟩
   rw[Pd hl0]at hv;obtain⟨b,h1,hb,hv2⟩:=HM.run_bind_some hv;obtain⟨rfl,hg⟩:=bh hb;by_cases hc:off+len<=b.es.length/\b.sz=sz
   case neg=>rw[Pd hc]at hv2;simp[HM.run]at hv2
   rw[O9 hc]at hv2;obtain⟨es',h2,hes',hv3⟩:=HM.run_bind_some hv2;by_cases hfz:dv es'.1=true
   case neg=>rw[Pd hfz]at hv3;simp[HM.run]at hv3
   rw[O9 hfz]at hv3;obtain⟨rfl,rfl⟩:=HM.run_ret_some hv3;obtain⟨loc,ca,ty,lo,hi,hl,B⟩:=H.live hg;obtain⟨e1,e2⟩:=k5 loc hl;have hlen:((b.es.drop off).take len).length=len:=by simp;omega
   rcases e2 with e2|⟨rfl,e2⟩
   ·omega
   have hget:∀(i:Nat)(e:PV),((b.es.drop off).take len)[i]?=some e->b.es[off+i]?=some e:=by
    intro i e hi;rw[PN]at hi;split at hi
    ·rw[PP]at hi;exact hi
    ·cases hi
   have hat:∀(i:Nat)(e:PV)(j:Nat)(x:PV),((b.es.drop off).take len)[i]?=some e->e.cells[j]?=some x->
     x.isCell=true/\ca[loc.base+(off+i)*sz+j]?=some (ca.getD (loc.base+(off+i)*sz+j) undef)/\VR ah M x (ca.getD (loc.base+(off+i)*sz+j) undef):=by
    intro i e j x hi hj;obtain⟨q1,u,q2,q3⟩:=(B.cells _ _ (hget i e hi)).2 j x hj;rw[hc.2]at q2;exact⟨q1,by simp[q2],by simpa[q2]using q3⟩
   obtain⟨rfl,L1,N1,F1⟩:=yG (λa b c=>qi n a b c) (cs:=λi=>wU (((b.es.drop off).take len).getD i .junk) (λj=>ca.getD (loc.base+(off+i)*sz+j) undef)) hes' H (λi e hi=>by
    have hd:((b.es.drop off).take len).getD i .junk=e:=by simp[List.getD,hi]
    rw[hd];exact yH (λj x hj=>(hat i e j x hi hj).2.2))
   refine⟨rfl,λx hx=>?_,λM' le hk=>?_⟩
   ·rcases List.mem_cons.1 hx with rfl|z
    ·exact hg
    ·exact L1 x z
   ·have R2:M'.rd loc.b=some ca:=hk _ (Pj ..) loc ca ty (lo,hi) hl B.heap;have key:FR ah M'.rd (.lst es'.1 c0) (.slice (some ⟨loc.b,loc.base+off*sz,none⟩) es'.1.length cap):=by
     have F2:=F1 M' le (λx hx=>hk x (Pe _ hx));refine .lst es'.1 c0 _ cap sz (λi j=>ca.getD (loc.base+(off+i)*sz+j) undef) (by rw[N1,hlen];omega) k4 ?_ ?_ ?_
     all_goals
      intro i e'
      try intro j x
      intro hi;have hilt:i<((b.es.drop off).take len).length:=by rw[<-N1];exact getElem?_lt hi
      have he:((b.es.drop off).take len)[i]?=some ((b.es.drop off).take len)[i]:=Pa hilt;have hF:=(F2 i e' hi).frozen (sW hfz i e' hi);have hd:((b.es.drop off).take len).getD i .junk=((b.es.drop off).take len)[i]:=by simp[List.getD,he]
      rw[hd]at hF;have hone:(∀cs,((b.es.drop off).take len)[i]≠ .agg cs)->(ca.getD (loc.base+(off+i)*sz+0) undef).oneCell'=true:=by
       intro hna;have hcl:((b.es.drop off).take len)[i].cells=[((b.es.drop off).take len)[i]]:=by
        cases hh:((b.es.drop off).take len)[i]<;>first|rfl|exact absurd hh (hna _)
       have h00:=hat i _ 0 ((b.es.drop off).take len)[i] he (by rw[hcl];rfl);exact h00.2.2.isCell_one h00.1
      have hsize:=rX (e:=((b.es.drop off).take len)[i]) (u:=λj=>ca.getD (loc.base+(off+i)*sz+j) undef) hone;have hlcells:((b.es.drop off).take len)[i].cells.length=sz:=by rw[(B.cells _ _ (hget i _ he)).1,hc.2]
     ·rw[hF.cells_size,hsize,hlcells]
     ·intro hj;obtain⟨u,h5,h6⟩:=hF.cells_at j x hj;have hjlt:j<((b.es.drop off).take len)[i].cells.length:=by rw[<-hsize,<-hF.cells_size];exact getElem?_lt hj
      rw[kX j hjlt hone]at h5;simp only[O5]at h5;obtain⟨g1,g2,g3⟩:=hat i _ j _ he (Pa hjlt);refine⟨h6.isCell (by rw[<-h5];exact g3.isCell_one g1),rfl,ca,R2,?_⟩;rw[<-g2];show ca[loc.base+off*sz+(i*sz+j)]?=_;congr 1;rw[PL];omega
     ·intro hj;obtain⟨u,h5,h6⟩:=hF.cells_at j x hj;have hjlt:j<((b.es.drop off).take len)[i].cells.length:=by rw[<-hsize,<-hF.cells_size];exact getElem?_lt hj
      rw[kX j hjlt hone]at h5;simp only[O5]at h5;rw[h5];exact h6
    rw[N1,hlen]at key;exact .fr key
  | agg cs=>
   simp only at hv;obtain⟨cs',h2,hm,hv2⟩:=HM.run_bind_some hv;obtain⟨rfl,rfl⟩:=HM.run_ret_some hv2;obtain⟨vs,rfl,g1,g2⟩:=hx.agg_inv;obtain⟨rfl,L1,N1,F1⟩:=yG (λa b c=>qi n a b c) (cs:=λi=>vs.getD i undef) hm H (λi e hi=>by
    have hlt:i<vs.size:=by rw[<-g1];exact getElem?_lt hi
    have:=g2 i e vs[i] hi (Pv hlt);simpa[hlt]using this)
   refine⟨rfl,L1,λM' le hk=>.agg _ _ (by rw[N1];exact g1) (λi e u hi hu=>?_)⟩;have:=F1 M' le hk i e hi;simpa[hu]using this
  |_=>
   simp only at hv;obtain⟨rfl,rfl⟩:=HM.run_ret_some hv;exact⟨rfl,λx hx=>by simp at hx,λM' le _=>hx.mono le⟩
theorem rV:∀{ro:List Bool}{vs:List PV}{r:List PV×List (aq×Nat×Blk)}{h h':Heap}{cs:Nat->Value},(ew ro vs).run h=some (r,h')->HR ah M h w->(∀i e,vs[i]?=some e->VR ah M e (cs i))->
   h'=h/\sM h r.2/\r.1.length=vs.length/\∀M',M.le M'->EB M w M'.rd r.2->∀(i:Nat)(e:PV),r.1[i]?=some e->VR ah M' e (cs i)
 |[],vs,r,h,h',cs,hv,H,hr=>by
  unfold ew at hv;obtain⟨rfl,rfl⟩:=HM.run_ret_some hv;exact⟨rfl,λx hx=>by simp at hx,rfl,λM' le _ i e hi=>(hr i e hi).mono le⟩
 |b::bs,[],r,h,h',cs,hv,H,hr=>by
  have:ew (b::bs) []=.ret ([],[]):=by cases b<;>rfl
  rw[this]at hv;obtain⟨rfl,rfl⟩:=HM.run_ret_some hv;exact⟨rfl,λx hx=>by simp at hx,rfl,λM' le _ i e hi=>(hr i e hi).mono le⟩
 | true::bs,v::vs,r,h,h',cs,hv,H,hr=>by
  simp only[ew]at hv;obtain⟨y,h1,hy,hv2⟩:=HM.run_bind_some hv;obtain⟨ys,h2,hys,hv3⟩:=HM.run_bind_some hv2;obtain⟨rfl,rfl⟩:=HM.run_ret_some hv3;obtain⟨rfl,L1,F1⟩:=qi 9 hy H (hr 0 v rfl);obtain⟨rfl,L2,N2,F2⟩:=rV (cs:=λi=>cs (i+1)) hys H (λi e' hi=>hr (i+1) e' hi);refine⟨rfl,λx hx=>?_,by simp[N2],λM' le hk i e' hi=>?_⟩
  ·rcases List.mem_append.1 hx with z|z
   ·exact L1 x z
   ·exact L2 x z
  ·cases i with
   |zero=>
    simp only[Pg,O5]at hi;subst hi;exact F1 M' le (λx hx=>hk x (Pc _ hx))
   |succ i=>
    simp only[Qc]at hi;exact F2 M' le (λx hx=>hk x (O8 _ hx)) i e' hi
 | false::bs,v::vs,r,h,h',cs,hv,H,hr=>by
  simp only[ew]at hv;obtain⟨ys,h2,hys,hv3⟩:=HM.run_bind_some hv;obtain⟨rfl,rfl⟩:=HM.run_ret_some hv3;obtain⟨rfl,L2,N2,F2⟩:=rV (cs:=λi=>cs (i+1)) hys H (λi e' hi=>hr (i+1) e' hi);refine⟨rfl,L2,by simp[N2],λM' le hk i e' hi=>?_⟩;cases i with
  |zero=>
   simp only[Pg,O5]at hi;subst hi;exact(hr 0 _ rfl).mono le
  |succ i=>
   simp only[Qc]at hi;exact F2 M' le hk i e' hi
theorem gK:∀(n:Nat){todo:List (aq×Nat)}{acc bor:List (aq×Nat×Blk)}{h h':Heap},(gx n todo acc).run h=some (bor,h')->sM h acc->acc.Pairwise (λx y=>x.1≠y.1)->
  h'=h/\sM h bor/\bor.Pairwise (λx y=>x.1≠y.1)
 |0,todo,acc,bor,h,h',hv,_,_=>by simp[gx,HM.run]at hv
 |n+1,[],acc,bor,h,h',hv,hL,hP=>by
  simp only[gx]at hv;obtain⟨rfl,rfl⟩:=HM.run_ret_some hv;exact⟨rfl,hL,hP⟩
 | n+1,(r,v)::rest,acc,bor,h,h',hv,hL,hP=>by
  simp only[gx]at hv;split at hv
  ·exact gK n hv hL hP
  rename_i hany;split at hv
  ·exact gK n hv hL hP
  simp only[HM.run]at hv;cases hg:h.get r with
  |none=>rw[hg]at hv;cases hv
  | some e=>
   rw[hg]at hv;simp only at hv;cases hb:e.blk with
   |none=>rw[hb]at hv;exact gK n hv hL hP
   | some b=>
    rw[hb]at hv;simp only at hv;split at hv
    ·rename_i hev;have hg':h.get r=some ⟨v,some b⟩:=by rw[hg,<-hev,<-hb]
     refine gK n hv (λx hx=>?_) ?_
     ·rcases List.mem_append.1 hx with z|z
      ·exact hL x z
      ·simp only[Px]at z;subst z;exact hg'
     ·rw[List.pairwise_append];refine⟨hP,List.pairwise_singleton ..,λx hx y hy=>?_⟩;simp only[Px]at hy;subst hy;intro he;apply hany;rw[List.any_eq_true];refine⟨x,hx,?_⟩;have h1:=hL x hx;simp only at he;rw[he,hg']at h1;simp only[O5,fg.mk.injEq]at h1;simp[he,h1.1]
    ·exact gK n hv hL hP
theorem dN{r:aq}{v:Nat}:∀{l:List (aq×Nat×Blk)}{k j:Nat},fV r v l k=some j->∃i b,j=k+i/\l[i]?=some (r,v,b)
 |[],k,j,h=>by simp[fV]at h
 | (r',v',b)::rest,k,j,h=>by
  simp only[fV]at h;split at h
  ·rename_i hc;obtain⟨rfl,rfl⟩:=hc;simp only[O5]at h;exact⟨0,b,by omega,rfl⟩
  ·obtain⟨i,b',h1,h2⟩:=dN h;exact⟨i+1,b',by omega,h2⟩
theorem ri{r:aq}{v:Nat}{b:Blk}:∀{l:List (aq×Nat×Blk)}{k i:Nat},l[i]?=some (r,v,b)->fV r v l k≠none
 |[],k,i,h=>by simp at h
 | (r',v',b')::rest,k,i,h=>by
  simp only[fV];split
  ·simp
  ·rename_i hc;cases i with
   |zero=>simp only[Pg,O5,Pq]at h;exact absurd ⟨h.1,h.2.1⟩ hc
   |succ i=>exact ri (by simpa using h)
theorem dV{l:List (aq×Nat×Blk)}(hP:l.Pairwise (λx y=>x.1≠y.1)){i j:Nat}{x y:aq×Nat×Blk}(hi:l[i]?=some x)(hj:l[j]?=some y)(he:x.1=y.1):i=j:=by
 have li:=getElem?_lt hi;have lj:=getElem?_lt hj;rw[Pa li]at hi;rw[Pa lj]at hj;simp only[O5]at hi hj;rw[List.pairwise_iff_getElem]at hP;rcases Nat.lt_trichotomy i j with z|z|z
 ·exact absurd (by rw[hi,hj];exact he) (hP i j li lj z)
 ·exact z
 ·exact absurd (by rw[hi,hj];exact he.symm) (hP j i lj li z)
end
section
variable{ah:Nat->FuncId}{P:Program}{M:Mp}{w:World}{h:Heap}
theorem HR.setro{r:aq}{ver:Nat}{b:Blk}(H:HR ah M h w)(hg:h.get r=some ⟨ver,some b⟩){loc:C3}{c:Array Value}{t lo hi:Nat}(hl:M.io r ver=some loc)
  (B:BlkAt ah M w loc b c t lo hi):
  let M':Mp:=⟨λx=>if x=loc.b then some c else M.rd x,M.io,M.cv⟩
  HR ah M' (h.put r ⟨ver,some ⟨b.sz,b.es,true⟩⟩) w/\Stp M w M' w:=by
 intro M';have hne:∀r' v' loc',r'≠r->M.io r' v'=some loc'->loc'.b≠loc.b:=λr' v' loc' hr h1 e=>hr (H.inj _ _ _ _ _ _ h1 hl e);have hrd:RdLe M.rd M'.rd:=by
  intro x vs hx;show(if x=loc.b then some c else M.rd x)=some vs;by_cases hxb:x=loc.b
  ·subst hxb;rw[O9 rfl];cases hro:b.ro with
   |true=>rw[B.ro hro]at hx;exact hx
   |false=>rw[B.rw_ hro]at hx;cases hx
  ·rw[Pd hxb];exact hx
 have le:M.le M':=⟨hrd,λ_=>Pf _,λ_ _ _=>.inl rfl⟩;have hcv:M.cv r=ver:=H.cv _ _ hg;refine⟨H.upd hg (by intro i hi;subst hi;have:=Heap.ver_a hg;exact this) le (λ_ _=>rfl) (λ_ _=>rfl) hcv (λv hv=>⟨(H.dom _ _ _ hg hv).1,by simp⟩)
  (λ_=>by show M.io r ver≠none;rw[hl];simp) ?_ (λv l r' v' l' hr h1 h2 e=>hr (H.inj _ _ _ _ _ _ h2 h1 e.symm)) ?_ ?_,?_⟩
 ·intro b1 loc1 h1 h2;simp only[O5]at h1;subst h1;have h2':M.io r ver=some loc1:=h2;rw[hl]at h2';cases h2';exact⟨c,t,lo,hi,⟨B.heap,B.sz,B.size,B.free,B.lohi,B.fits,λ_=>by show(if loc.b=loc.b then _ else _)=_;rw[O9 rfl],λq=>(by cases q),B.cells.mono le⟩⟩
 ·intro r' v' loc' hr h1;refine⟨rfl,?_⟩;show(if loc'.b=loc.b then some c else M.rd loc'.b)=_;rw[Pd (hne _ _ _ hr h1)]
 ·intro b1 vs h1;have h1':(if b1=loc.b then some c else M.rd b1)=some vs:=h1;by_cases hb:b1=loc.b
  ·subst hb;rw[O9 rfl]at h1';cases h1';exact⟨t,_,B.heap⟩
  ·rw[Pd hb]at h1';exact H.rd _ _ h1'
 ·refine⟨⟨hrd,rfl,rfl,rfl,Pf _,λ_ _ _=>rfl,λk hk=>.inl hk,λk hk=>?_⟩,le⟩;have hk':(if k=loc.b then some c else M.rd k)≠none:=hk;by_cases hb:k=loc.b
  ·subst hb;exact .inr (.inl (dx hl))
  ·rw[Pd hb]at hk';exact .inl hk'
theorem uL:∀(l:List (aq×Nat×Blk)){M:Mp}{h:Heap},HR ah M h w->(∀x∈l,∃q,(x.2.2.ro=true->q=true)/\h.get x.1=some ⟨x.2.1,some ⟨x.2.2.sz,x.2.2.es,q⟩⟩)->
  ∃h1 M1,(pZ l).run h=some ((),h1)/\Stp M w M1 w/\HR ah M1 h1 w/\M1.io=M.io/\M1.cv=M.cv/\EB M w M1.rd l/\∀r,(∀x∈l,x.1≠r)->h1.get r=h.get r
 |[],M,h,H,_=>⟨h,M,rfl,.refl _ _,H,rfl,rfl,λx hx=>by simp at hx,λ_ _=>rfl⟩
 | x::l,M,h,H,hL=>by
  obtain⟨q,hq,hg⟩:=hL x (Pj ..);obtain⟨loc,ca,ty,lo,hi,hl,B⟩:=H.live hg;cases hxr:x.2.2.ro with
  | true=>
   obtain⟨h2,M2,e1,e2,e3,e4,e5,e6,e7⟩:=uL l H (λy hy=>hL y (Pe _ hy));refine⟨h2,M2,?_,e2,e3,e4,e5,?_,λr hr=>e7 r (λy hy=>hr y (Pe _ hy))⟩
   ·show(if x.2.2.ro=true then pZ l else _:HM Unit).run h=_;rw[O9 hxr];exact e1
   ·intro y hy loc' ca' t fz h1 h2;rcases List.mem_cons.1 hy with rfl|z
    ·rw[hl]at h1;cases h1;rw[B.heap]at h2;simp only[O5,Obj.cells.injEq]at h2;rw[<-h2.1];exact e2.rd _ _ (B.ro (hq hxr))
    ·exact e6 y z loc' ca' t fz h1 h2
  |false=>
  obtain⟨H1,S1⟩:=H.setro hg hl B;have hgp:(h.put x.1 ⟨x.2.1,some ⟨x.2.2.sz,x.2.2.es,true⟩⟩).get x.1=some ⟨x.2.1,some ⟨x.2.2.sz,x.2.2.es,true⟩⟩:=
   Heap.get_put_same hg (by intro i hi;have:=hg;rw[hi]at this;have h9:=Heap.ver_a this;exact h9)
  obtain⟨h2,M2,e1,e2,e3,e4,e5,e6,e7⟩:=uL l H1 (λy hy=>by
   obtain⟨q',hqy,hy'⟩:=hL y (Pe _ hy);by_cases hxy:y.1=x.1
   ·rw[hxy,hg]at hy';simp only[O5,fg.mk.injEq,Blk.mk.injEq]at hy';exact⟨true,λ_=>rfl,by rw[hxy,hgp,hy'.1,hy'.2.1,hy'.2.2.1]⟩
   ·exact⟨q',hqy,by rw[Heap.get_put_other hxy];exact hy'⟩)
  refine⟨h2,M2,?_,S1.trans e2,e3,e4,e5,?_,?_⟩
  ·show(if x.2.2.ro=true then pZ l else HM.set x.1 ⟨x.2.1,some ⟨x.2.2.sz,x.2.2.es,true⟩⟩ (pZ l):HM Unit).run h=_;rw[Pd (by rw[hxr];simp)];show(match h.get x.1 with|some _=>_|none=>none)=_;rw[hg];exact e1
  ·intro y hy loc' ca' t fz h1 h2;rcases List.mem_cons.1 hy with rfl|z
   ·rw[hl]at h1;cases h1;rw[B.heap]at h2;simp only[O5,Obj.cells.injEq]at h2;rw[<-h2.1];exact e2.rd _ _ (by show(if loc.b=loc.b then _ else _)=_;rw[O9 rfl])
   ·exact e6 y z loc' ca' t fz h1 h2
  ·intro r hr;rw[e7 r (λy hy=>hr y (Pe _ hy)),Heap.get_put_other (λe=>hr x (Pj ..) e.symm)]
def fX(M:Mp)(bor:List (aq×Nat×Blk)):Mp:=
 ⟨M.rd,λr v=>match r with
  |.a i=>if v=0 then(match bor[i]? with|some x=>M.io x.1 x.2.1|none=>none)else none
  |_=>none,λ_=>0⟩
theorem dI{bor:List (aq×Nat×Blk)}{r:aq}{v:Nat}{loc:C3}(hl:(fX M bor).io r v=some loc):∃i x,r=.a i/\v=0/\bor[i]?=some x/\M.io x.1 x.2.1=some loc:=by
 cases r with
 | a i=>
  simp only[fX]at hl;split at hl
  ·rename_i hv;split at hl
   ·rename_i x hx;exact⟨i,x,rfl,hv,hx,hl⟩
   ·cases hl
  ·cases hl
 |l s=>simp[fX]at hl
 |dead=>simp[fX]at hl
theorem AM{bor:List (aq×Nat×Blk)}:xw M (fX M bor) (cU bor) where
 rd:=.refl _
 some r v r' v' hv hf:=by
  unfold cU at hf;cases hi:fV r v bor 0 with
  |none=>rw[hi]at hf;cases hf
  |some i=>
   rw[hi]at hf;simp only[O5,Pq]at hf;obtain⟨rfl,rfl⟩:=hf;refine⟨Qf _,λloc hl=>?_⟩;obtain⟨j,b,e,hj⟩:=dN hi;obtain⟨i',x,h1,_,h2,h3⟩:=dI hl;cases h1;have:i=j:=by omega
   subst this;rw[hj]at h2;cases h2;exact h3
 dead:=rfl
theorem vH{bor:List (aq×Nat×Blk)}{b:Nat}(ho:own (fX M bor) b):own M b:=by
 obtain⟨r,v,loc,hl,rfl⟩:=ho;obtain⟨i,x,_,_,_,h⟩:=dI hl;exact dx h
theorem HU{bor:List (aq×Nat×Blk)}(H:HR ah M h w)(hL:sM h bor)(hP:bor.Pairwise (λx y=>x.1≠y.1)):
  HR ah (fX M bor) ⟨(bor.map λx=>x.2.2.ren (cU bor)).map some,[]⟩ w:=by
 have hget:∀(r:aq)(e:fg),(⟨(bor.map λx=>x.2.2.ren (cU bor)).map some,[]⟩:Heap).get r=some e->∃i x,r=.a i/\bor[i]?=some x/\e=⟨0,some (x.2.2.ren (cU bor))⟩:=by
  intro r e he;cases r with
  |a i=>
   simp only[Heap.get,Pk]at he;cases hx:bor[i]? with
   |none=>rw[hx]at he;cases he
   |some x=>rw[hx]at he;simp only[Py,O5]at he;exact⟨i,x,rfl,hx,he.symm⟩
  |l s=>simp[Heap.get]at he
  |dead=>simp[Heap.get]at he
 refine⟨?_,?_,?_,?_,?_,?_,H.rd⟩
 ·intro r e he;obtain⟨i,x,rfl,_,rfl⟩:=hget r e he;rfl
 ·intro r e v he hn;obtain⟨i,x,rfl,hx,rfl⟩:=hget r e he;cases hl:(fX M bor).io (.a i) v with
  |none=>exact absurd hl hn
  |some loc=>obtain⟨_,_,_,h1,_⟩:=dI hl;exact⟨h1,by simp⟩
 ·intro r e he _;obtain⟨i,x,rfl,hx,rfl⟩:=hget r e he;obtain⟨loc,ca,ty,lo,hi,hl,B⟩:=H.live (hL x (Pl hx));have:(fX M bor).io (.a i) 0=some loc:=by simp[fX,hx,hl]
  show(fX M bor).io (.a i) 0≠none;rw[this];simp
 ·intro r v he;cases hl:(fX M bor).io r v with
  |none=>rfl
  |some loc=>
   obtain⟨i,x,rfl,_,hx,_⟩:=dI hl;simp[Heap.get,Pk,hx]at he
 ·intro r e b loc he hb hl;obtain⟨i,x,rfl,hx,rfl⟩:=hget r e he;simp only[O5]at hb;subst hb;obtain⟨i',x',h1,_,h2,h3⟩:=dI hl;cases h1;rw[hx]at h2;cases h2;obtain⟨loc',ca,ty,lo,hi,hl',B⟩:=H.live (hL x (Pl hx));rw[hl']at h3;cases h3;exact⟨ca,ty,lo,hi,B.ren AM (λq=>B.rw_ q)⟩
 ·intro r v loc r' v' loc' h1 h2 hb;obtain⟨i,x,rfl,rfl,hx,hx'⟩:=dI h1;obtain⟨j,y,rfl,rfl,hy,hy'⟩:=dI h2;have:=H.inj _ _ _ _ _ _ hx' hy' hb;rw[dV hP hx hy this]
def iX(P:Program)(ah:Nat->FuncId)(C:cG):Prop:=
 ∀(f:Nat)(args:List PV)(G0:List Blk)(r:PV)(G:List (Option Blk))(M:Mp)(w:World)(cargs:Array Value),C f args G0=some (r,G)->HR ah M ⟨G0.map some,[]⟩ w->(∀r,M.cv r=0)->args.length=cargs.size->
  (∀(i:Nat)(e:PV)(u:Value),args[i]?=some e->cargs[i]?=some u->VR ah M e u)->
  Calls P (ah f) cargs w λe w'=>∃c M',e=.returned c/\StpI M w M' w'/\HR ah M' ⟨G.take G0.length,(G.drop G0.length).map λb=>⟨0,b⟩⟩ w'/\VR ah M' r c/\
   (∀i,M'.io (.a i) 0=M.io (.a i) 0∨M'.io (.a i) 0=none)
theorem uy:∀(n:Nat){s:Nat}{nv:List Nat}{h h':Heap},(pC s n).run h=some (nv,h')->h'=h/\nv.length=n/\∀(k v:Nat),nv[k]?=some v->∃e,h.get (.l (s+k))=some e/\v=e.ver+1
 |0,s,nv,h,h',hv=>by
  obtain⟨rfl,rfl⟩:=HM.run_ret_some hv;exact⟨rfl,rfl,λk v hk=>by simp at hk⟩
 | n+1,s,nv,h,h',hv=>by
  simp only[pC,HM.run]at hv;cases hg:h.get (.l s)with
  |none=>rw[hg]at hv;cases hv
  | some e=>
   rw[hg]at hv;simp only at hv;obtain⟨vs,h1,h2,h3⟩:=HM.run_bind_some hv;obtain⟨rfl,rfl⟩:=HM.run_ret_some h3;obtain⟨rfl,l1,f1⟩:=uy n h2;refine⟨rfl,by simp[l1],λk v hk=>?_⟩;cases k with
   |zero=>simp at hk;exact⟨e,hg,hk.symm⟩
   |succ k=>
    obtain⟨e',h4,h5⟩:=f1 k v (by simpa using hk);exact⟨e',by rw[<-h4];congr 2;omega,h5⟩
theorem qc(f:aq->Nat->Option (aq×Nat)):∀{bor:List (aq×Nat×Blk)}{bs:List (Option Blk)}{h h':Heap},(iO f bor bs).run h=some ((),h')->sM h bor->bor.Pairwise (λx y=>x.1≠y.1)->
  (∀(i:Nat)(x:aq×Nat×Blk),bor[i]?=some x->∃b,bs[i]?=some b/\h'.get x.1=some ⟨x.2.1,b.map (Blk.ren f)⟩)/\∀r,(∀x∈bor,x.1≠r)->h'.get r=h.get r
 |[],bs,h,h',hv,_,_=>by
  unfold iO at hv;obtain⟨_,rfl⟩:=HM.run_ret_some hv;exact⟨λi x hx=>by simp at hx,λ_ _=>rfl⟩
 |x::bor,[],h,h',hv,_,_=>by simp[iO,HM.run]at hv
 | (r,v,b0)::bor,b::bs,h,h',hv,hL,hP=>by
  simp only[iO]at hv;obtain⟨e0,he0,hv2⟩:=bA hv;have hg:=hL (r,v,b0) (Pj ..);simp only at hg;rw[List.pairwise_cons]at hP;have hv3:(iO f bor bs).run (h.put r ⟨v,b.map (Blk.ren f)⟩)=some ((),h'):=by cases b<;>exact hv2
  obtain⟨g1,g2⟩:=qc f hv3 (λy hy=>by rw[Heap.get_put_other (λe=>hP.1 y hy e.symm)];exact hL y (Pe _ hy)) hP.2;refine⟨λi x hx=>?_,λq hq=>?_⟩
  ·cases i with
   |zero=>
    simp only[Pg,O5]at hx;subst hx;refine⟨b,rfl,?_⟩;rw[g2 _ (λy hy=>λe=>hP.1 y hy e.symm)];exact Heap.get_put_same hg (by intro i hi;have:=hg;rw[hi]at this;have h9:=Heap.ver_a this;exact h9)
   |succ i=>exact g1 i x (by simpa using hx)
  ·rw[g2 q (λy hy=>hq y (Pe _ hy)),Heap.get_put_other (λe=>hq _ (Pj ..) e.symm)]
theorem se(f:aq->Nat->Option (aq×Nat)):∀{nv:List Nat}{bs:List (Option Blk)}{s:Nat}{h h':Heap},(lD f s nv bs).run h=some ((),h')->
  bs.length=nv.length/\(∀(k v:Nat),nv[k]?=some v->∃b,bs[k]?=some (some b)/\h'.get (.l (s+k))=some ⟨v,some (b.ren f)⟩)/\∀r,(∀k,k<nv.length->r≠ .l (s+k))->h'.get r=h.get r
 |[],[],s,h,h',hv=>by
  unfold lD at hv;obtain⟨_,rfl⟩:=HM.run_ret_some hv;exact⟨rfl,λk v hx=>by simp at hx,λ_ _=>rfl⟩
 |[],_::_,s,h,h',hv=>by simp[lD,HM.run]at hv
 |_::_,[],s,h,h',hv=>by simp[lD,HM.run]at hv
 |_::_,none::_,s,h,h',hv=>by simp[lD,HM.run]at hv
 | v::nv,some b::bs,s,h,h',hv=>by
  simp only[lD]at hv;obtain⟨e0,he0,hv⟩:=bA hv;obtain⟨g0,g1,g2⟩:=se f hv;refine⟨by simp[g0],λk u hk=>?_,λr hr=>?_⟩
  ·cases k with
   |zero=>
    simp only[Pg,O5]at hk;subst hk;refine⟨b,rfl,?_⟩;rw[Qp,g2 _ (λk _ e=>by simp at e;omega)];exact Heap.get_put_same he0 (by intro i hi;cases hi)
   |succ k=>
    obtain⟨b',h1,h2⟩:=g1 k u (by simpa using hk);exact⟨b',by simpa using h1,by rw[<-h2];congr 2;omega⟩
  ·rw[g2 r (λk hk e=>hr (k+1) (by simp;omega) (by rw[e];congr 1;omega)),Heap.get_put_other (λe=>hr 0 (by simp) (by rw[e];rfl))]
end
section
variable{ah:Nat->FuncId}{P:Program}{M:Mp}{w:World}{h:Heap}
def ol(s n:Nat):aq->Option Nat
 |.l t=>if s<=t/\t<s+n then some (t-s)else none
 |_=>none
theorem Bp{s n k:Nat}{r:aq}(h:ol s n r=some k):r=.l (s+k)/\k<n:=by
 cases r with
 |l t=>
  simp only[ol]at h;split at h
  ·rename_i hc;simp only[O5]at h;exact⟨by congr 1;omega,by omega⟩
  ·cases h
 |a i=>simp[ol]at h
 |dead=>simp[ol]at h
theorem Fp{s n k:Nat}(h:k<n):ol s n (.l (s+k))=some k:=by
 simp only[ol];rw[O9 (by omega)];congr 1;omega
theorem qb{s n:Nat}{r:aq}(h:ol s n r=none)(k:Nat)(hk:k<n):r≠ .l (s+k):=by
 intro e;rw[e,Fp hk]at h;cases h
def eX(M1 M':Mp)(bor:List (aq×Nat×Blk))(s:Nat)(nv:List Nat):Mp:=
 ⟨M'.rd,λr v=>match ol s nv.length r with
  |some k=>if nv[k]?=some v then M'.io (.l k) 0 else none
  |none=>match fV r v bor 0 with
   |some i=>M'.io (.a i) 0
   |none=>M1.io r v,
  λr=>match ol s nv.length r with
  |some k=>nv.getD k 0
  |none=>M1.cv r⟩
structure After (ah:Nat->FuncId) (M1 M':Mp) (w w':World) (h1 h3:Heap) (bor:List (aq×Nat×Blk)) (s:Nat) (nv:List Nat) (G:List (Option Blk)):Prop where
 H1:HR ah M1 h1 w
 hL:sM h1 bor
 hP:bor.Pairwise (λx y=>x.1≠y.1)
 S:StpI (fX M1 bor) w M' w'
 H':HR ah M' ⟨G.take bor.length,(G.drop bor.length).map λb=>⟨0,b⟩⟩ w'
 hio:∀i,M'.io (.a i) 0=(fX M1 bor).io (.a i) 0∨M'.io (.a i) 0=none
 hnv:∀(k v:Nat),nv[k]?=some v->∃e,h1.get (.l (s+k))=some e/\v=e.ver+1
 new:∀(k v:Nat),nv[k]?=some v->∃b,(G.drop bor.length)[k]?=some (some b)/\h3.get (.l (s+k))=some ⟨v,some (b.ren (dj bor s nv))⟩
 back:∀(i:Nat)(x:aq×Nat×Blk),bor[i]?=some x->ol s nv.length x.1=none->∃b,(G.take bor.length)[i]?=some b/\h3.get x.1=some ⟨x.2.1,b.map (Blk.ren (dj bor s nv))⟩
 other:∀r,ol s nv.length r=none->(∀x∈bor,x.1≠r)->h3.get r=h1.get r
variable{M1 M':Mp}{w':World}{h1 h3:Heap}{bor:List (aq×Nat×Blk)}{s:Nat}{nv:List Nat}{G:List (Option Blk)}
inductive OZ (M1 M':Mp) (h1 h3:Heap) (bor:List (aq×Nat×Blk)) (s:Nat) (nv:List Nat) (G:List (Option Blk)) (r:aq):Prop
 | new (k v:Nat) (b:Blk) (hr:r=.l (s+k)) (hk:nv[k]?=some v) (hg:(G.drop bor.length)[k]?=some (some b)) (h3g:h3.get r=some ⟨v,some (b.ren (dj bor s nv))⟩)
   (hio:∀u,(eX M1 M' bor s nv).io r u=if u=v then M'.io (.l k) 0 else none) (hcv:(eX M1 M' bor s nv).cv r=v) (h1g:∃e,h1.get r=some e/\v=e.ver+1)
 | back (i:Nat) (x:aq×Nat×Blk) (b:Option Blk) (hr:x.1=r) (hi:bor[i]?=some x) (hg:(G.take bor.length)[i]?=some b) (h3g:h3.get r=some ⟨x.2.1,b.map (Blk.ren (dj bor s nv))⟩)
   (hio:∀u,(eX M1 M' bor s nv).io r u=if u=x.2.1 then M'.io (.a i) 0 else none) (hcv:(eX M1 M' bor s nv).cv r=x.2.1) (h1g:h1.get r=some ⟨x.2.1,some x.2.2⟩) (hc1:M1.cv r=x.2.1)
 |other (hr:∀x∈bor,x.1≠r) (h3g:h3.get r=h1.get r) (hio:∀u,(eX M1 M' bor s nv).io r u=M1.io r u) (hcv:(eX M1 M' bor s nv).cv r=M1.cv r)
theorem After.cls(A:After ah M1 M' w w' h1 h3 bor s nv G)(r:aq):OZ M1 M' h1 h3 bor s nv G r:=by
 cases hn:ol s nv.length r with
 | some k=>
  obtain⟨rfl,hk⟩:=Bp hn;have hkv:nv[k]?=some nv[k]:=Pa hk;obtain⟨b,g1,g2⟩:=A.new k _ hkv;refine .new k nv[k] b rfl hkv g1 g2 (λu=>?_) ?_ (A.hnv k _ hkv)
  ·simp only[eX,hn,hkv,O5];by_cases hu:nv[k]=u
   ·rw[O9 hu,O9 hu.symm]
   ·rw[Pd hu,Pd (λe=>hu e.symm)]
  ·simp only[eX,hn,List.getD,hkv,PK]
 | none=>
  by_cases hb:∃x∈bor,x.1=r
  ·obtain⟨x,hx,rfl⟩:=hb;obtain⟨i,hi⟩:=List.mem_iff_getElem?.1 hx;obtain⟨b,g1,g2⟩:=A.back i x hi hn;have hc1:M1.cv x.1=x.2.1:=A.H1.cv _ _ (A.hL x hx);refine .back i x b rfl hi g1 g2 (λu=>?_) ?_ (A.hL x hx) hc1
   ·simp only[eX,hn];by_cases hu:u=x.2.1
    ·subst hu;rw[O9 rfl];cases hix:fV x.1 x.2.1 bor 0 with
     |none=>exact absurd hix (ri (b:=x.2.2) hi)
     |some j=>
      obtain⟨j',b',e1,e2⟩:=dN hix;have:=dV A.hP hi e2 rfl;simp only;congr 2;omega
    ·rw[Pd hu];cases hix:fV x.1 u bor 0 with
     |none=>
      simp only;cases hl:M1.io x.1 u with
      |none=>rfl
      |some loc=>exact absurd (A.H1.dom _ _ u (A.hL x hx) (by rw[hl];simp)).1 hu
     |some j=>
      obtain⟨j',b',e1,e2⟩:=dN hix;have h1:=A.hL _ (Pl e2);have h2:=A.hL x hx;simp only at h1;rw[h2]at h1;simp only[O5,fg.mk.injEq]at h1;exact absurd h1.1.symm hu
   ·simp only[eX,hn];exact hc1
  ·have hb':∀x∈bor,x.1≠r:=λx hx e=>hb ⟨x,hx,e⟩;refine .other hb' (A.other r hn hb') (λu=>?_) ?_
   ·simp only[eX,hn];cases hix:fV r u bor 0 with
    |none=>rfl
    |some j=>
     obtain⟨j',b',e1,e2⟩:=dN hix;exact absurd rfl (hb' _ (Pl e2))
   ·simp only[eX,hn]
theorem After.le(A:After ah M1 M' w w' h1 h3 bor s nv G):M1.le (eX M1 M' bor s nv):=by
 refine⟨A.S.rd,λr=>?_,λr v hv=>?_⟩
 ·cases A.cls r with
  |new k u b hr hk hg h3g hio hcv h1g=>
   obtain⟨e,he,hu⟩:=h1g;rw[hcv,A.H1.cv _ _ he];omega
  |back i x b hr hi hg h3g hio hcv h1g hc1=>rw[hcv,hc1];exact Pf _
  |other hr h3g hio hcv=>rw[hcv];exact Pf _
 ·cases A.cls r with
  |new k u b hr hk hg h3g hio hcv h1g=>
   obtain⟨e,he,hu⟩:=h1g;rw[A.H1.cv _ _ he]at hv;exact .inr (by rw[hio,Pd (by omega)])
  | back i x b hr hi hg h3g hio hcv h1g hc1=>
   rw[hio];by_cases hx:v=x.2.1
   ·rw[O9 hx];rcases A.hio i with e|e
    ·left;rw[e,<-hr,hx];simp[fX,hi]
    ·exact .inr e
   ·exact .inr (Pd hx)
  |other hr h3g hio hcv=>exact .inl (hio v)
theorem After.ren(A:After ah M1 M' w w' h1 h3 bor s nv G):xw M' (eX M1 M' bor s nv) (dj bor s nv) where
 rd:=.refl _
 some r v r' v' hv hf:=by
  have hcl:∀r e,(⟨G.take bor.length,(G.drop bor.length).map λb=>⟨0,b⟩⟩:Heap).get r=some e->e.ver=0:=by
   intro r e he;cases r with
   |a i=>exact Heap.ver_a he
   |l k=>
    simp only[Heap.get,Pk]at he;cases hx:(G.drop bor.length)[k]? with
    |none=>rw[hx]at he;cases he
    |some x=>rw[hx]at he;simp only[Py,O5]at he;rw[<-he]
   |dead=>simp[Heap.get]at he
  have hz:∀loc,M'.io r v=some loc->v=0:=by
   intro loc hl;obtain⟨e,he,h1,_⟩:=A.H'.ver_le (r:=r) (v:=v) (by rw[hl];simp);rw[h1];exact hcl r e he
  cases r with
  | a i=>
   simp only[dj]at hf;split at hf
   case h_2=>cases hf
   rename_i q u b hx;simp only[O5,Pq]at hf;obtain⟨rfl,rfl⟩:=hf;have hg:=A.hL _ (Pl hx);simp only at hg;have hcv1:=A.H1.cv _ _ hg;refine⟨Qs (by rw[hcv1];exact Pf _) (A.le.cv q),λloc hl=>?_⟩;cases A.cls q with
   |new k u' b' hr hk hg' h3g hio hcv h1g=>
    obtain⟨e,he,hu⟩:=h1g;rw[hg]at he;cases he;rw[hio,Pd (by simp only at hu;omega)]at hl;cases hl
   | back i' x b' hr hi hg' h3g hio hcv h1g hc1=>
    have hii:=dV A.hP hx hi (by rw[hr]);subst hii;rw[hx]at hi;cases hi;rw[hio,O9 rfl]at hl;have hv0:v=0:=by
     have:M'.cv (.a i)=0:=by
      obtain⟨e,he,h1,_⟩:=A.H'.ver_le (r:=.a i) (v:=0) (by rw[hl];simp);have:=A.H'.cv _ _ he;rw[this,hcl _ _ he]
     omega
    subst hv0;exact hl
   |other hr h3g hio hcv=>exact absurd rfl (hr _ (Pl hx))
  | l k=>
   simp only[dj]at hf;split at hf
   case h_2=>cases hf
   rename_i u hk;simp only[O5,Pq]at hf;obtain⟨rfl,rfl⟩:=hf;have hlt:=getElem?_lt hk;cases A.cls (.l (s+k))with
   | new k' u' b' hr hk' hg' h3g hio hcv h1g=>
    have:k=k':=by simp only[aq.l.injEq]at hr;omega
    subst this;rw[hk]at hk';cases hk';refine⟨by rw[hcv];exact Pf _,λloc hl=>?_⟩;rw[hio,O9 rfl]at hl;have hv0:v=0:=by
     have:M'.cv (.l k)=0:=by
      obtain⟨e,he,h1,_⟩:=A.H'.ver_le (r:=.l k) (v:=0) (by rw[hl];simp);have:=A.H'.cv _ _ he;rw[this,hcl _ _ he]
     omega
    subst hv0;exact hl
   |back i x b hr hi hg h3g hio hcv h1g hc1=>
    exfalso;obtain⟨b',_,h5⟩:=A.new k _ hk;obtain⟨e,h6,h7⟩:=A.hnv k _ hk;rw[h1g]at h6;cases h6;rw[h3g]at h5;simp only[O5,fg.mk.injEq]at h5;simp only at h7;omega
   |other hr h3g hio hcv=>
    exfalso;obtain⟨b',_,h5⟩:=A.new k _ hk;obtain⟨e,h6,h7⟩:=A.hnv k _ hk;rw[h3g,h6]at h5;simp only[O5]at h5;rw[h5]at h7;simp only at h7;omega
  |dead=>simp[dj]at hf
 dead:=by
  cases A.cls .dead with
  |new k u b hr=>cases hr
  |back i x b hr hi hg h3g hio hcv h1g hc1=>simp[Heap.get]at h1g
  |other hr h3g hio hcv=>rw[hio];exact A.H1.out _ _ rfl
theorem After.own(A:After ah M1 M' w w' h1 h3 bor s nv G){b:Nat}(ho:own (eX M1 M' bor s nv) b):Gv.own M1 b∨w.heap.size<=b:=by
 have hS:∀r v loc,M'.io r v=some loc->Gv.own M1 loc.b∨w.heap.size<=loc.b:=by
  intro r v loc hl;rcases A.S.own loc.b (dx hl)with e|e
  ·exact .inl (vH e)
  ·exact .inr e
 obtain⟨r,v,loc,hl,rfl⟩:=ho;cases A.cls r with
 |new k u b hr hk hg h3g hio hcv h1g=>
  rw[hio]at hl;split at hl
  ·exact hS _ _ _ hl
  ·cases hl
 |back i x b hr hi hg h3g hio hcv h1g hc1=>
  rw[hio]at hl;split at hl
  ·exact hS _ _ _ hl
  ·cases hl
 |other hr h3g hio hcv=>rw[hio]at hl;exact .inl (dx hl)
theorem After.stp(A:After ah M1 M' w w' h1 h3 bor s nv G):Stp M1 w (eX M1 M' bor s nv) w':=
 ⟨⟨A.S.rd,A.S.os,A.S.tape,A.S.output,A.S.size,λb hb hn=>A.S.frame b hb (λho=>hn (vH ho)),λb ho=>A.own ho,λb hb=>by
  rcases A.S.rdn b hb with e|e|e
  ·exact .inl e
  ·exact .inr (.inl (vH e))
  ·exact .inr (.inr e)⟩,A.le⟩
theorem After.hr(A:After ah M1 M' w w' h1 h3 bor s nv G):HR ah (eX M1 M' bor s nv) h3 w':=by
 have hgl:∀k b,(G.drop bor.length)[k]?=some b->(⟨G.take bor.length,(G.drop bor.length).map λb=>⟨0,b⟩⟩:Heap).get (.l k)=some ⟨0,b⟩:=by
  intro k b hk;simp only[Heap.get,Pk,hk,Py]
 have hga:∀i b,(G.take bor.length)[i]?=some b->(⟨G.take bor.length,(G.drop bor.length).map λb=>⟨0,b⟩⟩:Heap).get (.a i)=some ⟨0,b⟩:=by
  intro i b hi;simp only[Heap.get,hi]
 have hback:∀i x loc,bor[i]?=some x->M'.io (.a i) 0=some loc->M1.io x.1 x.2.1=some loc:=by
  intro i x loc hi hl;rcases A.hio i with e|e
  ·rw[e]at hl;simpa[fX,hi]using hl
  ·rw[e]at hl;cases hl
 have hfree:∀r u loc,(∀x∈bor,x.1≠r)->M1.io r u=some loc->∀q v loc',M'.io q v=some loc'->loc'.b≠loc.b:=by
  intro r u loc hr hl q v loc' hl' he;rcases A.S.own loc'.b (dx hl')with e|e
  ·obtain⟨q2,v2,loc2,h2,h3⟩:=e;obtain⟨i,x,rfl,_,hi,h4⟩:=dI h2;exact hr x (Pl hi) (A.H1.inj _ _ _ _ _ _ h4 hl (by rw[h3,he]))
  ·have:=A.H1.own_lt (dx hl);rw[he]at e;omega
 have hown:∀r u loc,(∀x∈bor,x.1≠r)->M1.io r u=some loc->¬Gv.own (fX M1 bor) loc.b:=by
  intro r u loc hr hl ho;obtain⟨q2,v2,loc2,h2,h3⟩:=ho;obtain⟨i,x,rfl,_,hi,h4⟩:=dI h2;exact hr x (Pl hi) (A.H1.inj _ _ _ _ _ _ h4 hl h3)
 refine⟨?_,?_,?_,?_,?_,?_,A.H'.rd⟩
 ·intro r e he;cases A.cls r with
  |new k u b hr hk hg h3g hio hcv h1g=>rw[h3g]at he;cases he;exact hcv
  |back i x b hr hi hg h3g hio hcv h1g hc1=>rw[h3g]at he;cases he;exact hcv
  |other hr h3g hio hcv=>rw[h3g]at he;rw[hcv];exact A.H1.cv _ _ he
 ·intro r e v he hn;cases A.cls r with
  |new k u b hr hk hg h3g hio hcv h1g=>
   rw[h3g]at he;cases he;rw[hio]at hn;by_cases hu:v=u
   ·exact⟨hu,by simp⟩
   ·rw[Pd hu]at hn;exact absurd rfl hn
  | back i x b hr hi hg h3g hio hcv h1g hc1=>
   rw[h3g]at he;cases he;rw[hio]at hn;by_cases hu:v=x.2.1
   ·rw[O9 hu]at hn;have:=(A.H'.dom _ _ 0 (hga i b hg) hn).2;refine⟨hu,?_⟩;simp only at this;cases b with
    |none=>exact absurd rfl this
    |some b=>simp
   ·rw[Pd hu]at hn;exact absurd rfl hn
  |other hr h3g hio hcv=>rw[h3g]at he;rw[hio]at hn;exact A.H1.dom _ _ _ he hn
 ·intro r e he hb;cases A.cls r with
  |new k u b hr hk hg h3g hio hcv h1g=>
   rw[h3g]at he;cases he;rw[hio,O9 rfl];exact A.H'.has _ _ (hgl k _ hg) (by simp)
  |back i x b hr hi hg h3g hio hcv h1g hc1=>
   rw[h3g]at he;cases he;rw[hio,O9 rfl];refine A.H'.has _ _ (hga i b hg) ?_;cases b with
   |none=>exact absurd rfl hb
   |some b=>simp
  |other hr h3g hio hcv=>rw[h3g]at he;rw[hio];exact A.H1.has _ _ he hb
 ·intro r v he;cases A.cls r with
  |new k u b hr hk hg h3g hio hcv h1g=>rw[h3g]at he;cases he
  |back i x b hr hi hg h3g hio hcv h1g hc1=>rw[h3g]at he;cases he
  |other hr h3g hio hcv=>rw[h3g]at he;rw[hio];exact A.H1.out _ _ he
 ·intro r e b0 loc he hb hl;cases A.cls r with
  |new k u b hr hk hg h3g hio hcv h1g=>
   rw[h3g]at he;cases he;simp only[O5]at hb;subst hb;rw[hio,O9 rfl]at hl;obtain⟨c,t,lo,hi,B⟩:=A.H'.blk _ _ b loc (hgl k _ hg) rfl hl;exact⟨c,t,lo,hi,B.ren A.ren (λq=>B.rw_ q)⟩
  | back i x b hr hi hg h3g hio hcv h1g hc1=>
   rw[h3g]at he;cases he;cases b with
   |none=>cases hb
   |some b=>
    simp only[Py,O5]at hb;subst hb;rw[hio,O9 rfl]at hl;obtain⟨c,t,lo,hi,B⟩:=A.H'.blk _ _ b loc (hga i _ hg) rfl hl;exact⟨c,t,lo,hi,B.ren A.ren (λq=>B.rw_ q)⟩
  | other hr h3g hio hcv=>
   rw[h3g]at he;rw[hio]at hl;obtain⟨c,t,lo,hi,B⟩:=A.H1.blk _ _ _ _ he hb hl;have hfr:=A.S.frame loc.b B.lt (hown r _ loc hr hl);refine⟨c,t,lo,hi,⟨by rw[hfr];exact B.heap,B.sz,B.size,B.free,B.lohi,B.fits,λq=>A.S.rd _ _ (B.ro q),λq=>?_,B.cells.mono A.le⟩⟩;cases hrd:M'.rd loc.b with
   |none=>exact hrd
   |some vs=>
    rcases A.S.rdn loc.b (by rw[hrd];simp)with z|z|z
    ·exact absurd (B.rw_ q) z
    ·exact absurd z (hown r _ loc hr hl)
    ·have:=B.lt;omega
 ·intro r v loc r' v' loc' h1' h2' hbb;cases A.cls r with
  | new k u b hr hk hg h3g hio hcv h1g=>
   rw[hio]at h1';split at h1'
   case isFalse=>cases h1'
   cases A.cls r' with
   |new k2 u2 b2 hr2 hk2 hg2 h3g2 hio2 hcv2 h1g2=>
    rw[hio2]at h2';split at h2'
    case isFalse=>cases h2'
    have:=A.H'.inj _ _ _ _ _ _ h1' h2' hbb;simp only[aq.l.injEq]at this;rw[hr,hr2,this]
   |back i x b2 hr2 hi hg2 h3g2 hio2 hcv2 h1g2 hc12=>
    rw[hio2]at h2';split at h2'
    case isFalse=>cases h2'
    have:=A.H'.inj _ _ _ _ _ _ h1' h2' hbb;cases this
   |other hr2 h3g2 hio2 hcv2=>rw[hio2]at h2';exact absurd hbb (hfree _ _ _ hr2 h2' _ _ _ h1')
  | back i x b hr hi hg h3g hio hcv h1g hc1=>
   rw[hio]at h1';split at h1'
   case isFalse=>cases h1'
   cases A.cls r' with
   |new k2 u2 b2 hr2 hk2 hg2 h3g2 hio2 hcv2 h1g2=>
    rw[hio2]at h2';split at h2'
    case isFalse=>cases h2'
    have:=A.H'.inj _ _ _ _ _ _ h1' h2' hbb;cases this
   |back i2 x2 b2 hr2 hi2 hg2 h3g2 hio2 hcv2 h1g2 hc12=>
    rw[hio2]at h2';split at h2'
    case isFalse=>cases h2'
    have:=A.H'.inj _ _ _ _ _ _ h1' h2' hbb;simp only[aq.a.injEq]at this;subst this;rw[hi]at hi2;cases hi2;rw[<-hr,<-hr2]
   |other hr2 h3g2 hio2 hcv2=>rw[hio2]at h2';exact absurd hbb (hfree _ _ _ hr2 h2' _ _ _ h1')
  | other hr h3g hio hcv=>
   rw[hio]at h1';cases A.cls r' with
   |new k2 u2 b2 hr2 hk2 hg2 h3g2 hio2 hcv2 h1g2=>
    rw[hio2]at h2';split at h2'
    case isFalse=>cases h2'
    exact absurd hbb.symm (hfree _ _ _ hr h1' _ _ _ h2')
   |back i x b2 hr2 hi hg2 h3g2 hio2 hcv2 h1g2 hc12=>
    rw[hio2]at h2';split at h2'
    case isFalse=>cases h2'
    exact absurd hbb.symm (hfree _ _ _ hr h1' _ _ _ h2')
   |other hr2 h3g2 hio2 hcv2=>rw[hio2]at h2';exact A.H1.inj _ _ _ _ _ _ h1' h2' hbb
end
section
variable{ah:Nat->FuncId}{P:Program}{M:Mp}{w:World}{h:Heap}
theorem gG:∀{cs:List PV}{x:PV},iD cs=true->x∈cs->d8 x=true
 |c::cs,x,h,hx=>by
  simp only[iD,O6]at h;rcases List.mem_cons.1 hx with rfl|hx
  ·exact h.1
  ·exact gG h.2 hx
theorem BL{e x:PV}(h:d8 e=true)(hx:x∈e.cells):d8 x=true:=by
 cases e<;>simp only[PV.cells,Px]at hx<;>first|(subst hx;exact h)|(simp only[d8]at h;exact gG h hx)
theorem wo:∀{G:List (Option Blk)}{b:Blk},g9 G=true->some b∈G->b.ro=false/\iD b.es=true
 |some a::G,b,h,hx=>by
  simp only[g9,O6,PC]at h;rcases List.mem_cons.1 hx with e|hx
  ·cases e;exact h.1
  ·exact wo h.2 hx
 |none::G,b,h,hx=>by simp[g9]at h
theorem Fs{rd rd':RD}{v:PV}{c:Value}(x:FR ah rd v c):d8 v=true->FR ah rd' v c:=by
 induction x with
 |int k n=>exactλ_=>.int k n
 |bool b=>exactλ_=>.bool b
 |str s=>exactλ_=>.str s
 |nils=>exactλ_=>.nils
 |nilp=>exactλ_=>.nilp
 |nilfn=>exactλ_=>.nilfn
 |lst=>intro h;simp[d8]at h
 |lptr=>intro h;simp[d8]at h
 |fn f=>intro h;simp[d8]at h
 |agg cs vs h1 h2 ih=>intro h;exact .agg cs vs h1 λi e u a b=>ih i e u a b (gG (by simpa[d8]using h) (Pl a))
 |tup cs vs h1 h2 ih=>intro h;exact .tup cs vs h1 λi e u a b=>ih i e u a b (gG (by simpa[d8]using h) (Pl a))
theorem zS{rd:RD}{M':Mp}{v:PV}{c:Value}(hn:d8 v=true)(x:VR ah M' v c):VR ah ⟨rd,M'.io,M'.cv⟩ v c:=by
 induction x with
 |fr h=>exact .fr (Fs h hn)
 |junk=>simp[d8]at hn
 |tok r ver sz off len room c0 a cap hv h2 h3 h4 h5=>exact .tok r ver sz off len room c0 a cap hv h2 h3 h4 h5
 |ptr r ver i o a hv h=>exact .ptr r ver i o a hv h
 |agg cs vs h1 h2 ih=>exact .agg cs vs h1 λi e u a b=>ih i e u a b (gG (by simpa[d8]using hn) (Pl a))
 |tup cs vs h1 h2 ih=>exact .tup cs vs h1 λi e u a b=>ih i e u a b (gG (by simpa[d8]using hn) (Pl a))
 |fn=>simp[d8]at hn
theorem BM{x y:List (aq×Nat×Blk)}(h:lB x y=false):∀p∈x,∀q∈y,q.1≠p.1:=by
 intro p hp q hq he;unfold lB at h;rw[List.any_eq_false]at h;have:=h p hp;rw[Rh,List.any_eq_false]at this;have:=this q hq;simp[he]at this
theorem Il{C:cG}(hC:iX P ah C){ro:List Bool}{f:Nat}{args0:List PV}{s:Nat}{v:PV}{h':Heap}{cargs:Array Value}(hv:(fc C ro f args0 s).run h=some (v,h'))(H:HR ah M h w)
  (hl:args0.length=cargs.size)(ha:∀(i:Nat)(e:PV)(u:Value),args0[i]?=some e->cargs[i]?=some u->VR ah M e u):
  Calls P (ah f) cargs w λe w'=>∃c M',e=.returned c/\Stp M w M' w'/\HR ah M' h' w'/\VR ah M' v c:=by
 unfold fc at hv;obtain⟨args,h1,hro,hv2⟩:=HM.run_bind_some hv;obtain⟨bor,h2,hcol,hv3⟩:=HM.run_bind_some hv2;clear hv hv2;obtain⟨rfl,Lro,N1,F1⟩:=rV (cs:=λi=>cargs.getD i undef) hro H (λi e hi=>by
  have hlt:i<cargs.size:=by rw[<-hl];exact getElem?_lt hi
  have:=ha i e cargs[i] hi (Pv hlt);simpa[hlt]using this)
 obtain⟨rfl,Lb,Pb⟩:=gK 99 hcol (λx hx=>by simp at hx) List.Pairwise.nil;cases hm:lB args.2 bor with
 |true=>rw[hm]at hv3;simp[HM.run]at hv3
 | false=>
  rw[hm]at hv3;simp only[Ps,PS]at hv3;cases hCf:C f (co (cU bor) args.1) (bor.map λx=>x.2.2.ren (cU bor))with
  |none=>rw[hCf]at hv3;simp[HM.run]at hv3
  | some rG=>
   obtain⟨r,G⟩:=rG;rw[hCf]at hv3;simp only at hv3;obtain⟨hk,M1,hset,S1,H1,hio1,hcv1,K1,hk1⟩:=uL args.2 H (λx hx=>⟨x.2.2.ro,λq=>q,by rw[Lro x hx]⟩);have Lb1:sM hk bor:=λx hx=>by rw[hk1 x.1 (λy hy e=>BM hm y hy x hx e.symm)];exact Lb x hx
   have Hl:=HU H1 Lb1 Pb;refine Calls.mono (hC f _ _ r G (fX M1 bor) w cargs hCf Hl (λ_=>rfl) ?_ ?_) ?_
   ·rw[ed,PU,N1];exact hl
   ·intro i e u hi hu;rw[ed,Pk]at hi;cases hx:args.1[i]? with
    |none=>rw[hx]at hi;cases hi
    | some x=>
     rw[hx]at hi;simp only[Py,O5]at hi;subst hi;have:=F1 M1 S1.le K1 i x hx;have hd:cargs.getD i undef=u:=by
      rw[Ql,hu];rfl
     rw[hd]at this;exact this.ren AM
   ·rintro e w' ⟨c,M',rfl,S,H',V,hio⟩
    rw[PU]at H';unfold r8 at hv3;obtain⟨_,h3,hset2,hv4⟩:=HM.run_bind_some hv3;obtain⟨nv,h4,hnv,hv5⟩:=HM.run_bind_some hv4;obtain⟨_,h5,hpb,hv6⟩:=HM.run_bind_some hv5;obtain⟨_,h6,hpn,hv7⟩:=HM.run_bind_some hv6;obtain⟨rfl,rfl⟩:=HM.run_ret_some hv7;clear hv3 hv4 hv5 hv6 hv7;obtain⟨rfl,hnl,hnw⟩:=uy _ hnv;by_cases hsc:lH bor r G=true
    ·rw[ O9 hsc]at hset2;obtain⟨_,rfl⟩:=HM.run_ret_some hset2;simp only[lH,O6,Qk]at hsc;obtain⟨⟨rfl,hnr⟩,hng⟩:=hsc;have hno:∀b,¬Gv.own (fX M1 []) b:=by
      rintro b ⟨r,v,loc,hl,_⟩
      obtain⟨i,x,_,_,hx,_⟩:=dI hl;simp at hx
     have hno':∀b,¬Gv.own (fX M []) b:=by
      rintro b ⟨r,v,loc,hl,_⟩
      obtain⟨i,x,_,_,hx,_⟩:=dI hl;simp at hx
     have hfr:∀b,b<w.heap.size->w'.heap[b]?=w.heap[b]?:=λb hb=>S.frame b hb (hno b);have hS:StpI (fX M []) w ⟨M.rd,M'.io,M'.cv⟩ w':=⟨.refl _,S.os,S.tape,S.output,S.size,λb hb _=>hfr b hb,λb ⟨r,v,loc,hl,he⟩=>by
      rcases S.own b ⟨r,v,loc,hl,he⟩with z|z
      ·exact absurd z (hno b)
      ·exact .inr z,λb hb=>.inl hb⟩
     have hHR:HR ah ⟨M.rd,M'.io,M'.cv⟩ ⟨G.take ([]:List (aq×Nat×Blk)).length,(G.drop ([]:List (aq×Nat×Blk)).length).map λb=>⟨0,b⟩⟩ w':=by
      refine⟨H'.cv,H'.dom,H'.has,H'.out,λr e b loc a1 a2 a3=>?_,H'.inj,λb vs hb=>?_⟩
      ·obtain⟨c',t,lo,hi,B⟩:=H'.blk r e b loc a1 a2 a3;have hmem:some b∈G:=by
        cases r with
        |a i=>simp[Heap.get]at a1
        |l k=>
         simp only[Heap.get,Pk,PT,Rf]at a1;cases hx:G[k]? with
         |none=>rw[hx]at a1;cases a1
         |some x=>rw[hx]at a1;simp only[Py,O5]at a1;rw[<-a1]at a2;simp only at a2;rw[<-a2];exact Pl hx
        |dead=>simp[Heap.get]at a1
       obtain⟨g1,g2⟩:=wo hng hmem;refine⟨c',t,lo,hi,⟨B.heap,B.sz,B.size,B.free,B.lohi,B.fits,λq=>(by rw[g1]at q;cases q),λ_=>?_,λi e' hi'=>⟨(B.cells i e' hi').1,λj x hj=>⟨((B.cells i e' hi').2 j x hj).1,?_⟩⟩⟩⟩
       ·show M.rd loc.b=none;rcases S.own loc.b ⟨r,_,loc,a3,rfl⟩with z|z
        ·exact absurd z (hno _)
        ·cases hr:M.rd loc.b with
         |none=>rfl
         |some vs=>have:=H.rd.lt (b:=loc.b) (by rw[hr];simp);omega
       ·obtain⟨u,h3,h4⟩:=((B.cells i e' hi').2 j x hj).2;exact⟨u,h3,zS (BL (gG g2 (Pl hi')) (Pl hj)) h4⟩
      ·obtain⟨t,fz,hh⟩:=H.rd b vs hb;exact⟨t,fz,by rw[hfr b (H.rd.lt (by show M.rd b≠none;rw[show M.rd b=some vs from hb];simp))];exact hh⟩
     obtain⟨pb1,pb2⟩:=qc _ hpb Lb Pb;obtain⟨pn0,pn1,pn2⟩:=se _ hpn;have A:=After.mk (ah:=ah) (M1:=M) (M':=⟨M.rd,M'.io,M'.cv⟩) (bor:=[]) H Lb Pb hS hHR (λi=>.inr (by
       show M'.io (.a i) 0=none;rcases hio i with e|e
       ·rw[e];cases hl:(fX M1 []).io (.a i) 0 with
        |none=>rfl
        |some loc=>exact absurd ⟨_,_,loc,hl,rfl⟩ (hno loc.b)
       ·exact e)) hnw pn1 (λi x hx=>by simp at hx) (λr hn hb=>by rw[pn2 r (λk hk=>qb hn k hk),pb2 r hb])
     exact⟨c,_,rfl,A.stp,A.hr,(zS hnr V).ren A.ren⟩
    ·rw[Pd hsc,hset]at hset2;simp only[O5,Pq,true_and]at hset2;subst hset2;obtain⟨pb1,pb2⟩:=qc _ hpb Lb1 Pb;obtain⟨pn0,pn1,pn2⟩:=se _ hpn;have A:After ah M1 M' w w' hk h6 bor s nv G:={
      H1:=H1,hL:=Lb1,hP:=Pb,S:=S,H':=H',hio:=hio
      hnv:=hnw
      new:=pn1
      back:=λi x hx hn=>by
       obtain⟨b,g1,g2⟩:=pb1 i x hx;exact⟨b,g1,by rw[pn2 x.1 (λk hk=>qb hn k hk)];exact g2⟩
      other:=λr hn hb=>by rw[pn2 r (λk hk=>qb hn k hk),pb2 r hb]}
     exact⟨c,_,rfl,S1.trans A.stp,A.hr,V.ren A.ren⟩
end
def bz(ah:Nat->FuncId):PO->Operand->Bool
 |.t n,.tmp m=>n==m
 |.c v,.const u=>(match v with|.junk=>true|_=>false)||jI 20 v u
 |.c (.fn f []),.func g=>ah f==g
 |.c .junk,_=>true
 |_,_=>false
def v5(ah:Nat->FuncId):List PO->List Operand->Bool
 |[],[]=>true
 |x::xs,y::ys=>bz ah x y&&v5 ah xs ys
 |_,_=>false
def Ay(ah:Nat->FuncId):Option PO->Option Operand->Bool
 |none,none=>true
 |some x,some y=>bz ah x y
 |_,_=>false
structure FrR (ah:Nat->FuncId) (M:Mp) (fr:List PV) (tmps:Array Value):Prop where
 len:fr.length=tmps.size
 at_:∀t,VR ah M (lG fr t) (tmps.getD t undef)
section
variable{ah:Nat->FuncId}{P:Program}{M:Mp}{w:World}{h:Heap}{fr:List PV}{a:Act}
theorem FrR.mono{M':Mp}(le:M.le M'){tmps:Array Value}(F:FrR ah M fr tmps):FrR ah M' fr tmps:=⟨F.len,λt=>(F.at_ t).mono le⟩
theorem pM:∀{l:List PV}{t:Nat}{v:PV},l[t]?=some v->lG l t=v
 |x::xs,0,v,h=>by simpa[lG]using h
 |x::xs,t+1,v,h=>by simp only[lG];exact pM (by simpa using h)
 |[],t,v,h=>by simp at h
theorem vV:∀{l:List PV}{t:Nat},l.length<=t->lG l t=.junk
 |[],t,_=>by simp[lG]
 |x::xs,0,h=>by simp at h
 |x::xs,t+1,h=>by simp only[lG];exact vV (by simpa using h)
theorem nw:∀(l:List PV)(d:Nat)(v:PV),(upd l d v).length=l.length
 |[],d,v=>rfl
 |x::xs,0,v=>rfl
 |x::xs,d+1,v=>by simp[upd,nw xs d v]
theorem pm:∀(l:List PV)(d t:Nat)(v:PV),lG (upd l d v) t=if t=d/\d<l.length then v else lG l t
 |[],d,t,v=>by simp[upd,lG]
 |x::xs,0,0,v=>by simp[upd,lG]
 |x::xs,0,t+1,v=>by simp[upd,lG]
 |x::xs,d+1,0,v=>by simp[upd,lG]
 |x::xs,d+1,t+1,v=>by simp only[upd,lG];rw[pm xs d t v];simp
theorem FrR.put{v:PV}{c:Value}{dst:Option Nat}(F:FrR ah M fr a.tmps)(hv:VR ah M v c):FrR ah M (aG fr dst v) (a.put dst c).tmps:=by
 cases dst with
 |none=>exact F
 | some d=>
  refine⟨by simp[aG,nw,Act.put,F.len],λt=>?_⟩;simp only[aG,Act.put,pm];by_cases ht:t=d/\d<fr.length
  ·rw[O9 ht];obtain⟨rfl,hd⟩:=ht;rw[F.len]at hd;have:(a.tmps.setIfInBounds t c).getD t undef=c:=by simp[Array.getD,hd]
   rw[this];exact hv
  ·rw[Pd ht];have:(a.tmps.setIfInBounds d c).getD t undef=a.tmps.getD t undef:=by
    rw[Ql,Ql];by_cases h1:t=d
    ·subst h1;have h2:¬t<fr.length:=λh=>ht ⟨rfl,h⟩;rw[F.len]at h2;rw[QH (by simp;omega),QH (by omega)]
    ·rw[Qe (λh=>h1 h.symm)]
   rw[this];exact F.at_ t
theorem aA{x:PO}{y:Operand}(hc:bz ah x y=true)(F:FrR ah M fr a.tmps):VR ah M (PO.ev fr x) (a.eval y):=by
 unfold bz at hc;split at hc
 ·rename_i n m;simp only[PF]at hc;subst hc;exact F.at_ n
 ·rename_i v u;simp only[Qt]at hc;rcases hc with hc|hc
  ·split at hc
   ·exact .junk _
   ·cases hc
  ·exact .fr (oK 20 hc)
 ·rename_i f g;simp only[PF]at hc;subst hc;exact .fr (.fn f)
 ·exact .junk _
 ·cases hc
theorem nD:∀{xs:List PO}{ys:List Operand},v5 ah xs ys=true->FrR ah M fr a.tmps->
  (kQ (PO.ev fr) xs).length=ys.length/\∀(i:Nat)(e:PV)(u:Value),(kQ (PO.ev fr) xs)[i]?=some e->(ys.map a.eval)[i]?=some u->VR ah M e u
 |[],[],_,_=>⟨rfl,λi e u hi=>by simp[kQ]at hi⟩
 |[],_::_,h,_=>by simp[v5]at h
 |_::_,[],h,_=>by simp[v5]at h
 | x::xs,y::ys,h,F=>by
  simp only[v5,O6]at h;obtain⟨h1,h2⟩:=nD h.2 F;refine⟨by simp[kQ,h1],λi e u hi hu=>?_⟩;cases i with
  |zero=>
   simp only[kQ,Pg,O5]at hi;simp only[PM,Pg,O5]at hu;subst hi;subst hu;exact aA h.1 F
  |succ i=>exact h2 i e u (by simpa[kQ]using hi) (by simpa using hu)
theorem me{x:Option PO}{y:Option Operand}(hc:Ay ah x y=true)(F:FrR ah M fr a.tmps):D0 ah M (uC (PO.ev fr) x) (y.map a.eval):=by
 cases x with
 |none=>cases y with
  |none=>exact(by constructor)
  |some y=>simp[Ay]at hc
 |some x=>cases y with
  |none=>simp[Ay]at hc
  |some y=>exact(by first|exact .some (aA hc F)|exact aA hc F)
end
section
variable{ah:Nat->FuncId}{P:Program}{M:Mp}{h:Heap}{w:World}
def wH(n:Nat)(cs:List PV):List PV:=(List.replicate n cs).flatten
theorem FX(n:Nat)(cs:List PV):(wH n cs).length=n*cs.length:=by
 simp[wH,List.length_flatten]
theorem zx:∀{n i j:Nat}{cs:List PV},i<n->j<cs.length->(wH n cs)[i*cs.length+j]?=cs[j]?
 |0,i,j,cs,h,_=>by omega
 | n+1,i,j,cs,h,hj=>by
  have e:wH (n+1) cs=cs++wH n cs:=by simp[wH,Qj]
  rw[e];cases i with
  |zero=>rw[Nat.zero_mul,PZ,Pz hj]
  |succ i=>
   have:(i+1)*cs.length+j=cs.length+(i*cs.length+j):=by rw[Nat.succ_mul];omega
   rw[this,Pp (by omega),Nat.add_sub_cancel_left];exact zx (by omega) hj
theorem H6{t:TypeId}{n:Nat}{z v:PV}{s:Nat}{h':Heap}(H:HR ah M h w)(hv:(BH n z s).run h=some (v,h'))(hz:mw P t (.agg (wH n z.cells))=true):
  OkR ah P M w (Instr.alloc t true (.tuple #[])) v h':=by
 obtain⟨i,zv,hi,hzv,hfr⟩:=lz (ah:=ah) hz;unfold BH at hv;by_cases hc:aj z.cells=true/\n<bG
 case neg=>rw[Pd hc]at hv;simp[HM.run]at hv
 rw[O9 hc]at hv;obtain⟨ver,h1,hb,hv⟩:=HM.run_bind_some hv;obtain⟨rfl,rfl⟩:=HM.run_ret_some hv;have hsz:=(hfr M.rd).cells_size;have hcs:(PV.agg (wH n z.cells)).cells=wH n z.cells:=rfl;rw[hcs,FX]at hsz;obtain⟨M',S',H',q1,q2⟩:=kF (t:=t) H hb rfl (cs:=zv.cells) (by simp;omega) (by show zv.cells.size<=9223372036854775807*z.cells.length;rw[<-hsz];exact PA _ (by have:=hc.2;unfold bG at this;omega)) (by
  intro k e hk;have hk:(List.replicate n z)[k]?=some e:=hk;rw[Qd]at hk;split at hk
  case isFalse=>cases hk
  rename_i hkn;simp only[O5]at hk;subst hk;refine⟨rfl,λj x hj=>⟨cI hc.1 hj,?_⟩⟩;have hjl:j<z.cells.length:=by
   rcases Pt j z.cells.length with q|q
   ·exact q
   ·rw[Ph q]at hj;cases hj
  obtain⟨u,u1,u2⟩:=(hfr M.rd).cells_at (k*z.cells.length+j) x (by rw[hcs,zx hkn hjl,hj]);exact⟨u,by simpa using u1,.fr u2⟩)
 refine⟨_,_,_,by simp[Instr.alloc,zeroValue,typeInfo,hi,hzv,newVar,newRow];rfl,S',H',?_⟩;refine .ptr _ _ _ _ _ q1 (λloc hl=>?_);rw[q2]at hl;simp only[O5]at hl;subst hl;simp
theorem BV{n sz:Nat}{x i v:PV}{c ci:Value}{t:TypeId}{h':Heap}(H:HR ah M h w)(hv:(si n sz x i).run h=some (v,h'))(hx:VR ah M x c)(hi:VR ah M i ci)
  (ht:∃e inf,P.underlying t=some (.array n e)/\P.info? e=some inf/\inf.size=sz):h'=h/\∃u,(Instr.indexAt t c ci).run P w=.ok u w/\VR ah M v u:=by
 unfold si at hv;split at hv
 case h_2=>simp[HM.run]at hv
 rename_i k j r ver;have:=hi.int_inv;subst this;by_cases hj:0<=j/\j<n
 case neg=>rw[Pd hj]at hv;simp[HM.run]at hv
 rw[O9 hj]at hv;obtain⟨b,h1,hb,hv⟩:=HM.run_bind_some hv;obtain⟨rfl,hg⟩:=bh hb;by_cases hs:b.sz=sz
 case neg=>rw[Pd hs]at hv;simp[HM.run]at hv
 rw[O9 hs]at hv;obtain⟨rfl,rfl⟩:=HM.run_ret_some hv;refine⟨rfl,?_⟩;obtain⟨a,rfl,hver,ha⟩:=hx.ptr_inv;obtain⟨e,inf,t1,t2,t3⟩:=ht;obtain⟨loc,ca,ty,lo,hi',hl,B⟩:=H.live hg;have hs2:loc.sz=sz:=by rw[B.sz,hs]
 have ha':=ha loc hl;refine⟨.pointer (some (a.add (j.toNat*sz))),?_,.ptr _ _ _ _ _ hver (λloc' hl'=>?_)⟩
 ·unfold Instr.indexAt;simp only[asIntOf,Sem.run_bind,Sem.run_pure,Result.andThen_ok,br t1,Instr.sureAddr,O9 hj,hI t2,t3]
 ·rw[hl]at hl';simp only[O5]at hl';subst hl';rw[ha',hs2];simp[Addr.add]
theorem AO{n sz:Nat}{x v:PV}{lo hi:Option PV}{c:Value}{clo chi:Option Value}{h':Heap}(H:HR ah M h w)(hv:(qy n sz x lo hi).run h=some (v,h'))(hx:VR ah M x c)
  (hlo:D0 ah M lo clo)(hhi:D0 ah M hi chi){t:TypeId}(ht:∃e inf,P.underlying t=some (.array n e)/\P.info? e=some inf/\inf.size=sz):
  h'=h/\∃u,(Instr.sliceAt t c clo chi none).run P w=.ok u w/\VR ah M v u:=by
 unfold qy at hv;split at hv
 case h_2=>simp[HM.run]at hv
 rename_i r ver l hh e1 e2;by_cases hc:l<=hh/\hh<=n
 case neg=>rw[Pd hc]at hv;simp[HM.run]at hv
 rw[O9 hc]at hv;obtain⟨b,h1,hb,hv⟩:=HM.run_bind_some hv;obtain⟨rfl,hg⟩:=bh hb;by_cases hs:b.sz=sz/\b.es.length=n
 case neg=>rw[Pd hs]at hv;simp[HM.run]at hv
 rw[O9 hs]at hv;obtain⟨rfl,rfl⟩:=HM.run_ret_some hv;refine⟨rfl,?_⟩;obtain⟨a,rfl,hver,ha⟩:=hx.ptr_inv;obtain⟨e,inf,t1,t2,t3⟩:=ht;obtain⟨loc,ca,ty,lo',hi',hl,B⟩:=H.live hg;have hs2:loc.sz=sz:=by rw[B.sz,hs.1]
 have ha':=ha loc hl;have hb:=eC (P:=P) (w:=w) (isS:=false) (m:=n) (cap:=n) hlo hhi (D0.none) e1 e2 rfl hc.1 hc.2;refine⟨.slice (some (if n=l then a else a.add (l*sz))) (hh-l) (n-l),?_,.tok _ _ _ _ _ _ _ _ _ hver (by omega) (Pf _) (by intro h;cases h) (λloc' hl'=>?_)⟩
 ·unfold Instr.sliceAt;simp only[Sem.run_bind,br t1,Result.andThen_ok,Instr.sureAddr,hb,hI t2,t3,Sem.run_pure]
 ·rw[hl]at hl';simp only[O5]at hl';subst hl';refine⟨hs2,?_⟩;by_cases hnl:n=l
  ·left;omega
  ·right;rw[Pd hnl,ha',hs2];have:=B.fits;rw[hs.2,hs.1,B.size]at this;refine⟨by simp[Addr.add],?_⟩;have e3:l*sz+(n-l)*sz=n*sz:=by rw[<-PL];congr 1;omega
   omega
theorem sY(sz:Nat):∀(es cs:List PV),(j9 sz es cs).length=es.length
 |[],_=>rfl
 |e::es,cs=>by simp[j9,sY sz es]
theorem tF{sz:Nat}:∀{es cs:List PV}{k:Nat}{e':PV},(j9 sz es cs)[k]?=some e'->∃e,es[k]?=some e/\e'=e.withCells ((cs.drop (k*sz)).take sz)
 |[],cs,k,e',h=>by simp[j9]at h
 |e::es,cs,0,e',h=>by
  simp only[j9,Pg,O5]at h;exact⟨e,rfl,by rw[<-h];simp⟩
 |e::es,cs,k+1,e',h=>by
  simp only[j9,Qc]at h;obtain⟨e1,h1,h2⟩:=tF h;refine⟨e1,by simpa using h1,?_⟩;rw[h2,Rd,Nat.succ_mul,Nat.add_comm]
theorem DV{t:TypeId}{m:Nat}(ht:ku P t (some m)=true){x y v:PV}{cx cy:Value}{h':Heap}(hv:(pc m x y).run h=some (v,h'))(H:HR ah M h w)
  (hx:VR ah M x cx)(hy:VR ah M y cy):∃w' M',(Instr.storeAt t cx cy).run P w=.ok () w'/\Stp M w M' w'/\HR ah M' h' w':=by
 unfold pc at hv;split at hv
 case h_2=>simp[HM.run]at hv
 rename_i r ver;obtain⟨b,h1,hb,hv⟩:=HM.run_bind_some hv;obtain⟨rfl,hg⟩:=bh hb;by_cases hc:y.fits (some m)=true/\aj y.cells=true/\m=b.es.length*b.sz/\0<b.sz/\b.ro=false
 case neg=>rw[Pd hc]at hv;simp[HM.run]at hv
 rw[O9 hc]at hv;obtain⟨e0,he0,hv⟩:=bA hv;obtain⟨_,rfl⟩:=HM.run_ret_some hv;obtain⟨c1,c2,c3,c5,c4⟩:=hc;obtain⟨loc,ca,ty,lo,hi,hl,B⟩:=H.live hg;obtain⟨a,rfl,_,ha⟩:=hx.ptr_inv;have ha:=ha loc hl;subst ha;obtain⟨q1,q2,q3⟩:=VR.fits_cells c1 hy;have hsz:=B.sz;have hfit:=B.fits;have hm:y.cells.length=m:=by
  cases y<;>simp[PV.fits]at c1<;>simpa[PV.cells]using c1
 have hbound:loc.base+0*loc.sz+0+cy.cells.size<=ca.size:=by omega
 have hrun:=rk (P:=P) (w:=w) ht (v:=cy) q1 B.heap hbound B.free (by
  intro u hu;obtain⟨j,hj,rfl⟩:=List.mem_iff_getElem.1 hu;simp only[QT]at hj;have hjy:y.cells[j]?=some y.cells[j]:=Pa (by omega);obtain⟨u',h3,h4⟩:=q3 j _ hjy;rw[Pv hj]at h3;simp only[O5]at h3;rw[Array.getElem_toList,h3];exact h4.isCell_one (cI c2 hjy))
 obtain⟨H',S'⟩:=H.write hg c4 (b':=⟨b.sz,j9 b.sz b.es y.cells,false⟩) rfl hl B rfl (c':=cF ca (loc.base+0*loc.sz+0) cy.cells.toList) (da (by simpa using hbound))
  (by rw[sY];exact hfit) (by
   intro k e' hk;obtain⟨e,he,rfl⟩:=tF hk;obtain⟨he1,he2⟩:=B.cells k e he;have hkl:k<b.es.length:=by
    rcases Pt k b.es.length with z|z
    ·exact z
    ·rw[Ph z]at he;cases he
   have hmul:(k+1)*b.sz<=b.es.length*b.sz:=PA _ hkl;rw[PL,Rl]at hmul;have hcl:((y.cells.drop (k*b.sz)).take b.sz).length=b.sz:=by simp;omega
   have hat:∀(j:Nat)(x:PV),((y.cells.drop (k*b.sz)).take b.sz)[j]?=some x->j<b.sz/\y.cells[k*b.sz+j]?=some x:=by
    intro j x hj;rw[PN]at hj;split at hj
    ·rename_i hjs;rw[PP]at hj;exact⟨hjs,hj⟩
    ·cases hj
   have hcell':∀(j:Nat)(x:PV),((y.cells.drop (k*b.sz)).take b.sz)[j]?=some x->x.isCell=true/\∃u,(cF ca (loc.base+0*loc.sz+0) cy.cells.toList)[loc.base+k*b.sz+j]?=some u/\VR ah M x u:=by
    intro j x hj;obtain⟨hjs,hjy⟩:=hat j x hj;obtain⟨u,h6,h7⟩:=q3 _ _ hjy;refine⟨cI c2 hjy,u,?_,h7⟩;rw[bQ (by simpa using hbound),O9 (by simp;omega)];rw[QJ,<-h6];congr 1;omega
   have hcs:(e.withCells ((y.cells.drop (k*b.sz)).take b.sz)).cells=(y.cells.drop (k*b.sz)).take b.sz:=by
    rcases oh (e:=e) (cs:=(y.cells.drop (k*b.sz)).take b.sz) (by omega)with h8|⟨x,h8,h9⟩
    ·exact h8
    ·rw[h9,h8];have:=(hcell' 0 x (by rw[h8];rfl)).1;exact kK this
   rw[hcs];exact⟨hcl,hcell'⟩)
 exact⟨_,_,hrun,S',H'⟩
theorem wK{m:Nat}{x y v:PV}{h h':Heap}(hv:(pc m x y).run h=some (v,h')):v=.junk:=by
 unfold pc at hv;split at hv
 case h_2=>simp[HM.run]at hv
 obtain⟨b,h1,hb,hv⟩:=HM.run_bind_some hv;split at hv
 case isFalse=>simp[HM.run]at hv
 obtain⟨e0,he0,hv⟩:=bA hv;exact(HM.run_ret_some hv).1.symm
end
def v8(P:Program)(s:TypeId)(k off:Nat):Bool:=
 mg P s k off none||(match P.underlying s with
  |some (.struct fs)=>match fs[k]? with
   |some f=>match P.info? f.type with|some i=>mg P s k off (some i.size)|none=>false
   |none=>false
  |_=>false)
theorem xW{P:Program}{s:TypeId}{k off:Nat}(h:v8 P s k off=true):∃sz,mg P s k off sz=true:=by
 unfold v8 at h;simp only[Qt]at h;rcases h with h|h
 ·exact⟨_,h⟩
 ·split at h
  ·split at h
   ·split at h
    ·exact⟨_,h⟩
    ·cases h
   ·cases h
  ·cases h
def mV(P:Program)(t:TypeId)(sz:Nat):Bool:=
 match P.underlying t with
 |some (.slice e)=>match P.info? e with|some i=>i.size==sz|none=>false
 |_=>false
theorem mB{P:Program}{t:TypeId}{sz:Nat}(h:mV P t sz=true):∃e i,P.underlying t=some (.slice e)/\P.info? e=some i/\i.size=sz:=by
 unfold mV at h;split at h
 ·rename_i e hu;split at h
  ·rename_i i hi;exact⟨e,i,hu,hi,by simpa using h⟩
  ·cases h
 ·cases h
def qI(P:Program)(t:TypeId)(n sz:Nat):Bool:=
 match P.underlying t with
 |some (.array m e)=>m==n&&(match P.info? e with|some i=>i.size==sz|none=>false)
 |_=>false
theorem oP{P:Program}{t:TypeId}{n sz:Nat}(h:qI P t n sz=true):∃e i,P.underlying t=some (.array n e)/\P.info? e=some i/\i.size=sz:=by
 unfold qI at h;split at h
 ·rename_i m e hu;simp only[O6,PF]at h;obtain⟨rfl,h⟩:=h;split at h
  ·rename_i i hi;exact⟨e,i,hu,hi,by simpa using h⟩
  ·cases h
 ·cases h
def mR(P:Program)(t:TypeId):Bool:=match P.underlying t with|some .string=>true|_=>false
theorem kx{P:Program}{t:TypeId}(h:mR P t=true):P.underlying t=some .string:=by
 unfold mR at h;split at h
 ·assumption
 ·cases h
def t6(P:Program)(t:TypeId):Bool:=match P.underlying t with|some (.slice e)=>(match P.underlying e with|some (.int .u8)=>true|_=>false)|_=>false
theorem sS{P:Program}{t:TypeId}(h:t6 P t=true):∃e,P.underlying t=some (.slice e)/\P.underlying e=some (.int .u8):=by
 unfold t6 at h;split at h
 ·rename_i e hu;split at h
  ·rename_i he;exact⟨e,hu,he⟩
  ·cases h
 ·cases h
def Gn(P:Program)(t:TypeId)(k:IntKind):Bool:=match P.underlying t with|some (.int k')=>k'==k|_=>false
theorem DX{P:Program}{t:TypeId}{k:IntKind}(h:Gn P t k=true):P.underlying t=some (.int k):=by
 unfold Gn at h;split at h
 ·rename_i k' hu;simp only[PF]at h;subst h;exact hu
 ·cases h
def F4(P:Program)(t t2:TypeId)(sz:Nat):Bool:=
 match P.underlying t with
 | some (.slice e)=>match P.info? e with
  |some i=>match i.zero with
   |some z=>i.size==sz&&z.cells.size==sz&&i.bytes !=0&&decide (i.bytes<=32768)&&decide (0<sz)&&(match P.underlying t2 with|some (.slice _)=>true|some .string=>true|_=>false)
   |none=>false
  |none=>false
 |_=>false
theorem Dq{P:Program}{t t2:TypeId}{sz:Nat}(h:F4 P t t2 sz=true):∃e i z d2,C4 P t t2 sz e i z d2:=by
 unfold F4 at h;split at h
 case h_2=>cases h
 rename_i e hu;split at h
 case h_2=>cases h
 rename_i i hi;split at h
 case h_2=>cases h
 rename_i z hz;simp only[O6,PF,bne_iff_ne,PG]at h;obtain⟨⟨⟨⟨⟨h1,h2⟩,h3⟩,h4⟩,h5⟩,h6⟩:=h;split at h6
 ·rename_i e2 hu2;exact⟨e,i,z,_,⟨hu,hu2,λk=>by simp,hi,hz,h1,h2,h3,h4,h5⟩⟩
 ·rename_i hu2;exact⟨e,i,z,_,⟨hu,hu2,λk=>by simp,hi,hz,h1,h2,h3,h4,h5⟩⟩
 ·cases h6
def mY(ah:Nat->FuncId)(pl:Nat->Option (Nat×Nat)):List (Nat×Option Nat×PO)->List (Nat×Operand)->Bool
 |[],[]=>true
 |(off,sz,x)::ps,(i,y)::qs=>(pl i==some (off,jK sz))&&bz ah x y&&mY ah pl ps qs
 |_,_=>false
def ud:Nat->List (Nat×Operand)->Bool
 |_,[]=>true
 |k,(i,_)::qs=>i==k&&ud (k+1) qs
def Fv(neg:Bool):BinOp->Bool
 |.eql=> !neg
 |.neq=>neg
 |_=>false
def cf(P:Program)(ah:Nat->FuncId)(o:Oper)(op:IOp):Bool:=
 match op with
 |.mov x=>match o.op with
  |.move y=>bz ah x y
  |.assign y=>bz ah x y
  |_=>false
 |.pick c a b=>match o.op with|.pick c' a' b'=>bz ah c c'&&bz ah a a'&&bz ah b b'|_=>false
 |.box _sz x _s=>match o.op with
  |.box _t y=>bz ah x y
  |.alloc t=>match x with|.c z=>mw P t z|_=>false
  |_=>false
 |.boxA n z _s=>match o.op with|.alloc t=>mw P t (.agg (wH n z.cells))|_=>false
 |.build z ps=>match o.op with
  |.build t qs=>mw P t (.agg z)&&(match Cc P t with|some pl=>mY ah pl ps qs.toList|none=>false)
  |_=>false
 | .buildSlice sz xs _s=>match o.op with
  |.buildSlice t n qs=>n==qs.size&&ud 0 qs.toList&&v5 ah xs (qs.toList.map (·.2))&&decide (n*jK sz<=16777216)&&(match P.underlying t with
   |some (.slice e)=>ku P e sz&&(match P.info? e with|some i=>i.zero.isSome|none=>false)
   |_=>false)
  |_=>false
 |.load sz x=>match o.op with|.load t y=>ku P t sz&&bz ah x y|_=>false
 |.storeA m x y=>match o.op with|.store t p q=>ku P t (some m)&&bz ah x p&&bz ah y q|_=>false
 |.store sz x y=>match o.op with|.store t p q=>ku P t sz&&bz ah x p&&bz ah y q|_=>false
 |.nilchk x=>match o.op with|.nilCheck y=>bz ah x y|_=>false
 |.bin op x y=>match o.op with|.binOp op' _t p q _=>op==op'&&bz ah x p&&bz ah y q|_=>false
 |.eqs neg ks x y=>match o.op with
  |.binOp op' t p q _=>Fv neg op'&&bz ah x p&&bz ah y q&&n6 P 20 t ks&& !P.eqGuardType P.depth t&&(match P.underlying t with|some (.struct _)=>true|_=>false)
  |_=>false
 |.eqb neg x y=>match o.op with|.binOp op' t p q _=>Fv neg op'&&bz ah x p&&bz ah y q&&(match P.underlying t with|some .bool=>true|_=>false)|_=>false
 |.eqn k neg x y=>match o.op with|.binOp op' t p q _=>Fv neg op'&&bz ah x p&&bz ah y q&&uo P t k|_=>false
 |.un op x=>match o.op with|.unOp op' _ y=>op==op'&&bz ah x y|_=>false
 |.toInt k x=>match o.op with|.convert src dst y=>(P.underlying src).isSome&&Gn P dst k&&bz ah x y|_=>false
 |.b2s x=>match o.op with|.convert src dst y=>t6 P src&&mR P dst&&bz ah x y|_=>false
 |.slice sz x lo hi mx=>match o.op with
  |.slice t y l h m=>(if sz=0 then mR P t else mV P t sz)&&bz ah x y&&Ay ah lo l&&Ay ah hi h&&Ay ah mx m
  |_=>false
 |.fieldAddr x off=>match o.op with|.fieldAddr s y k=>v8 P s k off&&bz ah x y|_=>false
 |.field sz x off=>match o.op with|.field s y k=>mg P s k off sz&&bz ah x y|_=>false
 |.indexAddr sz x i=>match o.op with|.indexAddr t y j=>mV P t sz&&decide (0<sz)&&bz ah x y&&bz ah i j|_=>false
 |.idxArr n sz x i=>match o.op with|.indexAddr t y j=>qI P t n sz&&bz ah x y&&bz ah i j|_=>false
 |.idxArrB n sz x i=>match o.op with|.indexAddr t y j=>qI P t n sz&&bz ah x y&&bz ah i j|_=>false
 |.sliceArr n sz x lo hi=>match o.op with|.slice t y l h none=>qI P t n sz&&bz ah x y&&Ay ah lo l&&Ay ah hi h|_=>false
 |.extract x i=>match o.op with|.extract y j=>i==j&&bz ah x y|_=>false
 |.mkfn f cs=>match o.op with|.makeFunc (.func g) a b=>ah f==g&&a.size==0&&v5 ah cs b.toList|_=>false
 | .mkslice sz z n _s=>match o.op with
  |.makeSlice t l c=>bz ah n l&&bz ah n c&&(match P.underlying t with
   |some (.slice e)=>mw P e z&&(match P.info? e with|some i=>i.size==sz&&decide (i.bytes<=32768)|none=>false)
   |_=>false)
  |_=>false
 |.call f xs _s=>match o.op with
  |.call c=>(match c.callee with|.value (.func g)=>ah f==g|_=>false)&&v5 ah xs c.args.toList
  |_=>false
 |.callD f xs _s _n=>match o.op with
  |.call c=>(match c.callee with|.value (.func g)=>ah f==g|_=>false)&&v5 ah xs c.args.toList
  |_=>false
 |.callv g xs _s=>match o.op with
  |.call c=>(match c.callee with|.value y=>bz ah g y|_=>false)&&v5 ah xs c.args.toList
  |_=>false
 | .append sz x y _s=>match o.op with
  |.call c=>(match c.callee with|.builtin .append=>true|_=>false)&&(match c.argTypes.toList,c.args.toList with
   |[t,t2],[p,q]=>F4 P t t2 sz&&bz ah x p&&bz ah y q
   |_,_=>false)
  |_=>false
 |.same x=>match o.op with|.convert src dst y=>src==dst&&t6 P src&&bz ah x y|_=>false
 | .len x=>match o.op with
  |.call c=>(match c.callee with|.builtin .len=>true|_=>false)&&(match c.argTypes.toList,c.args.toList with
   |[t],[p]=>(match P.underlying t with|some (.slice _)=>true|_=>false)&&bz ah x p
   |_,_=>false)
  |_=>false
 | .lenS x=>match o.op with
  |.call c=>(match c.callee with|.builtin .len=>true|_=>false)&&(match c.argTypes.toList,c.args.toList with
   |[t],[p]=>mR P t&&bz ah x p
   |_,_=>false)
  |_=>false
 | .copy sz x y=>match o.op with
  |.call c=>(match c.callee with|.builtin .copy=>true|_=>false)&&(match c.argTypes.toList,c.args.toList with
   |[t,_t2],[p,q]=>mV P t sz&&bz ah x p&&bz ah y q
   |_,_=>false)
  |_=>false
 | .clear z x=>match o.op with
  |.call c=>(match c.callee with|.builtin .clear=>true|_=>false)&&(match c.argTypes.toList,c.args.toList with
   |[t],[p]=>(match P.underlying t with|some (.slice e)=>mw P e z|_=>false)&&bz ah x p
   |_,_=>false)
  |_=>false
 |.mm b xs=>match o.op with
  |.call c=>(match c.callee with|.builtin .max=>b|.builtin .min=> !b|_=>false)&&v5 ah xs c.args.toList
  |_=>false
 |.sidx x i=>match o.op with|.index t y j=>mR P t&&bz ah x y&&bz ah i j|_=>false
 |.bad=>true
 |_=>false
def nT(P:Program)(g:FuncId):Prop:=∃fn c,P.funcs[g]?=some fn/\(fn.name=="runtime.NumGoroutine")=false/\fn.body=some c
section
variable{ah:Nat->FuncId}{P:Program}{M:Mp}{w:World}{h:Heap}{fr:List PV}{a:Act}
def OpR(ah:Nat->FuncId)(P:Program)(M:Mp)(w:World)(a:Act)(o:Oper)(v:PV)(h':Heap):Prop:=
 ∀(K:Act->World->Prop)(Q:Exit->Act->World->Prop),(∀c w' M',Stp M w M' w'->HR ah M' h' w'->VR ah M' v c->K (a.put o.dst c) w')->o.wp P a w K Q
theorem OpR.val{o:Oper}{s:Sem Value}{v:PV}{h':Heap}(he:execOp a.eval o=(do pure (.value (<-s))))(hs:OkR ah P M w s v h'):OpR ah P M w a o v h':=by
 intro K Q hK;obtain⟨c,w',M',h1,h2,h3,h4⟩:=hs;unfold Oper.wp;rw[he,Sem.run_bind,h1];exact hK c w' M' h2 h3 h4
theorem OpR.val'{o:Oper}{s:Sem Value}{v:PV}(he:execOp a.eval o=(do pure (.value (<-s))))(H:HR ah M h w)(hs:∃u,s.run P w=.ok u w/\VR ah M v u):OpR ah P M w a o v h:=by
 obtain⟨u,h1,h2⟩:=hs;exact OpR.val he (OkR.pure H h1 h2)
theorem OpR.pure{o:Oper}{v:PV}{c:Value}(he:execOp a.eval o=Pure.pure (.value c))(H:HR ah M h w)(hv:VR ah M v c):OpR ah P M w a o v h:=by
 intro K Q hK;unfold Oper.wp;rw[he];exact hK c w M (.refl _ _) H hv
theorem OpR.unit{o:Oper}{s:Sem Unit}{v:PV}{h':Heap}(he:execOp a.eval o=(do s;Pure.pure .skip))(hs:∃w' M',s.run P w=.ok () w'/\Stp M w M' w'/\HR ah M' h' w')(hv:v=.junk):OpR ah P M w a o v h':=by
 intro K Q hK;obtain⟨w',M',h1,h2,h3⟩:=hs;unfold Oper.wp;rw[he,Sem.run_bind,h1];subst hv;exact hK undef w' M' h2 h3 (.junk _)
theorem yY{sz:Option Nat}{x y v:PV}{h':Heap}(hv:(fK sz x y).run h=some (v,h')):v=.junk:=by
 unfold fK at hv;split at hv
 ·obtain⟨b,h1,hb,hv⟩:=HM.run_bind_some hv;split at hv
  ·split at hv
   ·obtain⟨e0,he0,hv⟩:=bA hv;obtain⟨rfl,rfl⟩:=HM.run_ret_some hv;rfl
   ·simp[HM.run]at hv
  ·simp[HM.run]at hv
 ·simp[HM.run]at hv
theorem uQ{C:cG}(hC:iX P ah C)(hE:∀f args G r,C f args G=some r->nT P (ah f)){ro:List Bool}{f:Nat}{args0:List PV}{s:Nat}{v:PV}{h':Heap}{cargs:Array Value}{o:Oper}
  (hv:(fc C ro f args0 s).run h=some (v,h'))(H:HR ah M h w)(hl:args0.length=cargs.size)(ha:∀(i:Nat)(e:PV)(u:Value),args0[i]?=some e->cargs[i]?=some u->VR ah M e u)
  (he:∀fn c,P.funcs[ah f]?=some fn->(fn.name=="runtime.NumGoroutine")=false->fn.body=some c->(execOp a.eval o).run P w=.ok (.enter (ah f) cargs) w):OpR ah P M w a o v h':=by
 have hc:=Il hC hv H hl ha;have hsome:∃args G r,C f args G=some r:=by
  unfold fc at hv;obtain⟨args,h1,hro,hv2⟩:=HM.run_bind_some hv;obtain⟨bor,h2,hcol,hv3⟩:=HM.run_bind_some hv2;split at hv3
  ·simp[HM.run]at hv3
  ·split at hv3
   ·simp[HM.run]at hv3
   ·rename_i r G hcf;exact⟨_,_,_,hcf⟩
 obtain⟨args,G,r,hcf⟩:=hsome;obtain⟨fn,c,g1,g2,g3⟩:=hE f args G r hcf;intro K Q hK;unfold Oper.wp;rw[he fn c g1 g2 g3];refine Calls.mono hc ?_
 rintro e w' ⟨c,M',rfl,S,H',V⟩
 exact hK c w' M' S H' V
theorem rW{f:FuncId}{fn:Func}{c:Code}(hf:P.funcs[f]?=some fn)(hname:(fn.name=="runtime.NumGoroutine")=false)(hb:fn.body=some c)(args:Array Value)(w:World):
  (callFunc f args).run P w=.ok (.enter f args) w:=by
 have h1:fn.name≠"runtime.NumGoroutine":=by simpa using hname
 simp[callFunc,hf,h1,hb]
end
section
variable{ah:Nat->FuncId}{P:Program}{M:Mp}{w:World}{h:Heap}{fr:List PV}{a:Act}
theorem parts_ok{pl:Nat->Option (Nat×Nat)}:∀{ps:List (Nat×Option Nat×PO)}{qs:List (Nat×Operand)},mY ah pl ps qs=true->FrR ah M fr a.tmps->
  qw ah M pl (mj (PO.ev fr) ps) (qs.map λq=>(q.1,a.eval q.2))
 |[],[],_,_=>.nil
 |[],_::_,h,_=>by simp[mY]at h
 |_::_,[],h,_=>by simp[mY]at h
 |(off,sz,x)::ps,(i,y)::qs,h,F=>by
  simp only[mY,O6,PF]at h;exact .cons _ _ _ _ _ _ _ (aA h.1.2 F) h.1.1 (parts_ok h.2 F)
theorem uZ:∀{k:Nat}{qs:List (Nat×Operand)},ud k qs=true->(qs.map λq=>(q.1,a.eval q.2))=((qs.map λq=>a.eval q.2).zipIdx k).map λp=>(p.2,p.1)
 |k,[],_=>rfl
 |k,(i,y)::qs,h=>by
  simp only[ud,O6,PF]at h;simp only[PM,List.zipIdx_cons];rw[uZ h.2,h.1]
theorem wq{α:Type}{k:Nat->HM α}{v:α}{h':Heap}:∀(n:Nat){s:Nat},(sI k s n).run h=some (v,h')->∃s',(k s').run h=some (v,h')
 |0,s,hv=>⟨s,hv⟩
 | n+1,s,hv=>by
  simp only[sI,HM.run]at hv;cases hg:h.get (.l s)with
  |none=>rw[hg]at hv;cases hv
  |some e=>
   rw[hg]at hv;simp only at hv;split at hv
   ·exact⟨s,hv⟩
   ·exact wq n hv
theorem yi{neg:Bool}{op:BinOp}(h:Fv neg op=true):op=if neg then .neq else .eql:=by
 cases op<;>cases neg<;>simp[Fv]at h<;>rfl
theorem MG{C:cG}(hC:iX P ah C)(hE:∀f args G r,C f args G=some r->nT P (ah f)){RO:Nat->List Bool}{o:Oper}{op:IOp}{v:PV}{h':Heap}(hc:cf P ah o op=true)
  (hv:(iQ RO C (PO.ev fr) op).run h=some (v,h'))(H:HR ah M h w)(F:FrR ah M fr a.tmps):OpR ah P M w a o v h':=by
 cases op with
 |mov x=>
  obtain⟨rfl,rfl⟩:=HM.run_ret_some hv;simp only[cf]at hc;split at hc
  ·rename_i y ho;exact OpR.pure (by simp[execOp,ho]) H (aA hc F)
  ·rename_i y ho;exact OpR.pure (by simp[execOp,ho]) H (aA hc F)
  ·cases hc
 | pick c x y=>
  simp only[cf]at hc;split at hc
  case h_2=>cases hc
  rename_i c' x' y' ho;simp only[O6]at hc;obtain⟨rfl,t,h1,h2⟩:=HE (P:=P) hv (aA hc.1.1 F) (aA hc.1.2 F) (aA hc.2 F);intro K Q hK;unfold Oper.wp;have:(execOp a.eval o).run P w=.ok (.value (if t then a.eval x' else a.eval y')) w:=by
   simp only[execOp,ho,Sem.run_bind,h1,Result.andThen_ok,Sem.run_pure]
  rw[this];exact hK _ w M (.refl _ _) H h2
 | box sz x s=>
  simp only[cf]at hc;split at hc
  ·rename_i t y ho;exact OpR.val (s:=Instr.box t (a.eval y)) (by simp only[execOp,ho]) (box_ok H hv (aA hc F))
  ·rename_i t ho;split at hc
   ·rename_i z;exact OpR.val (by simp only[execOp,ho]) (F9 H hv hc)
   ·cases hc
  ·cases hc
 |boxA n z s=>
  simp only[cf]at hc;split at hc
  case h_2=>cases hc
  rename_i t ho;exact OpR.val (by simp only[execOp,ho]) (H6 H hv hc)
 | build z ps=>
  simp only[cf]at hc;split at hc
  case h_2=>cases hc
  rename_i t qs ho;simp only[O6]at hc;obtain⟨h1,h2⟩:=hc;split at h2
  case h_2=>cases h2
  rename_i pl hpl;obtain⟨rfl,hb⟩:=FQ (P:=P) (w:=w) hv h1 hpl (parts_ok h2 F);refine OpR.val' (s:=Instr.build t (qs.map λ(i,x)=>(i,a.eval x))) (by simp only[execOp,ho]) H ?_;have e1:(List.map (λq:Nat×Operand=>(q.1,a.eval q.2)) qs.toList).toArray=qs.map λ(i,x)=>(i,a.eval x):=by
   apply Array.ext';simp
  rw[e1]at hb;exact hb
 | buildSlice sz xs s=>
  simp only[cf]at hc;split at hc
  case h_2=>cases hc
  rename_i t n qs ho;simp only[O6,PF,PG]at hc;obtain⟨⟨⟨⟨h1,h2⟩,h3⟩,h4⟩,h5⟩:=hc;split at h5
  case h_2=>cases h5
  rename_i e hu;simp only[O6]at h5;obtain⟨h5,h6⟩:=h5;split at h6
  case h_2=>cases h6
  rename_i i hi;cases hz:i.zero with
  |none=>rw[hz]at h6;cases h6
  | some zv=>
   obtain⟨g1,g2⟩:=nD h3 F;have hl:(List.map a.eval (qs.toList.map (·.2))).length=n:=by rw[PU,PU,QT];exact h1.symm
   have hb:=wB (P:=P) (cs:=(qs.toList.map (·.2)).map a.eval) H hv hu h5 hi hz (by rw[PU];exact g1) g2 (by rw[hl];exact h4);rw[hl]at hb;refine OpR.val (s:=Instr.buildSlice t n (qs.map λ(i,x)=>(i,a.eval x))) (by simp only[execOp,ho]) ?_;have e1:(((qs.toList.map (·.2)).map a.eval).zipIdx.map λp=>(p.2,p.1)).toArray=qs.map λ(i,x)=>(i,a.eval x):=by
    have:=uZ (a:=a) h2;rw[List.map_map];apply Array.ext';simp only[Array.toList_map];exact this.symm
   rw[e1]at hb;exact hb
 |load sz x=>
  simp only[cf]at hc;split at hc
  case h_2=>cases hc
  rename_i t y ho;simp only[O6]at hc;obtain⟨rfl,ad,h1,u,h2,h3⟩:=xF hc.1 hv (aA hc.2 F) H;exact OpR.val' (s:=Instr.loadAt t (a.eval y)) (by simp only[execOp,ho]) H ⟨u,by rw[h1];simp only[Instr.loadAt,Instr.sureAddr,Sem.run_bind,Sem.run_pure,Result.andThen_ok];exact h2,h3⟩
 |storeA m x y=>
  simp only[cf]at hc;split at hc
  case h_2=>cases hc
  rename_i t p q ho;simp only[O6]at hc;exact OpR.unit (by simp only[execOp,ho]) (DV hc.1.1 hv H (aA hc.1.2 F) (aA hc.2 F)) (wK hv)
 |store sz x y=>
  simp only[cf]at hc;split at hc
  case h_2=>cases hc
  rename_i t p q ho;simp only[O6]at hc;exact OpR.unit (by simp only[execOp,ho]) (Gd hc.1.1 hv H (aA hc.1.2 F) (aA hc.2 F)) (yY hv)
 |nilchk x=>
  simp only[cf]at hc;split at hc
  case h_2=>cases hc
  rename_i y ho;have hy:=aA hc F;obtain⟨rfl,rfl,hk⟩:=DN hv hy;refine OpR.pure (c:=a.eval y) ?_ H hy;rcases hk with⟨ad,hk⟩|⟨f,vs,hk⟩<;>simp only[execOp,ho,hk]
 |bin op x y=>
  simp only[cf]at hc;split at hc
  case h_2=>cases hc
  rename_i op' t p q ty ho;simp only[O6,PF]at hc;obtain⟨⟨rfl,h1⟩,h2⟩:=hc;obtain⟨hb,rfl⟩:=HM.run_ofO_some hv;exact OpR.val' (by simp only[execOp,ho]) H (J9 hb (aA h1 F) (aA h2 F) t p q)
 |eqs neg ks x y=>
  simp only[cf]at hc;split at hc
  case h_2=>cases hc
  rename_i op' t p q ty ho;simp only[O6,PC]at hc;obtain⟨⟨⟨⟨⟨h0,h1⟩,h2⟩,h3⟩,h4⟩,h5⟩:=hc;split at h5
  case h_2=>cases h5
  rename_i fs hu;have:=yi h0;subst this;obtain⟨rfl,hb⟩:=J3 (P:=P) (w:=w) hv (aA h1 F) (aA h2 F) hu h3 h4 p q;exact OpR.val' (by simp only[execOp,ho]) H hb
 |eqb neg x y=>
  simp only[cf]at hc;split at hc
  case h_2=>cases hc
  rename_i op' t p q ty ho;simp only[O6]at hc;obtain⟨⟨⟨h0,h1⟩,h2⟩,h5⟩:=hc;split at h5
  case h_2=>cases h5
  rename_i hu;have:=yi h0;subst this;obtain⟨hb,rfl⟩:=HM.run_ofO_some hv;exact OpR.val' (by simp only[execOp,ho]) H (Kz hb (aA h1 F) (aA h2 F) hu p q)
 |eqn k neg x y=>
  simp only[cf]at hc;split at hc
  case h_2=>cases hc
  rename_i op' t p q ty ho;simp only[O6]at hc;obtain⟨⟨⟨h0,h1⟩,h2⟩,h5⟩:=hc;have:=yi h0;subst this;obtain⟨hb,rfl⟩:=HM.run_ofO_some hv;exact OpR.val' (by simp only[execOp,ho]) H (Jc hb (aA h1 F) (aA h2 F) h5 p q)
 |un op x=>
  simp only[cf]at hc;split at hc
  case h_2=>cases hc
  rename_i op' ty y ho;simp only[O6,PF]at hc;obtain⟨rfl,h1⟩:=hc;obtain⟨hb,rfl⟩:=HM.run_ofO_some hv;exact OpR.val' (by simp only[execOp,ho]) H (MN hb (aA h1 F))
 |toInt k x=>
  simp only[cf]at hc;split at hc
  case h_2=>cases hc
  rename_i src dst y ho;simp only[O6,Option.isSome_iff_exists]at hc;obtain⟨⟨⟨d,h1⟩,h2⟩,h3⟩:=hc;obtain⟨rfl,hb⟩:=Ga (P:=P) (w:=w) hv (aA h3 F) h1 (DX h2);exact OpR.val' (by simp only[execOp,ho]) H hb
 |b2s x=>
  simp only[cf]at hc;split at hc
  case h_2=>cases hc
  rename_i src dst y ho;simp only[O6]at hc;obtain⟨e,h1,h2⟩:=sS hc.1.1;obtain⟨rfl,hb⟩:=JM hv H (aA hc.2 F) h1 h2 (kx hc.1.2);exact OpR.val' (by simp only[execOp,ho]) H hb
 |s2b x s=>simp[cf]at hc
 | slice sz x lo hi mx=>
  simp only[cf]at hc;split at hc
  case h_2=>cases hc
  rename_i t y l hh m ho;simp only[O6]at hc;obtain⟨⟨⟨⟨h1,h2⟩,h3⟩,h4⟩,h5⟩:=hc;obtain⟨hb,rfl⟩:=HM.run_ofO_some hv;unfold cV at hb;split at hb
  case isFalse=>cases hb
  rename_i hst;have hx:=aA h2 F;refine OpR.val' (s:=Instr.sliceAt t (a.eval y) (l.map a.eval) (hh.map a.eval) (m.map a.eval)) (by simp only[execOp,ho]) H ?_;by_cases hsz:sz=0
  ·rw[O9 hsz]at h1;have hs:=kx h1;subst hsz;have hst':(PO.ev fr x).isStr=true:=by rw[hst];rfl
   refine zH hb hx (me h3 F) (me h4 F) (me h5 F) (.inr hs) (λ_ _=>hs) (λhn=>?_);exfalso;cases hxx:PO.ev fr x<;>first|(rw[hxx]at hst';cases hst';done)|exact hn _ hxx
  ·rw[Pd hsz]at h1;obtain⟨e,i,g1,g2,g3⟩:=mB h1;have hst':(PO.ev fr x).isStr=false:=by rw[hst];simpa using hsz
   refine zH hb hx (me h3 F) (me h4 F) (me h5 F) (.inl ⟨e,i,g1,g2,g3⟩) (λs hs=>?_) (λ_=>by rw[g1];simp);rw[hs]at hst';cases hst'
 |fieldAddr x off=>
  simp only[cf]at hc;split at hc
  case h_2=>cases hc
  rename_i s y k ho;simp only[O6]at hc;obtain⟨sz,h1⟩:=xW hc.1;obtain⟨hb,rfl⟩:=HM.run_ofO_some hv;exact OpR.val' (by simp only[execOp,ho]) H (yB hb (aA hc.2 F) h1)
 |field sz x off=>
  simp only[cf]at hc;split at hc
  case h_2=>cases hc
  rename_i s y k ho;simp only[O6]at hc;obtain⟨rfl,hb⟩:=E3 (P:=P) (w:=w) hv (aA hc.2 F) hc.1;exact OpR.val' (by simp only[execOp,ho]) H hb
 |indexAddr sz x i=>
  simp only[cf]at hc;split at hc
  case h_2=>cases hc
  rename_i t y j ho;simp only[O6,PG]at hc;obtain⟨⟨⟨h1,h2⟩,h3⟩,h4⟩:=hc;obtain⟨hb,rfl⟩:=HM.run_ofO_some hv;exact OpR.val' (by simp only[execOp,ho]) H (yg hb (aA h3 F) (aA h4 F) (mB h1) h2)
 |idxArr n sz x i=>
  simp only[cf]at hc;split at hc
  case h_2=>cases hc
  rename_i t y j ho;simp only[O6]at hc;obtain⟨⟨h1,h3⟩,h4⟩:=hc;obtain⟨hb,rfl⟩:=HM.run_ofO_some hv;exact OpR.val' (by simp only[execOp,ho]) H (Eu hb (aA h3 F) (aA h4 F) (oP h1))
 |idxArrB n sz x i=>
  simp only[cf]at hc;split at hc
  case h_2=>cases hc
  rename_i t y j ho;simp only[O6]at hc;obtain⟨⟨h1,h3⟩,h4⟩:=hc;obtain⟨rfl,hb⟩:=BV (P:=P) (w:=w) H hv (aA h3 F) (aA h4 F) (oP h1);exact OpR.val' (by simp only[execOp,ho]) H hb
 |sliceArr n sz x lo hi=>
  simp only[cf]at hc;split at hc
  case h_2=>cases hc
  rename_i t y l hh ho;simp only[O6]at hc;obtain⟨⟨⟨h1,h2⟩,h3⟩,h4⟩:=hc;obtain⟨rfl,hb⟩:=AO (P:=P) (w:=w) H hv (aA h2 F) (me h3 F) (me h4 F) (oP h1);exact OpR.val' (s:=Instr.sliceAt t (a.eval y) (l.map a.eval) (hh.map a.eval) none) (by simp only[execOp,ho,Option.map_none]) H hb
 |extract x i=>
  simp only[cf]at hc;split at hc
  case h_2=>cases hc
  rename_i y j ho;simp only[O6,PF]at hc;obtain⟨rfl,h1⟩:=hc;obtain⟨rfl,hb⟩:=BO (P:=P) (w:=w) hv (aA h1 F);exact OpR.val' (by simp only[execOp,ho]) H hb
 |mkfn f cs=>
  simp only[cf]at hc;split at hc
  case h_2=>cases hc
  rename_i g p q ho;simp only[O6,PF]at hc;obtain⟨⟨rfl,h1⟩,h2⟩:=hc;obtain⟨rfl,rfl⟩:=HM.run_ret_some hv;obtain⟨g1,g2⟩:=nD h2 F;have hp:p= #[]:=Array.eq_empty_of_size_eq_zero h1;subst hp;refine OpR.val' (s:=Instr.makeFunc (.func (ah f)) #[] (q.map a.eval)) (by simp only[execOp,ho];simp) H ⟨_,rfl,?_⟩;refine .fn f _ (q.map a.eval) (by rw[g1];simp) (λi e u hi hu=>g2 i e u hi ?_);rw[<-hu];simp[Pk,Q6]
 | mkslice sz z n s=>
  simp only[cf]at hc;split at hc
  case h_2=>cases hc
  rename_i t l c ho;simp only[O6]at hc;obtain⟨⟨h1,h2⟩,h3⟩:=hc;split at h3
  case h_2=>cases h3
  rename_i e hu;simp only[O6]at h3;obtain⟨h3,h4⟩:=h3;split at h4
  case h_2=>cases h4
  rename_i i hi;simp only[O6,PF,PG]at h4;obtain⟨i',zv,k1,k2,k3⟩:=lz (ah:=ah) h3;rw[hi]at k1;cases k1;have hn:=aA h1 F;have hn2:=aA h2 F;have heq:a.eval l=a.eval c:=by
   have hint:∃k z,PO.ev fr n=.int k z:=by
    simp only[iQ]at hv;unfold kE at hv;split at hv
    ·rename_i k z hz;exact⟨k,z,hz⟩
    ·simp[HM.run]at hv
   obtain⟨k,z,hz⟩:=hint;rw[hz]at hn hn2;rw[hn.int_inv,hn2.int_inv]
  have hb:=Bu (P:=P) H hv hn hu hi k2 h4.1 h4.2 k3;refine OpR.val (s:=Instr.makeSlice t (a.eval l) (a.eval c)) (by simp only[execOp,ho]) ?_;rw[<-heq];exact hb
 |call f xs s=>
  simp only[cf]at hc;split at hc
  case h_2=>cases hc
  rename_i c ho;simp only[O6]at hc;obtain⟨h1,h2⟩:=hc;split at h1
  case h_2=>cases h1
  rename_i g hg;simp only[PF]at h1;subst h1;obtain⟨g1,g2⟩:=nD h2 F;refine uQ (cargs:=c.args.map a.eval) hC hE hv H (by rw[g1];simp) (λi e u hi hu=>g2 i e u hi (by rw[<-hu];simp[Pk,Q6])) (λfn cd k1 k2 k3=>?_);have:=rW (P:=P) k1 k2 k3 (c.args.map a.eval) w;simp only[execOp,ho,resolve,hg,Act.eval,Deferred.ofValue,Sem.run_bind,Sem.run_pure,Result.andThen_ok,invoke];rw[<-this];congr 2;simp
 |callD f xs s n=>
  simp only[cf]at hc;split at hc
  case h_2=>cases hc
  rename_i c ho;simp only[O6]at hc;obtain⟨h1,h2⟩:=hc;split at h1
  case h_2=>cases h1
  rename_i g hg;simp only[PF]at h1;subst h1;obtain⟨g1,g2⟩:=nD h2 F;obtain⟨s',hv'⟩:=wq n (s:=s) hv;refine uQ (cargs:=c.args.map a.eval) hC hE hv' H (by rw[g1];simp) (λi e u hi hu=>g2 i e u hi (by rw[<-hu];simp[Pk,Q6])) (λfn cd k1 k2 k3=>?_);have:=rW (P:=P) k1 k2 k3 (c.args.map a.eval) w;simp only[execOp,ho,resolve,hg,Act.eval,Deferred.ofValue,Sem.run_bind,Sem.run_pure,Result.andThen_ok,invoke];rw[<-this];congr 2;simp
 | callv g xs s=>
  simp only[cf]at hc;split at hc
  case h_2=>cases hc
  rename_i c ho;simp only[O6]at hc;obtain⟨h1,h2⟩:=hc;split at h1
  case h_2=>cases h1
  rename_i y hg;obtain⟨g1,g2⟩:=nD h2 F;simp only[iQ]at hv;unfold pi at hv;split at hv
  case h_2=>simp[HM.run]at hv
  rename_i f caps hfn;have hy:=aA h1 F;rw[hfn]at hy;obtain⟨vs,hvs,q1,q2⟩:=hy.fn_inv;have hsz:(kQ (PO.ev fr) xs).length=(c.args.map a.eval).size:=by rw[g1];simp
  refine uQ (cargs:=c.args.map a.eval++vs) hC hE hv H (by rw[Pu,Array.size_append,hsz,q1]) (λi e u hi hu=>?_) (λfn cd k1 k2 k3=>?_)
  ·rcases Pt i (kQ (PO.ev fr) xs).length with z|z
   ·rw[Pz z]at hi;rw[Qr (by rw[<-hsz];exact z)]at hu;exact g2 i e u hi (by rw[<-hu];simp[Pk,Q6])
   ·rw[Pp z]at hi;rw[Array.getElem?_append_right (by rw[<-hsz];exact z),<-hsz]at hu;exact q2 _ e u hi hu
  ·have:=rW (P:=P) k1 k2 k3 (c.args.map a.eval++vs) w;simp only[execOp,ho,resolve,hg,hvs,Deferred.ofValue,Sem.run_bind,Sem.run_pure,Result.andThen_ok,invoke];rw[<-this];congr 2;simp
 |append sz x y s=>
  simp only[cf]at hc;split at hc
  case h_2=>cases hc
  rename_i c ho;simp only[O6]at hc;obtain⟨h1,h2⟩:=hc;split at h1
  case h_2=>cases h1
  rename_i hg;split at h2
  case h_2=>cases h2
  rename_i t t2 p q hat har;simp only[O6]at h2;obtain⟨⟨h2,h3⟩,h4⟩:=h2;obtain⟨e,i,z,d2,T⟩:=Dq h2;refine OpR.val (s:=Builtin.append_ #[t,t2] o.type #[a.eval p,a.eval q]) ?_ (DF T H hv (aA h3 F) (aA h4 F));have e1:c.argTypes= #[t,t2]:=by rw[<-Qm (xs:=c.argTypes),hat]
  have e2:c.args= #[p,q]:=by rw[<-Qm (xs:=c.args),har]
  have e3:Array.map a.eval #[p,q]= #[a.eval p,a.eval q]:=by simp
  simp only[execOp,ho,resolve,hg,e1,e2,e3,invoke,builtin,pure_bind]
 |copy sz x y=>
  simp only[cf]at hc;split at hc
  case h_2=>cases hc
  rename_i c ho;simp only[O6]at hc;obtain⟨h1,h2⟩:=hc;split at h1
  case h_2=>cases h1
  rename_i hg;split at h2
  case h_2=>cases h2
  rename_i t t2 p q hat har;simp only[O6]at h2;obtain⟨⟨h2,h3⟩,h4⟩:=h2;obtain⟨e,i,g1,g2,g3⟩:=mB h2;refine OpR.val (s:=Builtin.copy_ #[t,t2] o.type #[a.eval p,a.eval q]) ?_ (Hy g1 g2 g3 H hv (aA h3 F) (aA h4 F));have e1:c.argTypes= #[t,t2]:=by rw[<-Qm (xs:=c.argTypes),hat]
  have e2:c.args= #[p,q]:=by rw[<-Qm (xs:=c.args),har]
  have e3:Array.map a.eval #[p,q]= #[a.eval p,a.eval q]:=by simp
  simp only[execOp,ho,resolve,hg,e1,e2,e3,invoke,builtin,pure_bind]
 |clear z x=>
  simp only[cf]at hc;split at hc
  case h_2=>cases hc
  rename_i c ho;simp only[O6]at hc;obtain⟨h1,h2⟩:=hc;split at h1
  case h_2=>cases h1
  rename_i hg;split at h2
  case h_2=>cases h2
  rename_i t p hat har;simp only[O6]at h2;obtain⟨h2,h3⟩:=h2;split at h2
  case h_2=>cases h2
  rename_i e hu;obtain⟨i,zv,k1,k2,k3⟩:=lz (ah:=ah) h2;refine OpR.val (s:=Builtin.clear_ #[t] o.type #[a.eval p]) ?_ (FM hu k1 k2 k3 H hv (aA h3 F));have e1:c.argTypes= #[t]:=by rw[<-Qm (xs:=c.argTypes),hat]
  have e2:c.args= #[p]:=by rw[<-Qm (xs:=c.args),har]
  have e3:Array.map a.eval #[p]= #[a.eval p]:=by simp
  simp only[execOp,ho,resolve,hg,e1,e2,e3,invoke,builtin,pure_bind]
 |len x=>
  simp only[cf]at hc;split at hc
  case h_2=>cases hc
  rename_i c ho;simp only[O6]at hc;obtain⟨h1,h2⟩:=hc;split at h1
  case h_2=>cases h1
  rename_i hg;split at h2
  case h_2=>cases h2
  rename_i t p hat har;simp only[O6]at h2;obtain⟨h2,h3⟩:=h2;split at h2
  case h_2=>cases h2
  rename_i e hu;obtain⟨hb,rfl⟩:=HM.run_ofO_some hv;refine OpR.val' (s:=Builtin.len_ #[t] o.type #[a.eval p]) ?_ H (Ja hb (aA h3 F) hu);have e1:c.argTypes= #[t]:=by rw[<-Qm (xs:=c.argTypes),hat]
  have e2:c.args= #[p]:=by rw[<-Qm (xs:=c.args),har]
  have e3:Array.map a.eval #[p]= #[a.eval p]:=by simp
  simp only[execOp,ho,resolve,hg,e1,e2,e3,invoke,builtin,pure_bind]
 |lenS x=>
  simp only[cf]at hc;split at hc
  case h_2=>cases hc
  rename_i c ho;simp only[O6]at hc;obtain⟨h1,h2⟩:=hc;split at h1
  case h_2=>cases h1
  rename_i hg;split at h2
  case h_2=>cases h2
  rename_i t p hat har;simp only[O6]at h2;obtain⟨h2,h3⟩:=h2;obtain⟨hb,rfl⟩:=HM.run_ofO_some hv;refine OpR.val' (s:=Builtin.len_ #[t] o.type #[a.eval p]) ?_ H (GV hb (aA h3 F) (kx h2));have e1:c.argTypes= #[t]:=by rw[<-Qm (xs:=c.argTypes),hat]
  have e2:c.args= #[p]:=by rw[<-Qm (xs:=c.args),har]
  have e3:Array.map a.eval #[p]= #[a.eval p]:=by simp
  simp only[execOp,ho,resolve,hg,e1,e2,e3,invoke,builtin,pure_bind]
 | mm b xs=>
  simp only[cf]at hc;split at hc
  case h_2=>cases hc
  rename_i c ho;simp only[O6]at hc;obtain⟨h1,h2⟩:=hc;obtain⟨g1,g2⟩:=nD h2 F;simp only[iQ]at hv;cases hxs:kQ (PO.ev fr) xs with
  |nil=>rw[hxs]at hv;simp[D7,HM.run]at hv
  | cons y ys=>
   rw[hxs]at hv g1 g2;simp only[D7]at hv;obtain⟨hb,rfl⟩:=HM.run_ofO_some hv;cases hargs:c.args.toList with
   |nil=>rw[hargs]at g1;simp at g1
   | cons p ps=>
    rw[hargs]at g1 g2;obtain⟨u,e1,e2⟩:=EW (P:=P) (w:=w) ys (ps.map a.eval) hb (g2 0 y _ rfl rfl) (by simpa using g1) (λi e u hi hu=>g2 (i+1) e u (by simpa using hi) (by simpa using hu));have hl:(c.args.map a.eval).toList=a.eval p::ps.map a.eval:=by rw[Array.toList_map,hargs];rfl
    split at h1
    ·rename_i hg;subst h1;refine OpR.val' (s:=Builtin.max_ c.argTypes o.type (c.args.map a.eval)) ?_ H ⟨u,by unfold Builtin.max_;rw[hl];exact e1,e2⟩;simp only[execOp,ho,resolve,hg,invoke,builtin,pure_bind]
    ·rename_i hg;have hbf:b=false:=by simpa using h1
     subst hbf;refine OpR.val' (s:=Builtin.min_ c.argTypes o.type (c.args.map a.eval)) ?_ H ⟨u,by unfold Builtin.min_;rw[hl];exact e1,e2⟩;simp only[execOp,ho,resolve,hg,invoke,builtin,pure_bind]
    ·cases h1
 |sidx x i=>
  simp only[cf]at hc;split at hc
  case h_2=>cases hc
  rename_i t y j ho;simp only[O6]at hc;obtain⟨hb,rfl⟩:=HM.run_ofO_some hv;exact OpR.val' (by simp only[execOp,ho]) H (Iq hb (aA hc.1.2 F) (aA hc.2 F) (kx hc.1.1))
 |same x=>
  simp only[cf]at hc;split at hc
  case h_2=>cases hc
  rename_i src dst y ho;simp only[O6,PF]at hc;obtain⟨⟨rfl,h1⟩,h2⟩:=hc;obtain⟨e,g1,g2⟩:=sS h1;exact OpR.val (by simp only[execOp,ho]) (Iv hv H (aA h2 F) g1 g2)
 |bad=>simp[iQ,HM.run]at hv
end
end Gv
