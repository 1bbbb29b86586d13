/- A part of the proof that the law is true of all its inputs, by an interpreter that is proved sound. -/
import Derived.Test.YtfaeljmkbadgdaaGreatVc
import Derived.Lib.AppendZerosOnto
import Derived.KernelRfl
namespace Gv
open Go
theorem yM{P:Program}(w:World){o:Oper}{a:Act}{K:Act->World->Prop}{Q:Exit->Act->World->Prop}(d s:Operand)(t t':TypeId)
  (ho:o.op=.call {callee:=.builtin .copy,args:= #[d,s],argTypes:= #[t,t']})(v u:Value)(hd:a.eval d=v)(hs:a.eval s=u){v':Value}{w':World}
  (hr:(Builtin.copy_ #[t,t'] o.type #[v,u]).run P w=.ok v' w')(h:K (a.put o.dst v') w'):o.wp P a w K Q:=by
 unfold Oper.wp execOp;simp only[ho,resolve,invoke,builtin,Sem.run_bind,Sem.run_pure,Result.andThen_ok,List.map_toArray,PM,QM,hd,hs,hr];exact h
theorem o9{P:Program}{ops:Array Oper}{o:Oper}{a:Act}{w:World}{K:Act->World->Prop}{Q:Exit->Act->World->Prop}{E:Prop}
  (hg:o.guard=none)(d x:Operand)(dT sT:TypeId)(hop:o.op=Op.call {callee:=Callee.builtin Builtin.copy,args:= #[d,x],argTypes:= #[dT,sT]})
  (v u:Value)(hd:a.eval d=v)(hx:a.eval x=u){v':Value}{w':World}(hr:(Builtin.copy_ #[dT,sT] o.type #[v,u]).run P w=.ok v' w')(hK:K (a.put o.dst v') w'):
  if Region.wanted o (yielded ops a.tmps)=true then Oper.wp P o a w K Q else E:=by
 have hw:Region.wanted o (yielded ops a.tmps)=true:=by simp[Region.wanted,hg]
 rw[O9 hw];exact yM w d x dT sT hop v u hd hx hr hK
def CB(P:Program)(f ov:FuncId)(T:TypeId):Prop:=
 ∀(b off n c i vb voff m vc:Nat)(w w1 w2:World),i<n->0<m->n+m<=c->c<=9223372036854775807->
  (∀lb cb,(callFunc ov #[.slice (some ⟨vb,voff,none⟩) m vc,.slice (some ⟨b,off+(i+m)*6,none⟩) lb cb]).run P w=.ok (.value (.bool false)) w)->
  (∀ty dc sc,(Builtin.copy_ #[T,T] ty #[.slice (some ⟨b,off+(i+m)*6,none⟩) (n+m-(i+m)) dc,.slice (some ⟨b,off+i*6,none⟩) (n+m-i) sc]).run P w.drew=.ok (goInt (n-i)) w1)->
  (∀ty dc,(Builtin.copy_ #[T,T] ty #[.slice (some ⟨b,off+i*6,none⟩) (n+m-i) dc,.slice (some ⟨vb,voff,none⟩) m vc]).run P w1=.ok (goInt m) w2)->
  Calls P f #[.slice (some ⟨b,off,none⟩) n c,.int .i64 i,.slice (some ⟨vb,voff,none⟩) m vc] w λe w'=>e=.returned (.slice (some ⟨b,off,none⟩) (n+m) c)/\w'=w2
def Co(P:Program)(f:FuncId)(T I:TypeId):Prop:=
 ∀(b off n c i vb voff m vc N G:Nat)(w w1 w2 w3:World),i<n->0<m->n<=c->c<n+m->n+m<2147483648->n+m<=G->G<=9223372036854775807->
  (∀ty,(Builtin.append_ #[T,I] ty #[.slice (some ⟨b,off,none⟩) i c,.int .i64 ((n:Int)+(m:Int)-(i:Int))]).run P w=.ok (.slice (some ⟨N,0,none⟩) (n+m) G) w1)->
  (∀ty dc,(Builtin.copy_ #[T,T] ty #[.slice (some ⟨N,i*6,none⟩) (n+m-i) dc,.slice (some ⟨vb,voff,none⟩) m vc]).run P w1=.ok (goInt m) w2)->
  (∀ty dc sc,(Builtin.copy_ #[T,T] ty #[.slice (some ⟨N,(i+m)*6,none⟩) (n+m-(i+m)) dc,.slice (some ⟨b,off+i*6,none⟩) (n-i) sc]).run P w2.drew=.ok (goInt (n-i)) w3)->
  Calls P f #[.slice (some ⟨b,off,none⟩) n c,.int .i64 i,.slice (some ⟨vb,voff,none⟩) m vc] w λe w'=>e=.returned (.slice (some ⟨N,0,none⟩) (n+m) G)/\w'=w3
section
variable{ah:Nat->FuncId}{P:Program}{M:Mp}{w:World}{h:Heap}
theorem HR.slots{A:List (Option Blk)}(H:HR ah M ⟨A,[]⟩ w)(hcv:∀r,M.cv r=0)(n:Nat):HR ah M ⟨A,List.replicate n ⟨0,none⟩⟩ w:=by
 have hgl:∀s e,(⟨A,List.replicate n ⟨0,none⟩⟩:Heap).get (.l s)=some e->e=⟨0,none⟩:=by
  intro s e he;simp only[Heap.get,Qd]at he;split at he
  ·simpa using he.symm
  ·cases he
 refine⟨λr e he=>?_,λr e v he hn=>?_,λr e he hb=>?_,λr v he=>?_,λr e b loc he hb hl=>?_,H.inj,H.rd⟩
 ·cases r with
  |a i=>exact H.cv (.a i) e he
  |l s=>rw[hgl s e he];exact hcv _
  |dead=>simp[Heap.get]at he
 ·cases r with
  |a i=>exact H.dom (.a i) e v he hn
  |l s=>exact absurd (H.out (.l s) v rfl) hn
  |dead=>simp[Heap.get]at he
 ·cases r with
  |a i=>exact H.has (.a i) e he hb
  |l s=>rw[hgl s e he]at hb;exact absurd rfl hb
  |dead=>simp[Heap.get]at he
 ·cases r with
  |a i=>exact H.out (.a i) v he
  |l s=>exact H.out (.l s) v rfl
  |dead=>exact H.out .dead v rfl
 ·cases r with
  |a i=>exact H.blk (.a i) e b loc he hb hl
  |l s=>rw[hgl s e he]at hb;cases hb
  |dead=>simp[Heap.get]at he
theorem HR.world{w':World}(H:HR ah M h w)(h1:∀r v loc,M.io r v=some loc->w'.heap[loc.b]?=w.heap[loc.b]?)(h2:∀b,M.rd b≠none->w'.heap[b]?=w.heap[b]?):HR ah M h w':=
 ⟨H.cv,H.dom,H.has,H.out,λr e b loc a1 a2 a3=>by
  obtain⟨c,t,lo,hi,B⟩:=H.blk r e b loc a1 a2 a3;exact⟨c,t,lo,hi,⟨by rw[h1 _ _ _ a3];exact B.heap,B.sz,B.size,B.free,B.lohi,B.fits,B.ro,B.rw_,B.cells⟩⟩,H.inj,λb vs hb=>by
  obtain⟨t,fz,hh⟩:=H.rd b vs hb;exact⟨t,fz,by rw[h2 b (by rw[hb];simp)];exact hh⟩⟩
theorem qv{new:List (aq×Nat×Blk)}:∀{bs:List (Option Blk)},(∀b,some b∈bs->bX b.es=true)->bs.map (Option.map (Blk.ren (eH new)))=bs
 |[],_=>rfl
 |none::bs,h=>by rw[PM,qv λb hb=>h b (Pe _ hb)];rfl
 |some b::bs,h=>by
  rw[PM,qv λb hb=>h b (Pe _ hb)];simp only[Py,Blk.ren,(fL (h b (Pj ..)) _).1]
theorem Cg{M0 M2:Mp}{w0:World}{h2:Heap}{bs:List (Option Blk)}{m v sz n room:Nat}{nb:Blk}{c:Value}(H2:HR ah M2 h2 w)(S:Stp M0 w0 M2 w)(hbl:bs.length=m)(hbs:∀(k:Nat)(b:Option Blk),bs[k]?=some b->h2.get (.a k)=some ⟨0,b⟩)
  (hl:h2.get (.l 0)=some ⟨v,some nb⟩)(hp:bX nb.es=true)(hps:∀b,some b∈bs->bX b.es=true)(V:VR ah M2 (.tok (.l 0) v sz 0 n room false) c):
  ∃M',StpI M0 w0 M' w/\HR ah M' ⟨(bs++[some nb]).take m,((bs++[some nb]).drop m).map λb=>⟨0,b⟩⟩ w/\VR ah M' (.tok (.l 0) 0 sz 0 n room false) c/\∀i,M'.io (.a i) 0=M0.io (.a i) 0∨M'.io (.a i) 0=none:=by
 have e1:(bs++[some nb]).take m=bs:=List.take_left' hbl;have e2:((bs++[some nb]).drop m).map (λb=>(⟨0,b⟩:fg))=[⟨0,some nb⟩]:=by rw[List.drop_left' hbl];rfl
 have H3:=Gs (m:=m) (bs:=bs) (new:=[(.l 0,v,nb)]) H2 hbl hbs (λx hx=>by simp only[Px]at hx;subst hx;exact hl) (List.pairwise_singleton ..) (λx hx=>by simp only[Px]at hx;subst hx;exact⟨0,rfl⟩);rw[qv hps]at H3;have hnr:nb.ren (eH [(.l 0,v,nb)])=nb:=by simp only[Blk.ren,(fL hp _).1]
 simp only[PM,QM,hnr]at H3;refine⟨oz M2 m [(.l 0,v,nb)],⟨S.rd,S.os,S.tape,S.output,S.size,S.frame,λb hb=>S.own b (CK hb),S.rdn⟩,by rw[e1,e2];exact H3,?_,λi=>?_⟩
 ·have:=V.ren (uv (m:=m) (new:=[(.l 0,v,nb)]));simpa[ren,eH,fV]using this
 ·by_cases hi:i<m
  ·have:(oz M2 m [(.l 0,v,nb)]).io (.a i) 0=M2.io (.a i) 0:=by show(if i<m/\(0:Nat)=0 then M2.io (.a i) 0 else none)=_;rw[O9 ⟨hi,rfl⟩]
   rw[this];exact S.le.io (.a i) 0 (Qf _)
  ·right;show(if i<m/\(0:Nat)=0 then M2.io (.a i) 0 else none)=none;rw[Pd (λq=>hi q.1)]
theorem vY{c:Array Value}{t:TypeId}{lo hi:Nat}{loc:C3}{b:Blk}(B:BlkAt ah M w loc b c t lo hi)(hs:b.sz≠1){o:Nat}(ho:o<=c.size):w.frozen? ⟨loc.b,o,none⟩=false:=by
 simp only[World.frozen?,B.heap];have h1:=B.lohi.2.1 hs;rcases Pt o c.size with z|z
 ·have:=B.free o z;simp only[Q9,PD];omega
 ·simp only[Q9,PD];omega
theorem sV{c:Array Value}{t:TypeId}{lo hi:Nat}{loc:C3}{b:Blk}(B:BlkAt ah M w loc b c t lo hi):w.shape? loc.b=some (t,c.size):=by
 simp only[World.shape?,B.heap]
theorem o6(sz k:Nat)(a:Option Addr)(l l' cp cp':Nat):Builtin.firstCells sz k (.slice a l cp)=Builtin.firstCells sz k (.slice a l' cp'):=by cases a<;>rfl
end
def mz:List PV->List Blk->Option (PV×List (Option Blk))
 |[ .tok (.a p) 0 sz off len room c0,.int .i64 i,.tok (.a q) 0 sz2 off2 m room2 c2],G=>
  match G[p]?,G[q]? with
  | some b,some c=>if(p≠q/\b.ro=false/\b.sz=6/\c.sz=6/\sz=6/\sz2=6)/\(0<=i/\i<len/\0<m/\off+len<=b.es.length/\off2+m<=c.es.length/\len+m<bG)/\(G.all λb=>bX b.es)=true
    then some (.tok (.l 0) 0 6 0 (len+m) (len+m) false,(G.map some).set p none++[some ⟨6,((b.es.drop off).take len).take i.toNat++(c.es.drop off2).take m++((b.es.drop off).take len).drop i.toNat,false⟩])else none
  |_,_=>none
 |_,_=>none
theorem qN{ah:Nat->FuncId}{M:Mp}{c:Array Value}{base i sz:Nat}{W V:List PV}{n1 n2:List Value}(hi:i<=W.length)
  (h0:CellsAt ah M c base sz (W.take i))(hn2:NewsR ah M sz V n2)(hn1:NewsR ah M sz (W.drop i) n1)
  (g2:∀(k:Nat)(u:Value),n2[k]?=some u->c[base+i*sz+k]?=some u)(g1:∀(k:Nat)(u:Value),n1[k]?=some u->c[base+(i+V.length)*sz+k]?=some u):
  CellsAt ah M c base sz (W.take i++V++W.drop i):=by
 have hl:(W.take i).length=i:=by rw[Pw];omega
 have a:=fC hn2 h0 (by rw[hl];exact g2);exact fC hn1 a (by rw[Pu,hl];exact g1)
theorem Dp{P:Program}{ah:Nat->FuncId}{f:Nat}{g ov:FuncId}{T I e:TypeId}{inf:TypeInfo}{zv:Value}{kI:IntKind}(hg:ah f=g)(hu:P.underlying T=some (.slice e))(huI:P.underlying I=some (.int kI))(hi:P.info? e=some inf)(hz:inf.size=6)(hzv:inf.zero=some zv)
  (hzs:zv.cells.size=6)(hb0:inf.bytes≠0)(hbb:inf.bytes<=32768)(hR:CB P g ov T)(hG:Co P g T I)
  (hov:∀(w:World)(a b:Addr)(la ca lb cb:Nat),a.block≠b.block->(∃tA kA,w.shape? a.block=some (tA,kA)/\w.frozen? {block:=a.block,off:=kA}=false)->(∃tB kB,w.shape? b.block=some (tB,kB)/\kB≠0)->w.frozen? a=false->
   (callFunc ov #[.slice (some a) la ca,.slice (some b) lb cb]).run P w=.ok (.value (.bool false)) w):
  iX P ah (λk args G=>if k=f then mz args G else none):=by
 intro f' args G0 r G M w cargs hx H hcv hl ha;simp only at hx;split at hx
 case isFalse=>cases hx
 rename_i hf;subst hf;rw[hg];unfold mz at hx;split at hx
 case h_2=>cases hx
 rename_i p sz off len room c0 i q sz2 off2 m room2 c2;split at hx
 case h_2=>cases hx
 rename_i b c hb hc;split at hx
 case isFalse=>cases hx
 rename_i hcond;obtain⟨⟨hpq,hro,hbs,hcs,rfl,rfl⟩,⟨hi0,hi1,hm0,hbl,hcl,hmax⟩,hpl⟩:=hcond;simp only[O5,Pq]at hx;obtain⟨rfl,rfl⟩:=hx;obtain⟨v0,v1,v2,rfl⟩:∃v0 v1 v2,cargs= #[v0,v1,v2]:=by
  obtain⟨l⟩:=cargs
  match l,hl with
  |[a,b,c],_=>exact⟨a,b,c,rfl⟩
 have V0:=ha 0 _ v0 rfl rfl;have V1:=ha 1 _ v1 rfl rfl;have V2:=ha 2 _ v2 rfl rfl;have e1:=V1.int_inv;subst e1;obtain⟨n,rfl⟩:∃n:Nat,i=n:=⟨i.toNat,by omega⟩;simp only[Int.toNat_natCast]at*;have hi1:n<len:=by omega
 have hpb:bX b.es=true:=List.all_eq_true.1 hpl b (Pl hb);have hpc:bX c.es=true:=List.all_eq_true.1 hpl c (Pl hc);have Hs:=H.slots hcv 1;generalize hh0:(⟨G0.map some,List.replicate 1 ⟨0,none⟩⟩:Heap)=h0 at Hs;have gp:h0.get (.a p)=some ⟨0,some b⟩:=by rw[<-hh0];simp[Heap.get,Pk,hb]
 have gq:h0.get (.a q)=some ⟨0,some c⟩:=by rw[<-hh0];simp[Heap.get,Pk,hc]
 have gl:h0.get (.l 0)=some ⟨0,none⟩:=by rw[<-hh0];rfl
 obtain⟨a,cap,rfl,hv0,k2,k3,k4,k5⟩:=V0.tok_inv;obtain⟨a2,cap2,rfl,hv2,j2,j3,j4,j5⟩:=V2.tok_inv;obtain⟨loc,ca,ty,lo,hi',hlp,B⟩:=Hs.live gp;obtain⟨loc2,cb,Lm,lo2,hi2,hlq,B2⟩:=Hs.live gq;obtain⟨q1,q2⟩:=k5 loc hlp;obtain⟨q3,q4⟩:=j5 loc2 hlq;rcases q2 with q2|⟨rfl,q2⟩
 ·omega
 rcases q4 with q4|⟨rfl,q4⟩
 ·omega
 have hne:loc2.b≠loc.b:=λe=>hpq (by have:=Hs.inj _ _ _ _ _ _ hlp hlq e.symm;cases this;rfl);have hszc:=B.size;have hbig:=B.lohi.2.2;rw[hbs]at hbig;have hcap63:cap<=9223372036854775807:=by omega
 generalize hW:(b.es.drop off).take len=W;generalize hV:(c.es.drop off2).take m=V;have hWl:W.length=len:=by rw[<-hW];simp;omega
 have hVl:V.length=m:=by rw[<-hV];simp;omega
 have hWs:∀(k:Nat)(x:PV),W[k]?=some x->x.cells.length=6:=λk x hk=>by
  rw[<-hW,PN]at hk;split at hk
  ·rw[PP]at hk;have:=(B.cells _ x hk).1;rw[hbs]at this;exact this
  ·cases hk
 have hVs:∀(k:Nat)(x:PV),V[k]?=some x->x.cells.length=6:=λk x hk=>by
  rw[<-hV,PN]at hk;split at hk
  ·rw[PP]at hk;have:=(B2.cells _ x hk).1;rw[hcs]at this;exact this
  ·cases hk
 have hpW:bX W=true:=by rw[<-hW];exact du (cX hpb _) _
 have hpV:bX V=true:=by rw[<-hV];exact du (cX hpc _) _
 have hpN:bX (W.take n++V++W.drop n)=true:=by rw[ki,ki,du hpW,hpV,cX hpW];rfl
 have hpS:∀x,some x∈(G0.map some).set p none->bX x.es=true:=λx hx=>by
  rcases List.mem_or_eq_of_mem_set hx with h|h
  ·obtain⟨y,hy,e⟩:=List.mem_map.1 h;cases e;exact List.all_eq_true.1 hpl _ hy
  ·cases h
 have VW:VR ah M (.tok (.a p) 0 6 (off+n) (len-n) (len-n) c0) (.slice (some ⟨loc.b,loc.base+off*6+n*6,none⟩) (len-n) (cap-n)):=by
  refine .tok _ _ _ _ _ _ _ _ _ hv0 (Pf _) (by omega) (λhc=>by have:=k4 hc;omega) (λloc' hl'=>?_);rw[hlp]at hl';cases hl';exact⟨q1,.inr ⟨by congr 1;omega,by omega⟩⟩
 have heW:(elems (.tok (.a p) 0 6 (off+n) (len-n) (len-n) c0)).run h0=some (W.drop n,h0):=by
  simp only[elems];rw[Pd (by omega)];rw[HM.run_bind,HM.runT_run (aW gp)];simp only;rw[O9 ⟨by omega,hbs⟩];simp only[HM.run,O5,Pq,Rc];rw[<-hW,List.drop_take,Rd]
 obtain⟨_,SW⟩:=gU heW Hs VW;have hWds:∀(k:Nat)(x:PV),(W.drop n)[k]?=some x->x.cells.length=6:=λk x hk=>hWs _ x (by rw[PP]at hk;exact hk);have hWdl:(W.drop n).length=len-n:=by rw[P7,hWl]
 obtain⟨_,n1,f1,f2,f3,f4⟩:=cW (P:=P) SW hWds (len-n) (by omega);have N1:NewsR ah M 6 (W.drop n) n1:=⟨by rw[hWdl];exact f2,λk x hk=>⟨hWds k x hk,λj y hj=>f4 k x j y (by rw[<-hWdl];exact getElem?_lt hk) hk hj⟩,f3⟩;have heV:∀{h1:Heap},h1.get (.a q)=some ⟨0,some c⟩->(elems (.tok (.a q) 0 6 off2 m room2 c2)).run h1=some (V,h1):=λ{h1} g1=>by
  simp only[elems];rw[Pd (by omega)];rw[HM.run_bind,HM.runT_run (aW g1)];simp only;rw[O9 ⟨by omega,hcs⟩];simp only[HM.run,hV]
 obtain⟨M1,hM1,H1,S1,io1,self1⟩:∃M1,M.at (.a p) 0 none M.rd=M1/\HR ah M1 (h0.put (.a p) ⟨0,none⟩) w/\Stp M w M1 w/\(∀r',r'≠ .a p->M1.io r'=M.io r')/\(∀v,M1.io (.a p) v=none):=by
  obtain⟨q1,q2,q3,q4⟩:=Hs.drop gp;exact⟨_,rfl,q1,q2,q3,q4⟩
 have gq1:(h0.put (.a p) ⟨0,none⟩).get (.a q)=some ⟨0,some c⟩:=by rw[Heap.get_put_other (by intro e;cases e;exact hpq rfl)];exact gq
 have gl1:(h0.put (.a p) ⟨0,none⟩).get (.l 0)=some ⟨0,none⟩:=by rw[Heap.get_put_other (by intro e;cases e)];exact gl
 have hrd1:M1.rd=M.rd:=by rw[<-hM1];rfl
 have V2':=V2.mono S1.le;have hbsl:((G0.map some).set p none).length=G0.length:=by simp
 have hplen:p<G0.length:=getElem?_lt hb;by_cases hroom:len+m<=cap
 ·
  have hb2:loc.base+off*6+(n+m)*6+n1.length<=ca.size:=by rw[f2];omega
  let w1:=gJ w.drew loc.b (.cells (cF ca (loc.base+off*6+(n+m)*6) n1) ty (lo,hi'))
  have hlt:=B.lt;have hw1:w1.heap[loc.b]?=some (.cells (cF ca (loc.base+off*6+(n+m)*6) n1) ty (lo,hi')):=gP hlt;have hown:∀r v l3,M1.io r v=some l3->l3.b≠loc.b:=λr v l3 h3 e3=>by
   by_cases hr:r=.a p
   ·subst hr;rw[self1]at h3;cases h3
   ·rw[io1 r hr]at h3;exact hr (Hs.inj _ _ _ _ _ _ h3 hlp e3)
  have hrdn:M.rd loc.b=none:=B.rw_ hro;have H1w:HR ah M1 (h0.put (.a p) ⟨0,none⟩) w1:=HR.world H1 (λr v l3 h3=>cE (hown r v l3 h3)) (λk hk=>cE (by rintro rfl;rw[hrd1,hrdn]at hk;exact hk rfl));obtain⟨_,SV⟩:=gU (heV gq1) H1w V2';obtain⟨hlV,n2,g1,g2,g3,g4⟩:=cW (P:=P) SV hVs m (by omega);have N2:NewsR ah M1 6 V n2:=⟨by rw[hVl];exact g2,λk x hk=>⟨hVs k x hk,λj y hj=>g4 k x j y (by rw[<-hVl];exact getElem?_lt hk) hk hj⟩,g3⟩;have hs1:(cF ca (loc.base+off*6+(n+m)*6) n1).size=ca.size:=da hb2;have hb3:loc.base+off*6+n*6+n2.length<=(cF ca (loc.base+off*6+(n+m)*6) n1).size:=by rw[g2,hs1];omega
  let w2:=gJ w1 loc.b (.cells (cF (cF ca (loc.base+off*6+(n+m)*6) n1) (loc.base+off*6+n*6) n2) ty (lo,hi'))
  have hw2:w2.heap[loc.b]?=some (.cells (cF (cF ca (loc.base+off*6+(n+m)*6) n1) (loc.base+off*6+n*6) n2) ty (lo,hi')):=gP (by show loc.b<(w.drew.heap.setIfInBounds _ _).size;simpa using hlt);have c1:∀ty' dc sc,(Builtin.copy_ #[T,T] ty' #[.slice (some ⟨loc.b,loc.base+off*6+(n+m)*6,none⟩) (len+m-(n+m)) dc,.slice (some ⟨loc.b,loc.base+off*6+n*6,none⟩) (len+m-n) sc]).run P w.drew=.ok (goInt (len-n)) w1:=λty' dc sc=>by
   have hst:=ei (P:=P) loc.b (loc.base+off*6+(n+m)*6) ty lo hi' n1 0 ca w.drew B.heap (by omega) B.free f3;rw[Qp]at hst;have hmin:Nat.min (len+m-n) (len+m-(n+m))=len-n:=by simp only[Nat.min_def];split<;>omega
   have:=kD (P:=P) (w:=w.drew) (t2:=T) (ty:=ty') (base:=some ⟨loc.b,loc.base+off*6+(n+m)*6,none⟩) (dLen:=len+m-(n+m)) (dCap:=dc) (m:=len+m-n) (src:=.slice (some ⟨loc.b,loc.base+off*6+n*6,none⟩) (len+m-n) sc) (news:=n1) hu hi (λw'=>rfl) (by
    rw[hmin,hz,o6 6 _ _ _ (len-n) _ (cap-n)];exact f1 _ rfl) hst
   rw[hmin]at this;rw[this];congr 2;omega
  have c2':∀ty' dc,(Builtin.copy_ #[T,T] ty' #[.slice (some ⟨loc.b,loc.base+off*6+n*6,none⟩) (len+m-n) dc,.slice (some ⟨loc2.b,loc2.base+off2*6,none⟩) m cap2]).run P w1=.ok (goInt m) w2:=λty' dc=>by
   have hst:=ei (P:=P) loc.b (loc.base+off*6+n*6) ty lo hi' n2 0 _ w1 hw1 (by omega) (by rw[hs1];exact B.free) g3;rw[Qp]at hst;have hmin:Nat.min m (len+m-n)=m:=by simp only[Nat.min_def];split<;>omega
   have:=kD (P:=P) (w:=w1) (t2:=T) (ty:=ty') (base:=some ⟨loc.b,loc.base+off*6+n*6,none⟩) (dLen:=len+m-n) (dCap:=dc) (m:=m) (src:=.slice (some ⟨loc2.b,loc2.base+off2*6,none⟩) m cap2) (news:=n2) hu hi (λw'=>rfl) (by
    rw[hmin,hz];exact g1 _ rfl) hst
   rw[hmin]at this;exact this
  refine Calls.mono (hR loc.b (loc.base+off*6) len cap n loc2.b (loc2.base+off2*6) m cap2 w w1 w2 hi1 hm0 hroom hcap63 (λlb cb'=>hov w _ _ _ _ _ _ hne ⟨Lm,cb.size,sV B2,vY B2 (by omega) (Pf _)⟩ ⟨ty,ca.size,sV B,by omega⟩ (vY B2 (by omega) (by
   have:=B2.size;omega))) c1 c2') ?_
  rintro ev w' ⟨rfl,rfl⟩
  have H1x:HR ah M1 (h0.put (.a p) ⟨0,none⟩) w2:=HR.world H1w (λr v l3 h3=>cE (hown r v l3 h3)) (λk hk=>cE (by rintro rfl;rw[hrd1,hrdn]at hk;exact hk rfl));have hs2:(cF (cF ca (loc.base+off*6+(n+m)*6) n1) (loc.base+off*6+n*6) n2).size=ca.size:=by rw[da hb3,hs1]
  obtain⟨H2,le2,l2,cv2,io2,all2⟩:=H1x.take gl1 (loc:=⟨loc.b,loc.base+off*6,6,loc.size⟩) (b:=⟨6,W.take n++V++W.drop n,false⟩) (λr v l3 hr h3=>hown r v l3 h3) (λM' le hrd=>by
   refine⟨_,ty,lo,hi',⟨hw2,rfl,by rw[hs2];exact B.size,λk hk=>B.free k (by rw[hs2]at hk;exact hk),⟨B.lohi.1,λq=>by rw[hs2];exact B.lohi.2.1 (by omega),by rw[hs2];exact hbig⟩,?_,(λq=>by cases q),λ_=>by rw[hrd,hrd1];exact hrdn,?_⟩⟩
   ·show loc.base+off*6+(W.take n++V++W.drop n).length*6<=_;rw[hs2];simp only[Pu,Pw,hWl,hVl,hWdl];omega
   ·refine qN (by omega) ?_ (N2.mono le) ((N1.mono S1.le).mono le) (λk u hk=>?_) (λk u hk=>?_)
    ·intro k x hk;have hkn:k<n:=by
      have:=getElem?_lt hk;rw[Pw]at this;omega
     have hkW:W[k]?=some x:=by rw[PN,O9 hkn]at hk;exact hk
     refine⟨hWs k x hkW,λj y hj=>?_⟩;have hkb:b.es[off+k]?=some x:=by
      rw[<-hW,PN,O9 (by omega),PP]at hkW;exact hkW
     obtain⟨z1,z2⟩:=B.cells _ x hkb;obtain⟨z3,u,z4,z5⟩:=z2 j y hj;rw[hbs]at z1 z4;have hj6:j<6:=by rw[<-z1];exact getElem?_lt hj
     refine⟨z3,u,?_,(z5.mono S1.le).mono le⟩;show(cF (cF ca (loc.base+off*6+(n+m)*6) n1) (loc.base+off*6+n*6) n2)[loc.base+off*6+k*6+j]?=some u;rw[bQ hb3,Pd (by omega),bQ hb2,Pd (by omega),<-z4];congr 1;omega
    ·have hk2:=getElem?_lt hk;show(cF (cF ca (loc.base+off*6+(n+m)*6) n1) (loc.base+off*6+n*6) n2)[loc.base+off*6+n*6+k]?=some u;rw[bQ hb3,O9 ⟨by omega,by omega⟩,<-hk];congr 1;omega
    ·have hk2:=getElem?_lt hk;rw[hVl];show(cF (cF ca (loc.base+off*6+(n+m)*6) n1) (loc.base+off*6+n*6) n2)[loc.base+off*6+(n+m)*6+k]?=some u;rw[bQ hb3,Pd (by rw[g2];omega),bQ hb2,O9 ⟨by omega,by omega⟩,<-hk];congr 1;omega)
  have SS:Stp M w (M1.at (.l 0) 1 (some ⟨loc.b,loc.base+off*6,6,loc.size⟩) M1.rd) w2:=by
   refine⟨⟨by show RdLe M.rd M1.rd;rw[hrd1];exact .refl _,rfl,rfl,rfl,by show w.heap.size<=(((w.drew.heap.setIfInBounds _ _)).setIfInBounds _ _).size;simp,λk hk hn=>?_,λk hk=>?_,λk hk=>?_⟩,S1.le.trans le2⟩
   ·have hkl:k≠loc.b:=by rintro rfl;exact hn (dx hlp)
    show(gJ w1 loc.b _).heap[k]?=_;rw[cE hkl];show(gJ w.drew loc.b _).heap[k]?=_;rw[cE hkl];rfl
   ·obtain⟨r,v,l3,h3,rfl⟩:=hk;by_cases hr:r=.l 0
    ·subst hr;rw[all2 _ _ h3];exact .inl ⟨_,_,loc,hlp,rfl⟩
    ·have h4:=(congrFun (io2 r hr) v).symm.trans h3;by_cases hq:r=.a p
     ·subst hq;have:=(self1 v).symm.trans h4;cases this
     ·exact .inl (dx ((congrFun (io1 r hq) v).symm.trans h4))
   ·left;have:M1.rd k≠none:=hk;rw[hrd1]at this;exact this
  obtain⟨M',z1,z2,z3,z4⟩:=Cg (n:=len+m) (room:=len+m) (sz:=6) (c:=.slice (some ⟨loc.b,loc.base+off*6,none⟩) (len+m) cap) H2 SS hbsl (λk x hk=>by
   rw[Heap.get_put_other (by intro e;cases e),<-hh0];rw[List.getElem?_set]at hk;split at hk
   ·rename_i hpk;subst hpk;split at hk
    ·simp only[O5]at hk;subst hk;simp[Heap.put,Heap.get,hplen]
    ·cases hk
   ·rename_i hpk;rw[Heap.get_put_other (by intro e;cases e;exact hpk rfl)];simp only[Heap.get,hk]) (by exact Heap.get_put_same gl1 (by intro i hi;cases hi)) hpN hpS (.tok _ _ _ _ _ _ _ _ _ cv2 (Pf _) hroom (λq=>by cases q) (λl3 h3=>by
    rw[all2 _ _ h3];exact⟨rfl,.inr ⟨by simp,by show loc.base+off*6+0*6+cap*6<=loc.size;omega⟩⟩))
  exact⟨_,M',rfl,z1,z2,z3,z4⟩
 ·
  have hpa:VR ah M (.tok (.a p) 0 6 off n n c0) (.slice (some ⟨loc.b,loc.base+off*6,none⟩) n cap):=by
   refine .tok _ _ _ _ _ _ _ _ _ hv0 (Pf _) (by omega) k4 (λloc' hl'=>?_);rw[hlp]at hl';cases hl';exact⟨q1,.inr ⟨rfl,q2⟩⟩
  have heO:(elems (.tok (.a p) 0 6 off n n c0)).run h0=some (W.take n,h0):=by
   simp only[elems];by_cases hn0:n=0
   ·subst hn0;simp[HM.run]
   ·rw[Pd hn0,HM.run_bind,HM.runT_run (aW gp)];simp only;rw[O9 ⟨by omega,hbs⟩];simp only[HM.run,O5,Pq,Rc];rw[<-hW,List.take_take,Nat.min_eq_left (by omega)]
  obtain⟨_,SO⟩:=gU heO Hs hpa;have hWt:∀(k:Nat)(x:PV),(W.take n)[k]?=some x->x.cells.length=6:=λk x hk=>by
   rw[PN]at hk;split at hk
   ·exact hWs _ x hk
   ·cases hk
  have hWtl:(W.take n).length=n:=by rw[Pw];omega
  obtain⟨_,n0,o1,o2,o3,o4⟩:=cW (P:=P) SO hWt n (by omega);have N0:NewsR ah M 6 (W.take n) n0:=⟨by rw[hWtl];exact o2,λk x hk=>⟨hWt k x hk,λj y hj=>o4 k x j y (by rw[<-hWtl];exact getElem?_lt hk) hk hj⟩,o3⟩;have hbm:(n+(len+m-n))*inf.bytes<=140737488355328:=by
   have:(n+(len+m-n))*inf.bytes<=2147483648*32768:=Re (by unfold bG at hmax;omega) hbb;omega
  have hkb:(len+m-n)*inf.bytes<=281474976710656:=by
   have:(len+m-n)*inf.bytes<=(n+(len+m-n))*inf.bytes:=PA _ (by omega);omega
  have hrow:=λty'=>Lib.run_append_grow_zeros w T I ty' e inf zv .i64 kI hu huI hi hzv (some ⟨loc.b,loc.base+off*6,none⟩) n cap n0 (by rw[hz];exact o1 _ rfl) (len+m-n) (by omega) (by omega) (by omega) (by unfold bG at hmax;omega) hkb (growslice_fits (by omega) hbm);rw[show n+(len+m-n)=len+m by omega]at hrow;have hGge:=grownCap_ge w (len+m) cap e;have hG63:grownCap w (len+m) cap e<=9223372036854775807:=by
   have:=grownCap_le_maxLen w (len+m) cap e (by unfold maxLen bG at*;omega);unfold maxLen at this;omega
  generalize grownCap w (len+m) cap e=GC at*;generalize hROW:n0.toArray++Builtin.zeroCells zv.cells (len+m-n)++Builtin.zeroCells zv.cells (GC-(len+m))=ROW at hrow;have hRs:ROW.size=GC*6:=by
   rw[<-hROW];simp only[Array.size_append,List.size_toArray,size_zeroCells,hzs,o2];omega
  let w1:=w.drew.alloc (.cells ROW e)
  have hw1:w1.heap[w.heap.size]?=some (.cells ROW e (0,0)):=by show(w.heap.push _)[w.heap.size]?=_;simp
  have hold1:∀k,k<w.heap.size->w1.heap[k]?=w.heap[k]?:=λk hk=>RowKit.Below.heap_alloc _ _ _ hk;have hs1:w1.heap.size=w.heap.size+1:=by show(w.heap.push _).size=_;simp
  have H1w:HR ah M1 (h0.put (.a p) ⟨0,none⟩) w1:=HR.world H1 (λr v l3 h3=>hold1 _ (H1.own_lt (dx h3))) (λk hk=>hold1 _ (H1.rd.lt hk));obtain⟨_,SV⟩:=gU (heV gq1) H1w V2';obtain⟨hlV,n2,g1,g2,g3,g4⟩:=cW (P:=P) SV hVs m (by omega);have N2:NewsR ah M1 6 V n2:=⟨by rw[hVl];exact g2,λk x hk=>⟨hVs k x hk,λj y hj=>g4 k x j y (by rw[<-hVl];exact getElem?_lt hk) hk hj⟩,g3⟩;have hb3:0+n*6+n2.length<=ROW.size:=by rw[g2,hRs];omega
  let w2:=gJ w1 w.heap.size (.cells (cF ROW (0+n*6) n2) e (0,0))
  have hw2:w2.heap[w.heap.size]?=some (.cells (cF ROW (0+n*6) n2) e (0,0)):=gP (by omega);have hs2:w2.heap.size=w.heap.size+1:=by show(w1.heap.setIfInBounds _ _).size=_;simp[hs1]
  have hold2:∀k,k<w.heap.size->w2.heap[k]?=w.heap[k]?:=λk hk=>by
   show(gJ w1 w.heap.size _).heap[k]?=_;rw[cE (by omega)];exact hold1 k hk
  have Hw2:HR ah M h0 w2.drew:=HR.world Hs (λr v l3 h3=>hold2 _ (Hs.own_lt (dx h3))) (λk hk=>hold2 _ (Hs.rd.lt hk));obtain⟨_,SW2⟩:=gU heW Hw2 VW;obtain⟨_,n1,f1,f2,f3,f4⟩:=cW (P:=P) SW2 hWds (len-n) (by omega);have N1:NewsR ah M 6 (W.drop n) n1:=⟨by rw[hWdl];exact f2,λk x hk=>⟨hWds k x hk,λj y hj=>f4 k x j y (by rw[<-hWdl];exact getElem?_lt hk) hk hj⟩,f3⟩;have hss:(cF ROW (0+n*6) n2).size=ROW.size:=da hb3;have hb4:0+(n+m)*6+n1.length<=(cF ROW (0+n*6) n2).size:=by rw[hss,f2,hRs];omega
  let w3:=gJ w2.drew w.heap.size (.cells (cF (cF ROW (0+n*6) n2) (0+(n+m)*6) n1) e (0,0))
  have hw3:w3.heap[w.heap.size]?=some (.cells (cF (cF ROW (0+n*6) n2) (0+(n+m)*6) n1) e (0,0)):=gP (by show _<w2.heap.size;omega);have hs3:w3.heap.size=w.heap.size+1:=by show(w2.heap.setIfInBounds _ _).size=_;simp[hs2]
  have hold3:∀k,k<w.heap.size->w3.heap[k]?=w.heap[k]?:=λk hk=>by
   show(gJ w2.drew w.heap.size _).heap[k]?=_;rw[cE (by omega)];exact hold2 k hk
  have c1:∀ty' dc,(Builtin.copy_ #[T,T] ty' #[.slice (some ⟨w.heap.size,n*6,none⟩) (len+m-n) dc,.slice (some ⟨loc2.b,loc2.base+off2*6,none⟩) m cap2]).run P w1=.ok (goInt m) w2:=λty' dc=>by
   have hst:=ei (P:=P) w.heap.size (0+n*6) e 0 0 n2 0 _ w1 hw1 (by omega) (λk _=>by omega) g3;rw[Qp]at hst;have hmin:Nat.min m (len+m-n)=m:=by simp only[Nat.min_def];split<;>omega
   have:=kD (P:=P) (w:=w1) (t2:=T) (ty:=ty') (base:=some ⟨w.heap.size,0+n*6,none⟩) (dLen:=len+m-n) (dCap:=dc) (m:=m) (src:=.slice (some ⟨loc2.b,loc2.base+off2*6,none⟩) m cap2) (news:=n2) hu hi (λw'=>rfl) (by
    rw[hmin,hz];exact g1 _ rfl) hst
   rw[hmin,show(⟨w.heap.size,0+n*6,none⟩:Addr)=⟨w.heap.size,n*6,none⟩by rw[PZ]]at this;exact this
  have c2':∀ty' dc sc,(Builtin.copy_ #[T,T] ty' #[.slice (some ⟨w.heap.size,(n+m)*6,none⟩) (len+m-(n+m)) dc,.slice (some ⟨loc.b,loc.base+off*6+n*6,none⟩) (len-n) sc]).run P w2.drew=.ok (goInt (len-n)) w3:=λty' dc sc=>by
   have hst:=ei (P:=P) w.heap.size (0+(n+m)*6) e 0 0 n1 0 _ w2.drew hw2 (by omega) (λk _=>by omega) f3;rw[Qp]at hst;have hmin:Nat.min (len-n) (len+m-(n+m))=len-n:=by simp only[Nat.min_def];split<;>omega
   have:=kD (P:=P) (w:=w2.drew) (t2:=T) (ty:=ty') (base:=some ⟨w.heap.size,0+(n+m)*6,none⟩) (dLen:=len+m-(n+m)) (dCap:=dc) (m:=len-n) (src:=.slice (some ⟨loc.b,loc.base+off*6+n*6,none⟩) (len-n) sc) (news:=n1) hu hi (λw'=>rfl) (by
    rw[hmin,hz,o6 6 _ _ _ (len-n) _ (cap-n)];exact f1 _ rfl) hst
   rw[hmin,show(⟨w.heap.size,0+(n+m)*6,none⟩:Addr)=⟨w.heap.size,(n+m)*6,none⟩by rw[PZ]]at this;rw[this];congr 2;omega
  refine Calls.mono (hG loc.b (loc.base+off*6) len cap n loc2.b (loc2.base+off2*6) m cap2 w.heap.size GC w w1 w2 w3 hi1 hm0 (by omega) (by omega) (by unfold bG at hmax;omega) hGge hG63 (λty'=>?_) c1 c2') ?_
  ·have hkk:(len:Int)+(m:Int)-(n:Int)=((len+m-n:Nat):Int):=by omega
   rw[hkk];exact hrow ty'
  rintro ev w' ⟨rfl,rfl⟩
  have H1x:HR ah M1 (h0.put (.a p) ⟨0,none⟩) w3:=HR.world H1 (λr v l3 h3=>hold3 _ (H1.own_lt (dx h3))) (λk hk=>hold3 _ (H1.rd.lt hk));have hs4:(cF (cF ROW (0+n*6) n2) (0+(n+m)*6) n1).size=GC*6:=by rw[da hb4,hss,hRs]
  have hrdN:M1.rd w.heap.size=none:=by
   cases hr:M1.rd w.heap.size with
   |none=>rfl
   |some vs=>have:=H1.rd.lt (b:=w.heap.size) (by rw[hr];simp);omega
  obtain⟨H2,le2,l2,cv2,io2,all2⟩:=H1x.take gl1 (loc:=⟨w.heap.size,0,6,GC*6⟩) (b:=⟨6,W.take n++V++W.drop n,false⟩) (λr v l3 hr h3 e3=>by have:=H1.own_lt (dx h3);simp only at e3;omega) (λM' le hrd=>by
   refine⟨_,e,0,0,⟨hw3,rfl,hs4,λk hk=>by omega,⟨Pf _,λ_=>Qf _,by rw[hs4];exact PA _ hG63⟩,?_,(λq=>by cases q),λ_=>by rw[hrd];exact hrdN,?_⟩⟩
   ·show 0+(W.take n++V++W.drop n).length*6<=_;rw[hs4];simp only[Pu,Pw,hWl,hVl,hWdl];omega
   ·refine qN (by omega) ?_ (N2.mono le) ((N1.mono S1.le).mono le) (λk u hk=>?_) (λk u hk=>?_)
    ·intro k x hk;have hkn:k<n:=by
      have:=getElem?_lt hk;rw[Pw]at this;omega
     obtain⟨z1,z2⟩:=N0.cells k x hk;refine⟨z1,λj y hj=>?_⟩;obtain⟨z3,u,z4,z5⟩:=z2 j y hj;have hj6:j<6:=by rw[<-z1];exact getElem?_lt hj
     refine⟨z3,u,?_,(z5.mono S1.le).mono le⟩;show(cF (cF ROW (0+n*6) n2) (0+(n+m)*6) n1)[0+k*6+j]?=some u;rw[bQ hb4,Pd (by omega),bQ hb3,Pd (by omega),<-hROW,Array.append_assoc,Qr (by simp only[List.size_toArray,o2];omega),QV,<-z4];congr 1;omega
    ·have hk2:=getElem?_lt hk;show(cF (cF ROW (0+n*6) n2) (0+(n+m)*6) n1)[0+n*6+k]?=some u;rw[bQ hb4,Pd (by rw[g2]at hk2;omega),bQ hb3,O9 ⟨by omega,by omega⟩,<-hk];congr 1;omega
    ·have hk2:=getElem?_lt hk;rw[hVl];show(cF (cF ROW (0+n*6) n2) (0+(n+m)*6) n1)[0+(n+m)*6+k]?=some u;rw[bQ hb4,O9 ⟨by omega,by omega⟩,<-hk];congr 1;omega)
  have SS:Stp M w (M1.at (.l 0) 1 (some ⟨w.heap.size,0,6,GC*6⟩) M1.rd) w3:=by
   refine⟨⟨by show RdLe M.rd M1.rd;rw[hrd1];exact .refl _,rfl,rfl,rfl,by omega,λk hk hn=>hold3 k hk,λk hk=>?_,λk hk=>?_⟩,S1.le.trans le2⟩
   ·obtain⟨r,v,l3,h3,rfl⟩:=hk;by_cases hr:r=.l 0
    ·subst hr;rw[all2 _ _ h3];exact .inr (Pf _)
    ·have h4:=(congrFun (io2 r hr) v).symm.trans h3;by_cases hq:r=.a p
     ·subst hq;have:=(self1 v).symm.trans h4;cases this
     ·exact .inl (dx ((congrFun (io1 r hq) v).symm.trans h4))
   ·left;have:M1.rd k≠none:=hk;rw[hrd1]at this;exact this
  obtain⟨M',z1,z2,z3,z4⟩:=Cg (n:=len+m) (room:=len+m) (sz:=6) (c:=.slice (some ⟨w.heap.size,0,none⟩) (len+m) GC) H2 SS hbsl (λk x hk=>by
   rw[Heap.get_put_other (by intro e;cases e),<-hh0];rw[List.getElem?_set]at hk;split at hk
   ·rename_i hpk;subst hpk;split at hk
    ·simp only[O5]at hk;subst hk;simp[Heap.put,Heap.get,hplen]
    ·cases hk
   ·rename_i hpk;rw[Heap.get_put_other (by intro e;cases e;exact hpk rfl)];simp only[Heap.get,hk]) (by exact Heap.get_put_same gl1 (by intro i hi;cases hi)) hpN hpS (.tok _ _ _ _ _ _ _ _ _ cv2 (Pf _) hGge (λq=>by cases q) (λl3 h3=>by
    rw[all2 _ _ h3];exact⟨rfl,.inr ⟨by simp,by show 0+0*6+GC*6<=GC*6;omega⟩⟩))
  exact⟨_,M',rfl,z1,z2,z3,z4⟩
abbrev iI(n:Int):PO:=.c (.int .i64 n)
abbrev io(d:Nat)(x:IOp):IOper:=⟨some d,x,none,[]⟩
abbrev N'(n:Int):X:=.int .i64 n
def Aq:am:=⟨95,2,false,[],[.tmp 6],
 (.seq
 (.reg [io 6 (.mov (.c .nils))] false)
 (.seq
  (.reg [io 10 (.mov (.t 0)),io 11 (.mov (.t 1)),io 12 (.slice 6 (.t 10) (some (.t 11)) none none)] false)
  (.seq
  (.reg [io 13 (.mov (.t 2)),io 14 (.len (.t 13)),io 7 (.mov (.t 14))] false)
  (.seq
   (.seq
   (.reg [io 15 (.mov (.t 7)),io 16 (.bin .eql (.t 15) (iI 0))] false)
   (.cond (.t 16)
    (.seq
    (.reg [io 17 (.mov (.t 0)),io 6 (.mov (.t 17))] false)
    .ret)
    .skip))
   (.seq
   (.reg [io 18 (.mov (.t 0)),io 19 (.len (.t 18)),io 8 (.mov (.t 19))] false)
   (.seq
    (.seq
    (.reg [io 20 (.mov (.t 1)),io 21 (.mov (.t 8)),io 22 (.bin .eql (.t 20) (.t 21))] false)
    (.cond (.t 22)
     (.seq
     (.reg [io 23 (.mov (.t 0)),io 24 (.mov (.t 2)),io 25 (.append 6 (.t 23) (.t 24) 0),io 6 (.mov (.t 25))] false)
     .ret)
     .skip))
    (.seq
    (.seq
     (.reg [io 26 (.mov (.t 8)),io 27 (.mov (.t 7)),io 28 (.bin .add (.t 26) (.t 27)),io 29 (.mov (.t 0)),io 30 (.bad),io 31 (.bin .gtr (.t 28) (.t 30))] false)
     (.cond (.t 31)
     (.seq
      (.reg [io 32 (.mov (.t 0)),io 33 (.mov (.t 1)),io 34 (.slice 6 (.t 32) none (some (.t 33)) none),io 35 (.mov (.t 8)),io 36 (.mov (.t 7)),io 37 (.bin .add (.t 35) (.t 36)),io 38 (.mov (.t 1)),io 39 (.bin .sub (.t 37) (.t 38)),io 40 (.bad),io 9 (.mov (.t 40))] false)
      (.seq
      (.reg [io 41 (.mov (.t 9)),io 42 (.mov (.t 1)),io 43 (.slice 6 (.t 41) (some (.t 42)) none none),io 44 (.mov (.t 2)),io 45 (.copy 6 (.t 43) (.t 44))] false)
      (.seq
       (.reg [⟨(some 46),.mov (.t 9),none,[]⟩,⟨(some 47),.mov (.t 1),none,[]⟩,⟨(some 48),.mov (.t 7),none,[]⟩,⟨(some 49),.bin .add (.t 47) (.t 48),none,[1,2]⟩,⟨(some 50),.slice 6 (.t 46) (some (.t 49)) none none,none,[0,1,2,3]⟩,⟨(some 51),.mov (.t 0),none,[]⟩,⟨(some 52),.mov (.t 1),none,[]⟩,⟨(some 53),.slice 6 (.t 51) (some (.t 52)) none none,none,[5,6]⟩,⟨(some 54),.copy 6 (.t 50) (.t 53),none,[0,1,2,3,4,5,6,7]⟩] true)
       (.seq
       (.reg [io 55 (.mov (.t 9)),io 6 (.mov (.t 55))] false)
       .ret))))
     .skip))
    (.seq
     (.reg [io 56 (.mov (.t 0)),io 57 (.mov (.t 8)),io 58 (.mov (.t 7)),io 59 (.bin .add (.t 57) (.t 58)),io 60 (.slice 6 (.t 56) none (some (.t 59)) none),io 0 (.mov (.t 60))] false)
     (.seq
     (.seq
      (.reg [io 61 (.mov (.t 2)),io 62 (.mov (.t 0)),io 63 (.mov (.t 1)),io 64 (.mov (.t 7)),io 65 (.bin .add (.t 63) (.t 64)),io 66 (.slice 6 (.t 62) (some (.t 65)) none none),io 67 (.call 97 [(.t 61),(.t 66)] 1),io 68 (.un .not (.t 67))] false)
      (.cond (.t 68)
      (.seq
       (.reg [⟨(some 69),.mov (.t 0),none,[]⟩,⟨(some 70),.mov (.t 1),none,[]⟩,⟨(some 71),.mov (.t 7),none,[]⟩,⟨(some 72),.bin .add (.t 70) (.t 71),none,[1,2]⟩,⟨(some 73),.slice 6 (.t 69) (some (.t 72)) none none,none,[0,1,2,3]⟩,⟨(some 74),.mov (.t 0),none,[]⟩,⟨(some 75),.mov (.t 1),none,[]⟩,⟨(some 76),.slice 6 (.t 74) (some (.t 75)) none none,none,[5,6]⟩,⟨(some 77),.copy 6 (.t 73) (.t 76),none,[0,1,2,3,4,5,6,7]⟩] true)
       (.seq
       (.reg [io 78 (.mov (.t 0)),io 79 (.mov (.t 1)),io 80 (.slice 6 (.t 78) (some (.t 79)) none none),io 81 (.mov (.t 2)),io 82 (.copy 6 (.t 80) (.t 81))] false)
       (.seq
        (.reg [io 83 (.mov (.t 0)),io 6 (.mov (.t 83))] false)
        .ret)))
      .skip))
     (.seq
      (.reg [io 84 (.mov (.t 0)),io 85 (.mov (.t 8)),io 86 (.slice 6 (.t 84) (some (.t 85)) none none),io 87 (.mov (.t 2)),io 88 (.copy 6 (.t 86) (.t 87))] false)
      (.seq
      (.reg [io 89 (.mov (.t 0)),io 90 (.mov (.t 1)),io 91 (.slice 6 (.t 89) (some (.t 90)) none none),io 92 (.mov (.t 7)),io 93 (.call 98 [(.t 91),(.t 92)] 1)] false)
      (.seq
       (.reg [io 94 (.mov (.t 0)),io 6 (.mov (.t 94))] false)
       .ret)))))))))))),none⟩
def ww(f:Nat)(F:am):Nat->Option am:=λk=>if k=f then some F else none
open Classical in
noncomputable def zF (f:Nat) (F:am) (args:List PV) (G:List Blk):Option (PV×List (Option Blk)):=
 if h:∃r n,bf (ww f F) n f args G=some r then some (choose h)else none
noncomputable def KF (f:Nat) (F:am) (g:List PV->List Blk->Option (PV×List (Option Blk))) (args:List PV) (G:List Blk):Option (PV×List (Option Blk)):=
 match g args G with|some r=>some r|none=>zF f F args G
theorem Gk{f n:Nat}{F:am}{args:List PV}{G:List Blk}{r:PV×List (Option Blk)}(h:bf (ww f F) n f args G=some r):zF f F args G=some r:=by
 unfold zF;have hex:∃r n,bf (ww f F) n f args G=some r:=⟨r,n,h⟩;rw[dif_pos hex];obtain⟨m,hm⟩:=QK hex;generalize Classical.choose hex=r2 at hm⊢;have a:=ja (Nat.le_max_left n m) _ _ _ _ h;have b:=ja (Nat.le_max_right n m) _ _ _ _ hm;rw[a]at b;exact b.symm
theorem Dr{f:Nat}{F:am}{args:List PV}{G:List Blk}{r:PV×List (Option Blk)}(h:zF f F args G=some r):∃n,bf (ww f F) n f args G=some r:=by
 unfold zF at h;split at h
 ·rename_i hex;cases h;exact QK hex
 ·cases h
theorem JI{P:Program}{ah:Nat->FuncId}{f:Nat}{F:am}{g:List PV->List Blk->Option (PV×List (Option Blk))}(hF:F.intr=none)(hc:nr P ah f F=true)(hm:P.follows .mixedOrders=true)(hg:iX P ah (λk args G=>if k=f then g args G else none)):
  iX P ah (λk args G=>if k=f then KF f F g args G else none):=by
 intro f' args G r G' M w cargs hx H hcv hl ha;simp only at hx;split at hx
 case isFalse=>cases hx
 rename_i hf;subst hf;unfold KF at hx;split at hx
 ·rename_i r2 h2;cases hx;exact hg f' args G r G' M w cargs (by simp only[PQ];exact h2) H hcv hl ha
 ·obtain⟨n,hn⟩:=Dr hx;have hT:TabOk P ah (ww f' F):=⟨λk F' hk hi=>(by
    unfold ww at hk;split at hk
    ·rename_i e;subst e;cases hk;exact hc
    ·cases hk),λk F' g' hk hi=>(by
    unfold ww at hk;split at hk
    ·cases hk;rw[hF]at hi;cases hi
    ·cases hk),hm⟩
  exact(sound hT n).2.2 f' args G r G' M w cargs hn H hcv hl ha
def Aj(FT:Nat->Option am)(f:Nat)(F:am):Nat->Option am:=λk=>if k=f then some F else FT k
theorem TabOk.set{P:Program}{ah:Nat->FuncId}{FT:Nat->Option am}(h:TabOk P ah FT){f:Nat}{F:am}{g:List PV->List Blk->Option (PV×List (Option Blk))}(hi:F.intr=some g)(hg:iX P ah (λk args G=>if k=f then g args G else none))(he:nT P (ah f)):TabOk P ah (Aj FT f F):=
 ⟨λk F' hk hn=>(by
  unfold Aj at hk;split at hk
  ·cases hk;rw[hi]at hn;cases hn
  ·exact h.walk k F' hk hn),λk F' g' hk hn=>(by
  unfold Aj at hk;split at hk
  ·rename_i e;subst e;cases hk;rw[hi]at hn;cases hn;exact⟨hg,he⟩
  ·exact h.intr k F' g' hk hn),h.mixed⟩
noncomputable def By:am:=⟨0,0,false,[],[],.skip,some (KF 76 Aq mz)⟩
def yS:Sig:=⟨[(.O 6 true),.F,(.O 6 true)],(.O 6 true),false⟩
def D5:ax:=⟨yS,[],.seq (.st [.asg [.pos (.v 2),.bin .eql (.v 1) (N' 0)] []]) (.ret (.app 6 (.app 6 (.slice 6 (.v 0) .nl (.v 1) .nl) (.v 2)) (.slice 6 (.v 0) (.v 1) .nl .nl)) [])⟩
def Kn:VC:=
 (.seq
 (.st [.asg [(.slice 6 (.v 0) (.v 1) .nl .nl)] [],.asg [] [(7,(.len (.v 2)))]])
 (.seq
  (.seq
  (.st [.asg [(.bin .eql (.v 7) (N' 0))] []])
  (.cond (.bin .eql (.v 7) (N' 0))
   (.seq
   (.st [.asg [] [(6,(.v 0))]])
   (.ret (.v 6) []))
   .skip))
  (.seq
  (.st [.asg [] [(8,(.len (.v 0)))]])
  (.seq
   (.seq
   (.st [.asg [(.bin .eql (.v 1) (.v 8))] []])
   (.cond (.bin .eql (.v 1) (.v 8))
    (.seq
    (.st [.asg [] [(6,(.app 6 (.v 0) (.v 2)))]])
    (.ret (.v 6) []))
    .skip))
   (.st [.asg [(.pos (.lst .nl))] []])))))
theorem K7:KG (λ_=>none) (pe (ww 76 Aq)) Aq yS=some Kn:=by kernel_rfl
theorem HG{es ys:List PV}{c1 c2:Bool}(hy:ys≠[])(hs:cC 6 ys=true)(hm:es.length+ys.length<bG)(hz:lW es 6=true){env:Env}(h0:env 0=.lst es c1)(h1:env 1=.int .i64 es.length)(h2:env 2=.lst ys c2):
  aF (λ_ _=>none) (λ_ _ _=>false) Kn env=some (.ret (.lst (es++ys) false) []):=by
 have hy0:((ys.length:Int)==0)=false:=by
  cases ys with
  |nil=>exact absurd rfl hy
  |cons=>simp;omega
 have h3:gb 6 (.lst es c1) (.int .i64 es.length) (.tup []) (.tup [])=some (aO (.lst (es.drop es.length) false)):=by
  simp[gb,mE,dt,aL,ru,hz]
 have h4:aY .eql .i64 (ys.length:Int) .i64 0=some (.bool false):=by simp only[aY,hy0];rfl
 have h5:aY .eql .i64 (es.length:Int) .i64 (es.length:Int)=some (.bool true):=by simp[aY]
 simp only[aF,dp,VS.run,ao,bW,eO,X.ev,ac,QD,P2,↓reduceIte,Env.set_at,Nat.reduceEqDiff,reduceCtorEq,bin,Kn,N',h0,h1,h2,h3,h4,h5,cB,nE,hs,hm,and_self]
theorem F7{C:bK}{V:Nat->List PV->List PV->Bool}{x0 x1 x2 x:PV}{os:List PV}(hd:aF C V D5.body (Env.ofArgs [x0,x1,x2])=some (.ret x os)):
  ∃es c ys c' n,x0=.lst es c/\x1=.int .i64 n/\x2=.lst ys c'/\ys≠[]/\0<=n/\n<=es.length/\lW es 6=true/\cC 6 ys=true/\es.length+ys.length<bG/\x=.lst (aB (es.take n.toNat)++ys++aB (es.drop n.toNat)) false/\os=[]:=by
 have e0:Env.ofArgs [x0,x1,x2] 0=x0:=rfl;have e1:Env.ofArgs [x0,x1,x2] 1=x1:=rfl;have e2:Env.ofArgs [x0,x1,x2] 2=x2:=rfl;generalize Env.ofArgs [x0,x1,x2]=env at*;simp only[D5,aF,dp,VS.run,ao,X.ev,e1,e2,bW,eO,ac]at hd;cases x2<;>simp only[Ho,QW,PX,Ps,PS,nP]at hd<;>try(cases hd;done)
 rename_i ys c';cases ys with
 |nil=>simp[]at hd
 |cons y ys=>
 cases x1<;>simp[Gv.bin]at hd
 rename_i k n;cases hk:aY .eql k n .i64 0 with
 |none=>rw[hk]at hd;simp at hd
 |some z=>
 have hk64:k=.i64:=by
  simp only[aY]at hk;split at hk
  ·cases hk
  ·rename_i h;exact Decidable.not_not.1 h
 subst hk64;rw[hk]at hd;simp only[QD,PQ,ac,e0,e1,e2]at hd;have hx0:∃es c,x0=.lst es c:=by
  cases x0<;>first|exact⟨_,_,rfl⟩|(exfalso;simp[gb,mE]at hd)
 obtain⟨es,c,rfl⟩:=hx0;simp only[gb,mE,QW,PX,Ps,Q5,Nat.reduceEqDiff,PS]at hd;cases h1:dt 6 es false none (some (.int .i64 n)) none with
 |none=>rw[h1]at hd;simp at hd
 |some s1=>
 cases h2:dt 6 es false (some (.int .i64 n)) none none with
 |none=>
  exfalso;rw[h1,h2]at hd;cases h3:nE 6 (aO s1) (.lst (y::ys) c')<;>simp[h3]at hd
 |some s2=>
 rw[h1,h2]at hd;simp only[dt,aL,ru]at h1 h2;by_cases hn:0<=n
 case neg=>rw[Pd hn]at h1;cases h1
 rw[O9 hn]at h1 h2;simp only at h1 h2;split at h1
 case isFalse=>cases h1
 rename_i g1;split at h2
 case isFalse=>cases h2
 rename_i g2;cases h1;cases h2;simp only[Py,ac,aO,nE]at hd;split at hd
 case isFalse=>simp at hd
 rename_i g3;simp only[ac]at hd;split at hd
 case isFalse=>simp at hd
 rename_i g4;simp only[ac,O5,ti.ret.injEq]at hd;have hnl:∀l:List PV,(aB l).length=l.length:=aQ;simp only[Pu,hnl,Pw,P7]at g3 g4;refine⟨es,c,y::ys,c',n,rfl,rfl,rfl,by simp,hn,by omega,g1.2.2.2,g3.1,by simp only[PJ]at*;omega,?_,hd.2.symm⟩;rw[<-hd.1];simp[Qv]
theorem Ir{FT:Nat->Option am}{sgs:Nat->Option Sig}:az (Aj FT 76 By) sgs 76 D5:=by
 refine .inr ⟨by kernel_rfl,λC V xs x os _ hd hl _=>?_⟩
 match xs,hl with
 |[x0,x1,x2],_=>
 obtain⟨es,c,ys,c',n,rfl,rfl,rfl,hy,hn0,hn1,hz,hs,hm,rfl,rfl⟩:=F7 hd;obtain⟨k,rfl⟩:∃k:Nat,n=k:=⟨n.toNat,by omega⟩;simp only[Int.toNat_natCast];have hFT:Aj FT 76 By 76=some By:=by simp[Aj]
 intro args G P kr uP loc hG
 match args,kr with
 |[v0,v1,v2],kr=>
 have kr':=kr;obtain⟨⟨t0,w0⟩,⟨p1,e1⟩,⟨t2,w2⟩,_⟩:=kr';have w0:=w0 rfl;have w2:=w2 rfl;have e1:v1=.int .i64 k:=by
  cases v1<;>simp[aO]at e1
  obtain⟨rfl,rfl⟩:=e1;rfl
 subst e1;have hidem:∀{l:List PV},(∃m,l=aB m)->aB l=l:=λ⟨m,e⟩=>by subst e;exact fF m
 have hes:aB es=es:=by
  rcases t0 with⟨_,e⟩|⟨r,ver,off,len,room,c0,b,_,_,_,_,_,_,_,_,e⟩
  ·cases e;rfl
  ·cases e;exact hidem ⟨_,rfl⟩
 have hkl:k<=es.length:=by omega
 rw[kC,iW,hes];have hgA:∀{q:aq}{i:Nat}{e:fg},P i q->(HA G).get q=some e->∃p b,q=.a p/\G[p]?=some b/\e=⟨0,some b⟩:=λ{q i e} h1 h2=>by
  obtain⟨p,rfl,hp⟩:=loc i q h1;simp only[HA,Heap.get,Pk]at h2;have hb:=Pa hp;rw[hb]at h2;simp only[Py,O5]at h2;exact⟨p,_,rfl,hb,h2.symm⟩
 rcases t2 with⟨_,e2⟩|⟨r2,ver2,off2,m,room2,c2,b2,hT2,hP2,hget2,hsz2,ho2,hr2,hpl2,hcl2,e2⟩
 ·cases e2;exact absurd rfl hy
 obtain⟨q,b2',rfl,hGq,eb2⟩:=hgA hP2 hget2;simp only[fg.mk.injEq,O5]at eb2;obtain⟨rfl,rfl⟩:=eb2;by_cases hk:k=es.length
 ·
  subst hk;have hC:ke (ww 76 Aq) (λ_=>none) (λ_ _=>none) (λ_ _ _=>false):=⟨λf xs r os h=>(by cases h),λk vs caps h=>(by cases h)⟩;have hctr:=FH (xs:=[.lst es c,.int .i64 es.length,.lst ys c']) hC (show ww 76 Aq 76=some Aq from rfl) K7 (HG hy hs hm hz rfl rfl rfl) (λh=>by cases h);obtain⟨n,rE,G',h1,h2,h3⟩:=hctr _ G P kr uP loc hG;have hmid:mz [v0,.int .i64 es.length,v2] G=none:=by
   rcases t0 with⟨hn,_⟩|⟨r,ver,off,len,room,c0,b,hT,hP,hget,_,ho,_,_,_,e⟩
   ·rcases hn with rfl|rfl<;>rfl
   ·obtain⟨p,b',rfl,hGp,eb⟩:=hgA hP hget;simp only[fg.mk.injEq,O5]at eb;obtain⟨rfl,rfl⟩:=eb;subst hT;subst hT2;have hlen:es.length=len:=by
     simp only[PV.lst.injEq]at e;rw[e.1,aQ];simp;omega
    simp only[mz,hGp,hGq];rw[Pd];intro hc;have:=hc.2.1.2.1;omega
  have e3:List.take es.length es++ys++List.drop es.length es=es++ys:=by simp
  rw[e3];refine⟨1,rE,G',?_,h2,h3⟩;rw[bf.eq_def];simp only;rw[hFT];simp only[By,KF,hmid];exact Gk h1
 ·
  have hcall:∀{r:PV×List (Option Blk)},mz [v0,.int .i64 k,v2] G=some r->bf (Aj FT 76 By) 1 76 [v0,.int .i64 k,v2] G=some r:=λ{r} h=>by
   rw[bf.eq_def];simp only;rw[hFT];simp only[By,KF,h]
  rcases t0 with⟨_,e⟩|⟨r,ver,off,len,room,c0,b,hT,hP,hget,hsz,ho,hr,hpl,hcl,e⟩
  ·cases e;simp at hkl;simp at hk;omega
  obtain⟨p,b',rfl,hGp,eb⟩:=hgA hP hget;simp only[fg.mk.injEq,O5]at eb;obtain⟨rfl,rfl⟩:=eb;simp only[PV.lst.injEq]at e e2;obtain⟨rfl,rfl⟩:=e;obtain⟨rfl,rfl⟩:=e2;subst hT;subst hT2;have hne:p≠q:=by
   rintro rfl
   have:=uP _ _ _ hP hP2;simp[K.n]at this
  have hro:b.ro=false:=by
   rcases w0 with hn|⟨r3,v3,s3,o3,l3,m3,b3,e3,g3,q3,_⟩
   ·rcases hn with hn|hn<;>cases hn
   ·cases e3;rw[hget]at g3;cases g3;exact q3
  have hWl:((b.es.drop off).take len).length=len:=by simp;omega
  have hVl:((b2.es.drop off2).take m).length=m:=by simp;omega
  simp only[aQ,hWl,hVl]at hkl hk hm;have hm0:0<m:=by
   rcases Nat.eq_zero_or_pos m with z|z
   ·subst z;exact absurd (by simp[aB]) hy
   ·exact z
  have hpb:bX b.es=true:=hpl;have hall:(G.all λb=>bX b.es)=true:=by
   rw[P4];intro x hx;obtain⟨j,hj⟩:=List.mem_iff_getElem?.1 hx;have:=hG j x hj;simp only[D5,yS,jS,KB,hget,hget2,PB,Pi,Qu,Qx,Pq,List.not_mem_nil,Q5]at this;rcases this with⟨_,_,rfl⟩|⟨_,_,rfl⟩
   ·exact hpl
   ·exact hpl2
  have hmid:mz [.tok (.a p) 0 6 off len room c0,.int .i64 k,.tok (.a q) 0 6 off2 m room2 c2] G=some (.tok (.l 0) 0 6 0 (len+m) (len+m) false,(G.map some).set p none++[some ⟨6,((b.es.drop off).take len).take k++(b2.es.drop off2).take m++((b.es.drop off).take len).drop k,false⟩]):=by
   simp only[mz,hGp,hGq,Int.toNat_natCast];rw[O9];exact⟨⟨hne,hro,hsz,hsz2,trivial,trivial⟩,⟨by omega,by omega,hm0,ho,ho2,hm⟩,hall⟩
  refine⟨1,_,_,hcall hmid,?_,λ_ h=>by cases h⟩;have hbsl:((G.map some).set p none).length=G.length:=by simp
  have hdrop:((G.map some).set p none++[some (⟨6,((b.es.drop off).take len).take k++(b2.es.drop off2).take m++((b.es.drop off).take len).drop k,false⟩:Blk)]).drop G.length=[some ⟨6,((b.es.drop off).take len).take k++(b2.es.drop off2).take m++((b.es.drop off).take len).drop k,false⟩]:=List.drop_left' hbsl;have hget3:(HX G.length ((G.map some).set p none++[some (⟨6,((b.es.drop off).take len).take k++(b2.es.drop off2).take m++((b.es.drop off).take len).drop k,false⟩:Blk)])).get (.l 0)=some ⟨0,some ⟨6,((b.es.drop off).take len).take k++(b2.es.drop off2).take m++((b.es.drop off).take len).drop k,false⟩⟩:=by
   simp only[HX,hdrop];rfl
  generalize hN:((b.es.drop off).take len).take k++(b2.es.drop off2).take m++((b.es.drop off).take len).drop k=N at*;have hNl:N.length=len+m:=by
   rw[<-hN];simp only[Pu,Pw,hWl,hVl,P7];omega
  have hNp:bX N=true:=by
   rw[<-hN,ki,ki];rw[du (du (cX hpl off) len),du (cX hpl2 off2) m,cX (du (cX hpl off) len)];rfl
  have hNc:∀x∈N,x.cells.length=6:=λx hx=>by
   rw[<-hN]at hx;rcases List.mem_append.1 hx with hx|hx
   ·rcases List.mem_append.1 hx with hx|hx
    ·exact hcl x (Qn (Qo (Qo hx)))
    ·exact hcl2 x (Qn (Qo hx))
   ·exact hcl x (Qn (Qo (Qn hx)))
  have hNn:aB N=(aB ((b.es.drop off).take len)).take k++aB ((b2.es.drop off2).take m)++(aB ((b.es.drop off).take len)).drop k:=by
   rw[<-hN,mZ,mZ,kC,iW]
  refine⟨by simp,by rw[hdrop];intro x hx;simp only[Px]at hx;subst hx;simp,⟨λi q=>i=0/\q=.l 0,⟨?_,trivial,?_,?_,?_,?_,?_,?_⟩⟩,λp hp=>by simp[D5,yS,bH]at hp,λp' hp' k' b' hPk hG'=>?_⟩
  ·refine⟨.inr ⟨.l 0,0,0,len+m,len+m,false,_,rfl,⟨rfl,rfl⟩,hget3,rfl,by simp[hNl],Pf _,hNp,hNc,?_⟩,λ_=>.inr ⟨.l 0,0,6,0,len+m,len+m,_,rfl,hget3,rfl,by simp[hNl]⟩⟩;rw[<-hNn,Rf,Qv (show N.length<=len+m by omega)]
  ·rintro i j q ⟨rfl,_⟩ ⟨rfl,_⟩;rfl
  ·rintro i q q' ⟨_,rfl⟩ ⟨_,rfl⟩;rfl
  ·intro k' hk';have:k'=0:=by
    have e4:((G.map some).set p none++[some (⟨6,N,false⟩:Blk)]).length-G.length=1:=by simp
    omega
   subst this;exact⟨0,rfl,rfl⟩
  ·rintro i q ⟨rfl,_⟩;show 0<Sig.nown _;decide
  ·rintro i k' ⟨_,e⟩
   cases e;simp
  ·rintro i k' ⟨_,e⟩;cases e
  ·have hlt:k'<G.length:=by
    obtain⟨k2,e,h⟩:=loc p' _ hPk;cases e;exact h
   rw[Pz (by simpa using hlt),List.getElem?_set]at hG';split at hG'
   ·split at hG'<;>cases hG'
   ·rw[Pk]at hG';cases hq:G[k']? with
    |none=>rw[hq]at hG';cases hG'
    |some x=>rw[hq]at hG';simp only[Py,O5]at hG';subst hG';exact List.all_eq_true.1 hall _ (Pl hq)
section
variable{FT:Nat->Option am}{h:Heap}{fr:List PV}{n:Nat}
end
theorem t7{FT:Nat->Option am}{n:Nat}{a b:eZ}{σ σ':St}{r:Option (Ex×St)}(h1:bF FT n a σ=some (.norm,σ'))(h2:bF FT n b σ'=r):bF FT (n+1) (.seq a b) σ=r:=by
 rw[bF.eq_def];simp only;rw[h1];exact h2
theorem FL{FT:Nat->Option am}{n:Nat}{x y:eZ}{σ:St}{t:Nat}{r:Option (Ex×St)}(h:lG σ.fr t=.bool false)(hx:bF FT n y σ=r):bF FT (n+1) (.cond (.t t) x y) σ=r:=by
 rw[bF.eq_def];simp only[PO.ev,h];exact hx
theorem HY{FT:Nat->Option am}{n:Nat}{σ:St}:bF FT (n+1) .ret σ=some (.ret,σ):=by rw[bF.eq_def]
theorem ED{FT:Nat->Option am}{n:Nat}{σ:St}:bF FT (n+1) .skip σ=some (.norm,σ):=by rw[bF.eq_def]
section
variable{FT:Nat->Option am}{f p off len room i j:Nat}{b:Blk}{G:List Blk}
end
end Gv
namespace Gv
open Go
def OkFrom(FT:Nat->Option am)(sgs:Nat->Option Sig):Nat->List (Option ax)->Prop
 |_,[]=>True
 |n,none::l=>OkFrom FT sgs (n+1) l
 |n,some F::l=>(F.binds=[]/\az FT sgs n F)/\OkFrom FT sgs (n+1) l
theorem OkFrom.get{FT:Nat->Option am}{sgs:Nat->Option Sig}:∀{l:List (Option ax)}{n:Nat},OkFrom FT sgs n l->∀{k:Nat}{F:ax},l[k]?=some (some F)->F.binds=[]/\az FT sgs (n+k) F
 |none::l,n,h,0,F,hk=>by simp at hk
 |none::l,n,h,k+1,F,hk=>by
  have:=OkFrom.get (l:=l) (n:=n+1) h (k:=k) (F:=F) (by simpa using hk);rw[show n+(k+1)=n+1+k by omega];exact this
 |some G::l,n,h,0,F,hk=>by
  simp only[Pg,O5]at hk;subst hk;exact h.1
 |some G::l,n,h,k+1,F,hk=>by
  have:=OkFrom.get (l:=l) (n:=n+1) h.2 (k:=k) (F:=F) (by simpa using hk);rw[show n+(k+1)=n+1+k by omega];exact this
theorem Im{FT:Nat->Option am}{l:List (Option ax)}(h:OkFrom FT (λg=>(HZ l g).map ax.sig) 0 l):Di FT (HZ l):=λf F hf=>by
 have hk:l[f]?=some (some F):=by
  unfold HZ at hf;rw[QU]at hf;cases hq:l[f]? with
  |none=>rw[hq]at hf;simp at hf
  |some x=>rw[hq]at hf;simp only[PK]at hf;rw[hf]
 have:=h.get hk;rwa[PZ]at this
def G3:List IOper:=[io 5 (.buildSlice none [] 0),io 6 (.mov (.t 0)),io 7 (.append 1 (.t 5) (.t 6) 1),io 2 (.mov (.t 7))]
def HW:am:=⟨8,2,false,[true],[.tmp 2],
 (.seq
 (.reg [io 2 (.mov (.c .nils))] false)
 (.seq
  (.seq
  (.reg [io 3 (.mov (.t 0)),io 4 (.eqn 0 false (.t 3) (.c .nils))] false)
  (.cond (.t 4)
   (.seq
   (.reg [io 2 (.mov (.c .nils))] false)
   .ret)
   .skip))
  (.seq
  (.reg G3 false)
  .ret))),none⟩
theorem JN{FT:Nat->Option am}{f:Nat}(hF:FT f=some HW):bf FT 20 f [.nils] []=some (.nils,[]):=by
 rw[bf.eq_def];simp only[hF];rfl
theorem Kt{es:List PV}{c:Bool}(hp:bX es=true)(hs:cC 1 es=true)(hm:es.length<bG)(hne:es≠[]){h:Heap}(h0:h.get (.l 0)=some ⟨1,some ⟨1,[],false⟩⟩)(h1:h.get (.l 1)=some ⟨0,none⟩):
  (jy 1 (.tok (.l 0) 1 1 0 0 0 false) (.lst es c) 1).run h=some (.tok (.l 1) 1 1 0 es.length es.length false,(h.put (.l 0) ⟨1,none⟩).put (.l 1) ⟨1,some ⟨1,es,false⟩⟩):=by
 have hmp:=qJ hp 7;have he:es.isEmpty=false:=by cases es with|nil=>exact absurd rfl hne|cons=>rfl
 have hpos:0<es.length:=List.length_pos_iff.2 hne;have h1':(h.put (.l 0) ⟨1,none⟩).get (.l 1)=some ⟨0,none⟩:=by rw[Heap.get_put_other (by intro h;cases h)];exact h1
 simp only[jy,elems,HM.bind];rw[O9 hs,hmp];simp only[HM.bind,he,Ps,PS,gO,bS,HM.run,h0,PQ,HM.ofO];rw[O9 ⟨trivial,trivial,by simp,by omega⟩,Pd (by omega),Pd (by simp)];simp[HM.run,h0,eG,h1',HM.bind]
theorem JH{FT:Nat->Option am}{f:Nat}(hF:FT f=some HW){es:List PV}{c:Bool}(hp:bX es=true)(hs:cC 1 es=true)(hm:es.length<bG):
  bf FT 20 f [.lst es c] []=some (.tok (.l 0) 0 1 0 es.length es.length false,[some ⟨1,es,false⟩]):=by
 cases hes:es with
 |nil=>
  subst hes;rw[bf.eq_def];simp only[hF];rfl
 | cons y ys=>
  rw[<-hes];have hne:es≠[]:=by rw[hes];simp
  have happ:=Kt (c:=c) hp hs hm hne (h:=⟨[],[⟨1,some ⟨1,[],false⟩⟩,⟨0,none⟩]⟩) rfl rfl;clear hes;have hreg:gX (λf=>match FT f with|some F=>F.ro|none=>[]) (bf FT 14) G3 ⟨[.lst es c,.junk,.nils,.lst es c,.bool false,.junk,.junk,.junk],⟨[],[⟨0,none⟩,⟨0,none⟩]⟩⟩=
    some ⟨[.lst es c,.junk,.tok (.l 1) 1 1 0 es.length es.length false,.lst es c,.bool false,.tok (.l 0) 1 1 0 0 0 false,.lst es c,.tok (.l 1) 1 1 0 es.length es.length false],⟨[],[⟨1,none⟩,⟨1,some ⟨1,es,false⟩⟩]⟩⟩:=by
   have e1:jd (λf=>match FT f with|some F=>F.ro|none=>[]) (bf FT 14) (io 5 (.buildSlice none [] 0)) ⟨[.lst es c,.junk,.nils,.lst es c,.bool false,.junk,.junk,.junk],⟨[],[⟨0,none⟩,⟨0,none⟩]⟩⟩=some ⟨[.lst es c,.junk,.nils,.lst es c,.bool false,.tok (.l 0) 1 1 0 0 0 false,.junk,.junk],⟨[],[⟨1,some ⟨1,[],false⟩⟩,⟨0,none⟩]⟩⟩:=rfl;have e2:jd (λf=>match FT f with|some F=>F.ro|none=>[]) (bf FT 14) (io 6 (.mov (.t 0))) ⟨[.lst es c,.junk,.nils,.lst es c,.bool false,.tok (.l 0) 1 1 0 0 0 false,.junk,.junk],⟨[],[⟨1,some ⟨1,[],false⟩⟩,⟨0,none⟩]⟩⟩=some ⟨[.lst es c,.junk,.nils,.lst es c,.bool false,.tok (.l 0) 1 1 0 0 0 false,.lst es c,.junk],⟨[],[⟨1,some ⟨1,[],false⟩⟩,⟨0,none⟩]⟩⟩:=rfl;have e3:jd (λf=>match FT f with|some F=>F.ro|none=>[]) (bf FT 14) (io 7 (.append 1 (.t 5) (.t 6) 1)) ⟨[.lst es c,.junk,.nils,.lst es c,.bool false,.tok (.l 0) 1 1 0 0 0 false,.lst es c,.junk],⟨[],[⟨1,some ⟨1,[],false⟩⟩,⟨0,none⟩]⟩⟩=some ⟨[.lst es c,.junk,.nils,.lst es c,.bool false,.tok (.l 0) 1 1 0 0 0 false,.lst es c,.tok (.l 1) 1 1 0 es.length es.length false],⟨[],[⟨1,none⟩,⟨1,some ⟨1,es,false⟩⟩]⟩⟩:=by
    show(match(jy 1 (.tok (.l 0) 1 1 0 0 0 false) (.lst es c) 1).run ⟨[],[⟨1,some ⟨1,[],false⟩⟩,⟨0,none⟩]⟩with|some (v,h)=>some (⟨upd _ 7 v,h⟩:St)|none=>none)=_;rw[happ];rfl
   simp only[G3,gX,e1,e2,e3];rfl
  have hex:bF FT 19 HW.body ⟨[.lst es c,.junk,.junk,.junk,.junk,.junk,.junk,.junk],⟨[],[⟨0,none⟩,⟨0,none⟩]⟩⟩=some (.ret,⟨[.lst es c,.junk,.tok (.l 1) 1 1 0 es.length es.length false,.lst es c,.bool false,.tok (.l 0) 1 1 0 0 0 false,.lst es c,.tok (.l 1) 1 1 0 es.length es.length false],⟨[],[⟨1,none⟩,⟨1,some ⟨1,es,false⟩⟩]⟩⟩):=by
   have g1:bF FT 18 (.reg [io 2 (.mov (.c .nils))] false) ⟨[.lst es c,.junk,.junk,.junk,.junk,.junk,.junk,.junk],⟨[],[⟨0,none⟩,⟨0,none⟩]⟩⟩=some (.norm,⟨[.lst es c,.junk,.nils,.junk,.junk,.junk,.junk,.junk],⟨[],[⟨0,none⟩,⟨0,none⟩]⟩⟩):=rfl;have g2:bF FT 16 (.reg [io 3 (.mov (.t 0)),io 4 (.eqn 0 false (.t 3) (.c .nils))] false) ⟨[.lst es c,.junk,.nils,.junk,.junk,.junk,.junk,.junk],⟨[],[⟨0,none⟩,⟨0,none⟩]⟩⟩=some (.norm,⟨[.lst es c,.junk,.nils,.lst es c,.bool false,.junk,.junk,.junk],⟨[],[⟨0,none⟩,⟨0,none⟩]⟩⟩):=rfl;refine t7 g1 (t7 (t7 g2 (FL rfl ED)) (t7 (n:=16) ?_ HY));rw[bF.eq_def];simp only;have h2:=pO (ja (FT:=FT) (n:=14) (m:=15) (by omega)) hreg;change(match gX (λf=>match FT f with|some F=>F.ro|none=>[]) (bf FT 15) G3 _ with|some σ'=>some (Ex.norm,σ')|none=>none)=_;rw[h2]
  rw[bf.eq_def];simp only[hF];have hi:HW.intr=none:=rfl;rw[hi];simp only;have hs0:(⟨[PV.lst es c]++List.replicate (HW.ntmps-[PV.lst es c].length) PV.junk,⟨List.map some ([]:List Blk),List.replicate HW.nslots ⟨0,none⟩⟩⟩:St)=⟨[.lst es c,.junk,.junk,.junk,.junk,.junk,.junk,.junk],⟨[],[⟨0,none⟩,⟨0,none⟩]⟩⟩:=rfl;rw[hs0,hex];simp only;have ht:bi es=[]:=nc hp;have hren:∀g,co g es=es:=λg=>(fL hp g).1;have hfin:(nG HW ([]:List Blk).length [.lst es c,.junk,.tok (.l 1) 1 1 0 es.length es.length false,.lst es c,.bool false,.tok (.l 0) 1 1 0 0 0 false,.lst es c,.tok (.l 1) 1 1 0 es.length es.length false]).run ⟨[],[⟨1,none⟩,⟨1,some ⟨1,es,false⟩⟩]⟩=some ((.tok (.l 0) 0 1 0 es.length es.length false,[some ⟨1,es,false⟩]),⟨[],[⟨1,none⟩,⟨1,some ⟨1,es,false⟩⟩]⟩):=by
   unfold nG;simp[HW,mS,HM.bind,HM.run,one,lZ,kt,fI,cY,Heap.get,lG,fV,ren,Blk.ren,hren,ht]
  rw[hfin]
def rY:ax:=⟨⟨[.F],.O 1 true,true⟩,[],.seq (.st [.asg [.len (.v 0)] []]) (.ret (.app 1 (.lst .nl) (.v 0)) [])⟩
theorem Hi{C:bK}{V:Nat->List PV->List PV->Bool}{x0 x:PV}{os:List PV}(hd:aF C V rY.body (Env.ofArgs [x0])=some (.ret x os)):
  ∃es c,x0=.lst es c/\cC 1 es=true/\es.length<bG/\x=.lst es false/\os=[]:=by
 have e0:Env.ofArgs [x0] 0=x0:=rfl;generalize Env.ofArgs [x0]=env at*;have hgood:ao env [.len (.v 0)]=true:=by
  cases hb:ao env [.len (.v 0)]with
  |true=>rfl
  |false=>simp only[rY,aF,dp,VS.run,hb,Ps,PS,nP]at hd;cases hd
 simp only[rY,aF,dp,VS.run,hgood,PQ,bW,eO,ac]at hd;simp only[ao,P2,X.ev,e0,ac]at hgood;simp only[X.ev,e0,ac,bT]at hd;cases x0<;>simp[cB]at hgood
 rename_i es c;simp only[ab]at hd;obtain⟨y,hy,hd⟩:=hd;cases hd;simp only[nE]at hy;split at hy
 case isFalse=>cases hy
 rename_i q;cases hy;simp only[PT,PZ]at q;exact⟨es,c,rfl,q.1,q.2,by simp,rfl⟩
theorem xq:∀{es:List PV},(aB es).all (λ |.int .. |.bool _|.str _|.nilp|.nilfn=>true|_=>false)=true->bX es=true->iD es=true
 |[],_,_=>rfl
 |e::es,h,hp=>by
  simp only[aB,List.all_cons,O6]at h;simp only[bX,O6]at hp;have ih:=xq (es:=es) h.2 hp.2;simp only[iD,ih,P2];cases e<;>simp_all [aO,d8]
theorem Ke{FT:Nat->Option am}{sgs:Nat->Option Sig}{f:Nat}(hF:FT f=some HW):az FT sgs f rY:=by
 refine .inr ⟨by kernel_rfl,λC V xs x os _ hd hl hsc=>?_⟩
 match xs,hl with
 |[x0],_=>
 obtain⟨ys,c,rfl,hs,hm,rfl,rfl⟩:=Hi hd;have hsc:=hsc rfl;have hso:ta (.lst ys false)=true:=by
  rcases hsc with h|h
  ·simp[fW]at h
  ·exact h
 intro args G P kr uP loc hG
 match args,kr with
 |[v0],kr=>
 obtain⟨⟨p0,e0⟩,_⟩:=kr;have hG0:G=[]:=by
  cases G with
  |nil=>rfl
  |cons b bs=>have:=hG 0 b rfl;simp[rY,jS,KB]at this
 subst hG0;have hfl:∀{n:Nat}{rE:PV}{G':List (Option Blk)},bf FT n f [v0] []=some (rE,G')->ExitOk rY.sig P [v0] [] G' rE (.lst ys false) []->(d8 rE=true/\g9 (G'.drop 0)=true)->
   ∃n rE G',bf FT n f [v0] []=some (rE,G')/\ExitOk rY.sig P [v0] [] G' rE (.lst ys false) []/\(K.nL rY.sig.ps=0->rY.sig.scal=true->d8 rE=true/\g9 (G'.drop ([]:List Blk).length)=true):=
  λh1 h2 h3=>⟨_,_,_,h1,h2,λ_ _=>h3⟩
 cases v0 with
 |nils=>
  simp only[aO]at e0;cases e0;refine hfl (JN hF) ⟨Pf _,by simp,⟨λ_ _=>False,⟨⟨.inl ⟨.inl rfl,rfl⟩,λ_=>.inl (.inl rfl)⟩,trivial,λ_ _ _ h=>h.elim,λ_ _ _ h=>h.elim,λk hk=>by simp at hk,λ_ _ h=>h.elim,λ_ _ h=>h.elim,λ_ _ h=>h.elim⟩⟩,λp hp=>by simp[rY,bH]at hp,λp _ k b _ h=>by simp at h⟩ ⟨rfl,rfl⟩
 | lst es c0=>
  simp only[aO,PV.lst.injEq]at e0;obtain⟨rfl,rfl⟩:=e0;simp only[pl]at p0;have hs':cC 1 es=true:=by
   have key:∀{l:List PV},cC 1 (aB l)=true->cC 1 l=true:=by
    intro l;induction l with
    |nil=>intro _;rfl
    |cons a l ih=>
     intro h;simp only[aB,cC,O6]at h⊢;refine⟨?_,ih h.2⟩;have h1:=h.1;cases a<;>simp_all [aO,PV.cells,aQ]
   exact key hs
  have hm':es.length<bG:=by rwa[aQ]at hm
  have hnr:iD es=true:=xq hso p0;have hcl:∀e∈es,e.cells.length=1:=pB hs';have hget:(HX 0 [some (⟨1,es,false⟩:Blk)]).get (.l 0)=some ⟨0,some ⟨1,es,false⟩⟩:=rfl;refine hfl (JH hF p0 hs' hm') ⟨Qf _,by simp,⟨λi q=>i=0/\q=.l 0,⟨?_,trivial,?_,?_,?_,?_,?_,?_⟩⟩,λp hp=>by simp[rY,bH]at hp,λp' hp' k' b' hPk hG'=>?_⟩ ⟨rfl,by simp[g9,hnr]⟩
  ·refine⟨.inr ⟨.l 0,0,0,es.length,es.length,false,_,rfl,⟨rfl,rfl⟩,hget,rfl,by simp,Pf _,p0,hcl,by simp⟩,λ_=>.inr ⟨.l 0,0,1,0,es.length,es.length,_,rfl,hget,rfl,by simp⟩⟩
  ·rintro i j q ⟨rfl,_⟩ ⟨rfl,_⟩;rfl
  ·rintro i q q' ⟨_,rfl⟩ ⟨_,rfl⟩;rfl
  ·intro k' hk';have:k'=0:=by simp at hk';exact hk'
   subst this;exact⟨0,rfl,rfl⟩
  ·rintro i q ⟨rfl,_⟩;show 0<Sig.nown _;decide
  ·rintro i k' ⟨_,e⟩;cases e;simp
  ·rintro i k' ⟨_,e⟩;cases e
  ·obtain⟨k2,e,h⟩:=loc p' _ hPk;simp at h
 |_=>simp[aO]at e0
def E6:VC:=.seq (.st [.asg [] [(2,.app 1 (.v 0) (.v 0))],.asg [] [(3,.app 1 (.v 2) (.v 2))],.asg [] [(4,.app 1 (.v 3) (.v 3))],.asg [] [(5,.app 1 (.v 4) (.v 4))],.asg [] [(6,.app 1 (.v 5) (.v 5))],.asg [] [(7,.app 1 (.v 6) (.v 6))],.asg [] [(8,.app 1 (.v 7) (.v 7))]]) (.ret (.slice 1 (.v 8) .nl (.v 1) .nl) [])
def tM:ax:=⟨⟨[.F,.F],.O 1 true,true⟩,[],
 .cond (.bin .eql (.len (.v 0)) (.int .i64 1)) (.cond (.bin .eql (.ld none (.ia 1 (.v 0) (.int .i64 0)) 0) (.int .i64 (-1)))
  (.cond (.bin .leq (.v 1) (.int .i64 65)) (.cond (.bin .geq (.v 1) (.int .i64 1)) E6 o5) o5) o5) o5⟩
theorem kG{C:bK}{V:Nat->List PV->List PV->Bool}{c:X}{a:VC}{env:Env}{r:ti}(h:aF C V (.cond c a o5) env=some r):c.ev env=some (.bool true)/\aF C V a env=some r:=by
 simp only[aF]at h;split at h
 ·rename_i hc;exact⟨hc,h⟩
 ·rw[pH]at h;cases h
 ·cases h
theorem sF{op:BinOp}{a b:X}{env:Env}{v:PV}(h:(X.bin op a b).ev env=some v):∃x y,a.ev env=some x/\b.ev env=some y/\bin op x y=some v:=by
 simp only[X.ev,ab]at h;obtain⟨x,h1,y,h2,h3⟩:=h;exact⟨x,y,h1,h2,h3⟩
theorem vO(e:PV):∀n,aB (List.replicate n e)=List.replicate n (aO e)
 |0=>rfl
 |n+1=>by rw[Qj,aB,vO e n,Qj]
theorem nn{e:PV}{c c':Bool}{a b:Nat}(he:e.cells.length=1)(h:a+b<1000000):nE 1 (.lst (List.replicate a e) c) (.lst (List.replicate b e) c')=some (.lst (List.replicate (a+b) e) false):=by
 have hs:∀b,cC 1 (List.replicate b e)=true:=by
  intro b;induction b with
  |zero=>rfl
  |succ b ih=>rw[Qj,cC,ih,he];rfl
 simp only[nE];rw[O9 ⟨hs b,by simp[bG];omega⟩,List.replicate_append_replicate]
theorem Ev{es:List PV}{n:Nat}(hl:lW es 1=true)(hn:n<=es.length):gb 1 (.lst es false) (.tup []) (.int .i64 (n:Nat)) (.tup [])=some (aO (.lst (es.take n) false)):=by
 simp[gb,mE,dt,aL,ru,hl,hn]
theorem Er{e:PV}{n:Nat}(he:e.cells.length=1)(hn:n<=65):gb 1 (.lst (List.replicate 128 e) false) (.tup []) (.int .i64 (n:Nat)) (.tup [])=some (.lst (List.replicate n (aO e)) false):=by
 have hl:∀k,lW (List.replicate (k+1) e) 1=true:=λk=>by simp[Qj,lW,he]
 rw[Ev (hl 127) (by rw[Qz];omega),List.take_replicate,Nat.min_eq_left (by omega)];simp only[aO,vO]
theorem I7{y:PV}{z:Int}(h:bin .eql y (.int .i64 z)=some (.bool true)):y=.int .i64 z:=by
 cases y<;>simp[bin]at h
 rename_i k a;simp only[aY]at h;split at h
 ·cases h
 ·rename_i hk;simp at h hk;rw[h,hk]
theorem Aa{C:bK}{V:Nat->List PV->List PV->Bool}{env:Env}{e:PV}{c:Bool}{n:Nat}(h0:env 0=.lst [e] c)(h1:env 1=.int .i64 (n:Nat))(he:e.cells.length=1)(hn:n<=65):
  aF C V E6 env=some (.ret (.lst (List.replicate n (aO e)) false) []):=by
 have a1:nE 1 (.lst [e] c) (.lst [e] c)=some (.lst (List.replicate 2 e) false):=nn (a:=1) (b:=1) he (by omega);have a2:=nn (e:=e) (c:=false) (c':=false) (a:=2) (b:=2) he (by omega);have a3:=nn (e:=e) (c:=false) (c':=false) (a:=4) (b:=4) he (by omega);have a4:=nn (e:=e) (c:=false) (c':=false) (a:=8) (b:=8) he (by omega);have a5:=nn (e:=e) (c:=false) (c':=false) (a:=16) (b:=16) he (by omega);have a6:=nn (e:=e) (c:=false) (c':=false) (a:=32) (b:=32) he (by omega);have a7:=nn (e:=e) (c:=false) (c':=false) (a:=64) (b:=64) he (by omega);have s:=Er (n:=n) he hn;simp only[Nat.reduceAdd]at a2 a3 a4 a5 a6 a7;simp only[E6,aF,dp,VS.run,ao,bW,eO,X.ev,h0,h1,a1,a2,a3,a4,a5,a6,a7,s,ac,PQ,Env.set_at,Nat.reduceEqDiff,PS]
theorem Gg{C:bK}{V:Nat->List PV->List PV->Bool}{x0 x1 x:PV}{os:List PV}(hd:aF C V tM.body (Env.ofArgs [x0,x1])=some (.ret x os))(hsc:fW x=true∨ta x=true):
  ∃(c:Bool)(n:Nat),x0=.lst [.int .i64 (-1)] c/\x1=.int .i64 (n:Nat)/\1<=n/\n<=65/\x=.lst (List.replicate n (.int .i64 (-1))) false/\os=[]:=by
 have e0:Env.ofArgs [x0,x1] 0=x0:=rfl;have e1:Env.ofArgs [x0,x1] 1=x1:=rfl;generalize Env.ofArgs [x0,x1]=env at*;obtain⟨c1,hd⟩:=kG hd;obtain⟨c2,hd⟩:=kG hd;obtain⟨c3,hd⟩:=kG hd;obtain⟨c4,hd⟩:=kG hd;obtain⟨y1,y2,a1,a2,a3⟩:=sF c1;simp only[X.ev,e0,ac,O5]at a1 a2;subst a2;cases x0<;>simp[cB]at a1
 rename_i es c;subst a1;simp only[bin,aY,ne_eq,Qg,PS,O5,PV.bool.injEq,PF]at a3
 match es,a3 with
 |[e],_=>
 obtain⟨y1,y2,a1,a2,a3⟩:=sF c2;simp only[X.ev,e0,ac,O5]at a1 a2;subst a2;obtain⟨y3,y4,b1,b2,b3⟩:=sF c3;simp only[X.ev,e1,O5]at b1 b2;subst b1 b2;obtain⟨y5,y6,d1,d2,d3⟩:=sF c4;simp only[X.ev,e1,O5]at d1 d2;subst d1 d2;cases x1<;>simp[bin]at b3 d3
 rename_i k n;have hk:k=.i64:=by
  by_cases h:k=.i64
  ·exact h
  ·simp[aY,h]at b3
 subst hk;simp[aY]at b3 d3;obtain⟨n,rfl⟩:=QQ (show 0<=n by omega);have hie:au 1 (.lst [e] c) (.int .i64 0)=if e.cells.length=1 then some (.lptr e.cells)else none:=by simp[au]
 rw[hie]at a1;split at a1
 rotate_left
 ·simp at a1
 rename_i he;simp only[ac]at a1;have hr:=Aa (C:=C) (V:=V) e0 e1 he (by omega);rw[hr]at hd;simp only[O5,ti.ret.injEq]at hd;obtain⟨rfl,rfl⟩:=hd;have he2:e.cells=[.int .i64 (-1)]:=by
  match hc:e.cells,he with
  |[d],_=>
  rw[hc]at a1;simp only[Cw,mM,dD,Pg]at a1;have:=I7 a3;subst this;split at a1
  ·cases a1;rfl
  ·cases a1
 refine⟨c,n,?_,rfl,by omega,by omega,?_,rfl⟩
 ·cases e with
  |agg cs=>
   obtain⟨m,rfl⟩:∃m,n=m+1:=⟨n-1,by omega⟩;simp[fW,ta,Qj,aO]at hsc
  |_=>simp_all [PV.cells]
 ·cases e with
  |agg cs=>
   obtain⟨m,rfl⟩:∃m,n=m+1:=⟨n-1,by omega⟩;simp[fW,ta,Qj,aO]at hsc
  |_=>simp_all [PV.cells,aO]
def yd(FT:Nat->Option am)(f:Nat):Prop:=∀(b:Bool)(n:Nat),n<65->bf FT 120 f [.lst [.int .i64 (-1)] b,.int .i64 ((n+1:Nat):Int)] []=some (.tok (.l 0) 0 1 0 (n+1) (n+1) false,[some ⟨1,List.replicate (n+1) (.int .i64 (-1)),false⟩])
def cO(FT:Nat->Option am)(f:Nat)(b:Bool)(j:Nat):Prop:=(List.range 8).map (λi=>bf FT 120 f [.lst [.int .i64 (-1)] b,.int .i64 ((8*j+i+1:Nat):Int)] [])=(List.range 8).map (λi=>some (.tok (.l 0) 0 1 0 (8*j+i+1) (8*j+i+1) false,[some ⟨1,List.replicate (8*j+i+1) (.int .i64 (-1)),false⟩]))
theorem Bo{FT:Nat->Option am}{f:Nat}(h:∀b j,j<9->cO FT f b j):yd FT f:=λb n hn=>by
 have:=congrArg (λl=>l[n %8]?) (h b (n/8) (by omega));have h8:n %8<8:=Nat.mod_lt _ (by omega);simp only[Pk,Qi h8,Py,O5,Nat.div_add_mod]at this;exact this
theorem EF{e:PV}{k:IntKind}{z:Int}(h:aO e=.int k z):e=.int k z:=by
 cases e<;>simp only[aO,reduceCtorEq]at h
 exact h
theorem H9{FT:Nat->Option am}{sgs:Nat->Option Sig}{f:Nat}(hF:yd FT f):az FT sgs f tM:=by
 refine .inr ⟨by kernel_rfl,λC V xs x os _ hd hl hsc=>?_⟩
 match xs,hl with
 |[x0,x1],_=>
 have hsc:=hsc rfl;obtain⟨c,n,rfl,rfl,hn1,hn2,rfl,rfl⟩:=Gg hd hsc;intro args G P kr uP loc hG
 match args,kr with
 |[v0,v1],kr=>
 obtain⟨⟨p0,e0⟩,⟨p1,e1⟩,_⟩:=kr;have hG0:G=[]:=by
  cases G with
  |nil=>rfl
  |cons b bs=>have:=hG 0 b rfl;simp[tM,jS,KB]at this
 subst hG0;have ev1:v1=.int .i64 (n:Nat):=by cases v1<;>simp_all [aO]
 subst ev1;obtain⟨c0,rfl⟩:∃c0,v0=.lst [.int .i64 (-1)] c0:=by
  cases v0 with
  | lst es c0=>
   have e0':aB es=[.int .i64 (-1)]:=by
    simp only[aO,PV.lst.injEq]at e0;exact e0.1.symm
   match es,e0' with
   |[e],h=>
    simp only[aB,Q7,Rc]at h;exact⟨c0,by rw[EF h]⟩
   |[],h=>cases h
   |_::_::_,h=>simp only[aB,Q7,reduceCtorEq,QE]at h
  |nils=>simp[aO]at e0
  |_=>simp only[aO,reduceCtorEq]at e0
 obtain⟨k,rfl⟩:∃k,n=k+1:=⟨n-1,by omega⟩;have run:=hF c0 k (by omega);have hpl:bX (List.replicate (k+1) (.int .i64 (-1)))=true:=by
  have:∀k,bX (List.replicate k (.int .i64 (-1)))=true:=λk=>by
   induction k with
   |zero=>rfl
   |succ k ih=>rw[Qj,bX,ih];rfl
  exact this _
 have hnr:iD (List.replicate (k+1) (.int .i64 (-1)))=true:=by
  have:∀k,iD (List.replicate k (.int .i64 (-1)))=true:=λk=>by
   induction k with
   |zero=>rfl
   |succ k ih=>rw[Qj,iD,ih];rfl
  exact this _
 have hnrm:aB (List.replicate (k+1) (.int .i64 (-1)))=List.replicate (k+1) (.int .i64 (-1)):=vO _ _;have hcl:∀e∈List.replicate (k+1) (PV.int .i64 (-1)),e.cells.length=1:=λe he=>by rw[List.eq_of_mem_replicate he];rfl
 generalize hes:List.replicate (k+1) (PV.int .i64 (-1))=es at*;have hlen:es.length=k+1:=by rw[<-hes];simp
 have hget:(HX 0 [some (⟨1,es,false⟩:Blk)]).get (.l 0)=some ⟨0,some ⟨1,es,false⟩⟩:=rfl;rw[<-hlen]at run;have hfl:∀{n:Nat}{rE:PV}{G':List (Option Blk)},bf FT n f [.lst [.int .i64 (-1)] c0,.int .i64 (es.length:Nat)] []=some (rE,G')->ExitOk tM.sig P [.lst [.int .i64 (-1)] c0,.int .i64 (es.length:Nat)] [] G' rE (.lst es false) []->(d8 rE=true/\g9 (G'.drop 0)=true)->
   ∃n rE G',bf FT n f [.lst [.int .i64 (-1)] c0,.int .i64 (es.length:Nat)] []=some (rE,G')/\ExitOk tM.sig P [.lst [.int .i64 (-1)] c0,.int .i64 (es.length:Nat)] [] G' rE (.lst es false) []/\(K.nL tM.sig.ps=0->tM.sig.scal=true->d8 rE=true/\g9 (G'.drop ([]:List Blk).length)=true):=
  λh1 h2 h3=>⟨_,_,_,h1,h2,λ_ _=>h3⟩
 rw[<-hlen];refine hfl run ⟨Qf _,by simp,⟨λi q=>i=0/\q=.l 0,⟨?_,trivial,?_,?_,?_,?_,?_,?_⟩⟩,λp hp=>by simp[tM,bH]at hp,λp' hp' k' b' hPk hG'=>?_⟩ ⟨rfl,by simp[g9,hnr]⟩
 ·refine⟨.inr ⟨.l 0,0,0,es.length,es.length,false,_,rfl,⟨rfl,rfl⟩,hget,rfl,by simp,Pf _,hpl,hcl,by simp[hnrm]⟩,λ_=>.inr ⟨.l 0,0,1,0,es.length,es.length,_,rfl,hget,rfl,by simp⟩⟩
 ·rintro i j q ⟨rfl,_⟩ ⟨rfl,_⟩;rfl
 ·rintro i q q' ⟨_,rfl⟩ ⟨_,rfl⟩;rfl
 ·intro k' hk';have:k'=0:=by simp at hk';exact hk'
  subst this;exact⟨0,rfl,rfl⟩
 ·rintro i q ⟨rfl,_⟩;show 0<Sig.nown _;decide
 ·rintro i k' ⟨_,e⟩;cases e;simp
 ·rintro i k' ⟨_,e⟩;cases e
 ·obtain⟨k2,e,h⟩:=loc p' _ hPk;simp at h
end Gv
namespace Gv
open Go
def Hu:Nat->Nat->X
 |0,k=>.int .i64 k
 |f+1,k=>.ite (.bin .lss (.v 0) (.int .u64 (2^k:Nat))) (.int .i64 k) (Hu f (k+1))
def zj:ax:=⟨⟨[.F],.F,true⟩,[],
 .cond (.bin .lss (.v 0) (.int .u64 256)) (.cond (.bin .geq (.v 0) (.int .u64 0)) (.ret (Hu 8 0) []) o5) o5⟩
def uz:Nat->Nat->Nat->Nat
 |0,k,_=>k
 |f+1,k,n=>if n<2^k then k else uz f (k+1) n
def Dd(FT:Nat->Option am)(f:Nat):Prop:=∀n:Nat,n<256->bf FT 60 f [.int .u64 (n:Int)] []=some (.int .i64 (uz 8 0 n:Nat),[])
def MC(FT:Nat->Option am)(f j:Nat):Prop:=(List.range 32).map (λi=>bf FT 60 f [.int .u64 ((32*j+i:Nat):Int)] [])=(List.range 32).map (λi=>some (.int .i64 (uz 8 0 (32*j+i):Nat),[]))
theorem B8{FT:Nat->Option am}{f:Nat}(h:∀j,j<8->MC FT f j):Dd FT f:=λn hn=>by
 have:=congrArg (λl=>l[n %32]?) (h (n/32) (by omega));have h8:n %32<32:=Nat.mod_lt _ (by omega);simp only[Pk,Qi h8,Py,O5,Nat.div_add_mod]at this;exact this
theorem KP(a b:Nat):bin .lss (.int .u64 (a:Int)) (.int .u64 (b:Int))=some (.bool (decide (a<b))):=by simp[bin,aY]
theorem yJ{env:Env}{n:Nat}(h:env 0=.int .u64 (n:Int)):∀(f k:Nat),(Hu f k).ev env=some (.int .i64 (uz f k n:Nat))
 |0,k=>rfl
 |f+1,k=>by
  simp only[Hu,X.ev,h,ac,KP,uz];by_cases hk:n<2^k
  ·simp[hk]
  ·simp[hk,yJ h f (k+1)]
theorem Fq{e:PV}{k:IntKind}{z:Int}(h:aO e=.int k z):e=.int k z:=by
 cases e<;>simp only[aO,reduceCtorEq]at h
 exact h
theorem IT{op:BinOp}{y:PV}{z:Int}{b:Bool}(ho:op=.lss∨op=.geq)(h:bin op y (.int .u64 z)=some (.bool b)):∃a:Int,y=.int .u64 a/\(op=.lss->b=decide (a<z))/\(op=.geq->b=decide (z<=a)):=by
 rcases ho with rfl|rfl<;>cases y<;>simp[bin]at h<;>rename_i k a<;>simp only[aY]at h<;>split at h<;>first|(cases h;done)|skip
 all_goals
  rename_i hk;simp at h hk;subst hk;exact⟨a,rfl,by simp[<-h],by simp[<-h]⟩
theorem G4{FT:Nat->Option am}{sgs:Nat->Option Sig}{f:Nat}(hF:Dd FT f):az FT sgs f zj:=by
 refine .inr ⟨by kernel_rfl,λC V xs x os _ hd hl hsc=>?_⟩
 match xs,hl with
 |[x0],_=>
 obtain⟨c1,hd⟩:=kG hd;obtain⟨c2,hd⟩:=kG hd;obtain⟨a1,b1,g1,g2,g3⟩:=sF c1;obtain⟨a2,b2,k1,k2,k3⟩:=sF c2;have h0:(Env.ofArgs [x0]) 0=x0:=by simp[Env.ofArgs]
 simp only[X.ev,h0,O5]at g1 g2 k1 k2;subst g1 g2 k1 k2;obtain⟨a,rfl,q1,_⟩:=IT (.inl rfl) g3;obtain⟨a',q0,_,q2⟩:=IT (.inr rfl) k3;simp only[PV.int.injEq,true_and]at q0;subst q0;have q1:=Qb (q1 rfl).symm;have q2:=Qb (q2 rfl).symm;obtain⟨n,rfl⟩:=QQ q2;have hn:n<256:=by omega
 simp only[aF,eO,yJ h0,ac,O5,ti.ret.injEq]at hd;obtain⟨rfl,rfl⟩:=hd;intro args G P kr uP loc hG
 match args,kr with
 |[v0],kr=>
 obtain⟨⟨p0,e0⟩,_⟩:=kr;have hG0:G=[]:=by
  cases G with
  |nil=>rfl
  |cons b bs=>have:=hG 0 b rfl;simp[zj,jS,KB]at this
 subst hG0;have ev0:v0=.int .u64 (n:Nat):=Fq e0.symm;subst ev0;exact⟨60,_,_,hF n hn,⟨Pf _,by simp,⟨λ_ _=>False,⟨⟨rfl,rfl⟩,trivial,λ_ _ _ h=>h.elim,λ_ _ _ h=>h.elim,λk hk=>by simp at hk,λ_ _ h=>h.elim,λ_ _ h=>h.elim,λ_ _ h=>h.elim⟩⟩,λp hp=>by simp[zj,bH]at hp,λp _ k b _ h=>by simp[zj]at h⟩,λ_ _=>⟨rfl,rfl⟩⟩
end Gv
