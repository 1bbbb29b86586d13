/- A part of the proof that the law is true of all its inputs, by an interpreter that is proved sound. -/
import Derived.Test.YtfaeljmkbadgdaaGreatVc
import Derived.Lib.AppendZerosOnto
import Derived.KernelRfl
namespace Gv
open Go
theorem Bk{P:Program}(w:World){o:Oper}{a:Act}{K:Act->World->Prop}{Q:Exit->Act->World->Prop}(d s:Operand)(t t':TypeId)
  (ho:o.op=.call {callee:=.builtin .copy,args:= #[d,s],argTypes:= #[t,t']})(v u:Value)(hd:a.eval d=v)(hs:a.eval s=u){v':Value}{w':World}
  (hr:(Builtin.copy_ #[t,t'] o.type #[v,u]).run P w=.ok v' w')(h:K (a.put o.dst v') w'):o.wp P a w K Q:=by
 unfold Oper.wp execOp;simp only[ho,resolve,invoke,builtin,Sem.run_bind,Sem.run_pure,Result.andThen_ok,List.map_toArray,TW,UW,hd,hs,hr];exact h
theorem qb{P:Program}{ops:Array Oper}{o:Oper}{a:Act}{w:World}{K:Act->World->Prop}{Q:Exit->Act->World->Prop}{E:Prop}
  (hg:o.guard=none)(d x:Operand)(dT sT:TypeId)(hop:o.op=Op.call {callee:=Callee.builtin Builtin.copy,args:= #[d,x],argTypes:= #[dT,sT]})
  (v u:Value)(hd:a.eval d=v)(hx:a.eval x=u){v':Value}{w':World}(hr:(Builtin.copy_ #[dT,sT] o.type #[v,u]).run P w=.ok v' w')(hK:K (a.put o.dst v') w'):
  if Region.wanted o (yielded ops a.tmps)=true then Oper.wp P o a w K Q else E:=by
 have hw:Region.wanted o (yielded ops a.tmps)=true:=by simp[Region.wanted,hg]
 rw[TB hw];exact Bk w d x dT sT hop v u hd hx hr hK
def Ge(P:Program)(f ov:FuncId)(T:TypeId):Prop:=
 ∀(b off n c i vb voff m vc:Nat)(w w1 w2:World),i<n->0<m->n+m<=c->c<=9223372036854775807->
  (∀lb cb,(callFunc ov #[.slice (some ⟨vb,voff,none⟩) m vc,.slice (some ⟨b,off+(i+m)*6,none⟩) lb cb]).run P w=.ok (.value (.bool false)) w)->
  (∀ty dc sc,(Builtin.copy_ #[T,T] ty #[.slice (some ⟨b,off+(i+m)*6,none⟩) (n+m-(i+m)) dc,.slice (some ⟨b,off+i*6,none⟩) (n+m-i) sc]).run P w.drew=.ok (goInt (n-i)) w1)->
  (∀ty dc,(Builtin.copy_ #[T,T] ty #[.slice (some ⟨b,off+i*6,none⟩) (n+m-i) dc,.slice (some ⟨vb,voff,none⟩) m vc]).run P w1=.ok (goInt m) w2)->
  Calls P f #[.slice (some ⟨b,off,none⟩) n c,.int .i64 i,.slice (some ⟨vb,voff,none⟩) m vc] w λe w'=>e=.returned (.slice (some ⟨b,off,none⟩) (n+m) c)/\w'=w2
def Fx(P:Program)(f:FuncId)(T I:TypeId):Prop:=
 ∀(b off n c i vb voff m vc N G:Nat)(w w1 w2 w3:World),i<n->0<m->n<=c->c<n+m->n+m<2147483648->n+m<=G->G<=9223372036854775807->
  (∀ty,(Builtin.append_ #[T,I] ty #[.slice (some ⟨b,off,none⟩) i c,.int .i64 ((n:Int)+(m:Int)-(i:Int))]).run P w=.ok (.slice (some ⟨N,0,none⟩) (n+m) G) w1)->
  (∀ty dc,(Builtin.copy_ #[T,T] ty #[.slice (some ⟨N,i*6,none⟩) (n+m-i) dc,.slice (some ⟨vb,voff,none⟩) m vc]).run P w1=.ok (goInt m) w2)->
  (∀ty dc sc,(Builtin.copy_ #[T,T] ty #[.slice (some ⟨N,(i+m)*6,none⟩) (n+m-(i+m)) dc,.slice (some ⟨b,off+i*6,none⟩) (n-i) sc]).run P w2.drew=.ok (goInt (n-i)) w3)->
  Calls P f #[.slice (some ⟨b,off,none⟩) n c,.int .i64 i,.slice (some ⟨vb,voff,none⟩) m vc] w λe w'=>e=.returned (.slice (some ⟨N,0,none⟩) (n+m) G)/\w'=w3
section
variable{ai:Nat->FuncId}{P:Program}{M:Mp}{w:World}{h:Heap}
theorem HR.slots{A:List (Option Blk)}(H:HR ai M ⟨A,[]⟩ w)(hcv:∀r,M.cv r=0)(n:Nat):HR ai M ⟨A,List.replicate n ⟨0,none⟩⟩ w:=by
 have hgl:∀s e,(⟨A,List.replicate n ⟨0,none⟩⟩:Heap).get (.l s)=some e->e=⟨0,none⟩:=by
  intro s e he;simp only[Heap.get,UK]at he;split at he
  ·simpa using he.symm
  ·cases he
 refine⟨λr e he=>?_,λr e v he hn=>?_,λr e he hb=>?_,λr v he=>?_,λr e b loc he hb hl=>?_,H.inj,H.rd⟩
 ·cases r with
  |a i=>exact H.cv (.a i) e he
  |l s=>rw[hgl s e he];exact hcv _
  |dead=>simp[Heap.get]at he
 ·cases r with
  |a i=>exact H.dom (.a i) e v he hn
  |l s=>exact absurd (H.out (.l s) v rfl) hn
  |dead=>simp[Heap.get]at he
 ·cases r with
  |a i=>exact H.has (.a i) e he hb
  |l s=>rw[hgl s e he]at hb;exact absurd rfl hb
  |dead=>simp[Heap.get]at he
 ·cases r with
  |a i=>exact H.out (.a i) v he
  |l s=>exact H.out (.l s) v rfl
  |dead=>exact H.out .dead v rfl
 ·cases r with
  |a i=>exact H.blk (.a i) e b loc he hb hl
  |l s=>rw[hgl s e he]at hb;cases hb
  |dead=>simp[Heap.get]at he
theorem HR.world{w':World}(H:HR ai M h w)(h1:∀r v loc,M.io r v=some loc->w'.heap[loc.b]?=w.heap[loc.b]?)(h2:∀b,M.rd b≠none->w'.heap[b]?=w.heap[b]?):HR ai M h w':=
 ⟨H.cv,H.dom,H.has,H.out,λr e b loc a1 a2 a3=>by
  obtain⟨c,t,lo,hi,B⟩:=H.blk r e b loc a1 a2 a3;exact⟨c,t,lo,hi,⟨by rw[h1 _ _ _ a3];exact B.heap,B.sz,B.size,B.free,B.lohi,B.fits,B.ro,B.rw_,B.cells⟩⟩,H.inj,λb vs hb=>by
  obtain⟨t,fz,hh⟩:=H.rd b vs hb;exact⟨t,fz,by rw[h2 b (by rw[hb];simp)];exact hh⟩⟩
theorem sK{new:List (ax×Nat×Blk)}:∀{bs:List (Option Blk)},(∀b,some b∈bs->cg b.es=true)->bs.map (Option.map (Blk.ren (fI new)))=bs
 |[],_=>rfl
 |none::bs,h=>by rw[TW,sK λb hb=>h b (TG _ hb)];rfl
 |some b::bs,h=>by
  rw[TW,sK λb hb=>h b (TG _ hb)];simp only[TT,Blk.ren,(fS (h b (TQ ..)) _).1]
theorem Gj{M0 M2:Mp}{w0:World}{h2:Heap}{bs:List (Option Blk)}{m v sz n room:Nat}{nb:Blk}{c:Value}(H2:HR ai M2 h2 w)(S:Stp M0 w0 M2 w)(hbl:bs.length=m)(hbs:∀(k:Nat)(b:Option Blk),bs[k]?=some b->h2.get (.a k)=some ⟨0,b⟩)
  (hl:h2.get (.l 0)=some ⟨v,some nb⟩)(hp:cg nb.es=true)(hps:∀b,some b∈bs->cg b.es=true)(V:VR ai M2 (.tok (.l 0) v sz 0 n room false) c):
  ∃M',StpI M0 w0 M' w/\HR ai M' ⟨(bs++[some nb]).take m,((bs++[some nb]).drop m).map λb=>⟨0,b⟩⟩ w/\VR ai M' (.tok (.l 0) 0 sz 0 n room false) c/\∀i,M'.io (.a i) 0=M0.io (.a i) 0∨M'.io (.a i) 0=none:=by
 have e1:(bs++[some nb]).take m=bs:=List.take_left' hbl;have e2:((bs++[some nb]).drop m).map (λb=>(⟨0,b⟩:fX))=[⟨0,some nb⟩]:=by rw[List.drop_left' hbl];rfl
 have H3:=JD (m:=m) (bs:=bs) (new:=[(.l 0,v,nb)]) H2 hbl hbs (λx hx=>by simp only[T1]at hx;subst hx;exact hl) (List.pairwise_singleton ..) (λx hx=>by simp only[T1]at hx;subst hx;exact⟨0,rfl⟩);rw[sK hps]at H3;have hnr:nb.ren (fI [(.l 0,v,nb)])=nb:=by simp only[Blk.ren,(fS hp _).1]
 simp only[TW,UW,hnr]at H3;refine⟨pV M2 m [(.l 0,v,nb)],⟨S.rd,S.os,S.tape,S.output,S.size,S.frame,λb hb=>S.own b (FN hb),S.rdn⟩,by rw[e1,e2];exact H3,?_,λi=>?_⟩
 ·have:=V.ren (wE (m:=m) (new:=[(.l 0,v,nb)]));simpa[ren,fI,fq]using this
 ·by_cases hi:i<m
  ·have:(pV M2 m [(.l 0,v,nb)]).io (.a i) 0=M2.io (.a i) 0:=by show(if i<m/\(0:Nat)=0 then M2.io (.a i) 0 else none)=_;rw[TB ⟨hi,rfl⟩]
   rw[this];exact S.le.io (.a i) 0 (UN _)
  ·right;show(if i<m/\(0:Nat)=0 then M2.io (.a i) 0 else none)=none;rw[TF (λq=>hi q.1)]
theorem wW{c:Array Value}{t:TypeId}{lo hi:Nat}{loc:FL}{b:Blk}(B:BlkAt ai M w loc b c t lo hi)(hs:b.sz≠1){o:Nat}(ho:o<=c.size):w.frozen? ⟨loc.b,o,none⟩=false:=by
 simp only[World.frozen?,B.heap];have h1:=B.lohi.2.1 hs;rcases T5 o c.size with z|z
 ·have:=B.free o z;simp only[Vy,TX];omega
 ·simp only[Vy,TX];omega
theorem vw{c:Array Value}{t:TypeId}{lo hi:Nat}{loc:FL}{b:Blk}(B:BlkAt ai M w loc b c t lo hi):w.shape? loc.b=some (t,c.size):=by
 simp only[World.shape?,B.heap]
theorem qc(sz k:Nat)(a:Option Addr)(l l' cp cp':Nat):Builtin.firstCells sz k (.slice a l cp)=Builtin.firstCells sz k (.slice a l' cp'):=by cases a<;>rfl
end
def nD:List PV->List Blk->Option (PV×List (Option Blk))
 |[ .tok (.a p) 0 sz off len room c0,.int .i64 i,.tok (.a q) 0 sz2 off2 m room2 c2],G=>
  match G[p]?,G[q]? with
  | some b,some c=>if(p≠q/\b.ro=false/\b.sz=6/\c.sz=6/\sz=6/\sz2=6)/\(0<=i/\i<len/\0<m/\off+len<=b.es.length/\off2+m<=c.es.length/\len+m<bV)/\(G.all λb=>cg b.es)=true
    then some (.tok (.l 0) 0 6 0 (len+m) (len+m) false,(G.map some).set p none++[some ⟨6,((b.es.drop off).take len).take i.toNat++(c.es.drop off2).take m++((b.es.drop off).take len).drop i.toNat,false⟩])else none
  |_,_=>none
 |_,_=>none
theorem th{ai:Nat->FuncId}{M:Mp}{c:Array Value}{base i sz:Nat}{W V:List PV}{n1 n2:List Value}(hi:i<=W.length)
  (h0:CellsAt ai M c base sz (W.take i))(hn2:NewsR ai M sz V n2)(hn1:NewsR ai M sz (W.drop i) n1)
  (g2:∀(k:Nat)(u:Value),n2[k]?=some u->c[base+i*sz+k]?=some u)(g1:∀(k:Nat)(u:Value),n1[k]?=some u->c[base+(i+V.length)*sz+k]?=some u):
  CellsAt ai M c base sz (W.take i++V++W.drop i):=by
 have hl:(W.take i).length=i:=by rw[T7];omega
 have a:=gu hn2 h0 (by rw[hl];exact g2);exact gu hn1 a (by rw[Ud,hl];exact g1)
theorem Gr{P:Program}{ai:Nat->FuncId}{f:Nat}{g ov:FuncId}{T I e:TypeId}{inf:TypeInfo}{zv:Value}{kI:IntKind}(hg:ai f=g)(hu:P.underlying T=some (.slice e))(huI:P.underlying I=some (.int kI))(hi:P.info? e=some inf)(hz:inf.size=6)(hzv:inf.zero=some zv)
  (hzs:zv.cells.size=6)(hb0:inf.bytes≠0)(hbb:inf.bytes<=32768)(hR:Ge P g ov T)(hG:Fx P g T I)
  (hov:∀(w:World)(a b:Addr)(la ca lb cb:Nat),a.block≠b.block->(∃tA kA,w.shape? a.block=some (tA,kA)/\w.frozen? {block:=a.block,off:=kA}=false)->(∃tB kB,w.shape? b.block=some (tB,kB)/\kB≠0)->w.frozen? a=false->
   (callFunc ov #[.slice (some a) la ca,.slice (some b) lb cb]).run P w=.ok (.value (.bool false)) w):
  jK P ai (λk args G=>if k=f then nD args G else none):=by
 intro f' args G0 r G M w cargs hx H hcv hl ha;simp only at hx;split at hx
 case isFalse=>cases hx
 rename_i hf;subst hf;rw[hg];unfold nD at hx;split at hx
 case h_2=>cases hx
 rename_i p sz off len room c0 i q sz2 off2 m room2 c2;split at hx
 case h_2=>cases hx
 rename_i b c hb hc;split at hx
 case isFalse=>cases hx
 rename_i hcond;obtain⟨⟨hpq,hro,hbs,hcs,rfl,rfl⟩,⟨hi0,hi1,hm0,hbl,hcl,hmax⟩,hpl⟩:=hcond;simp only[Ty,TH]at hx;obtain⟨rfl,rfl⟩:=hx;obtain⟨v0,v1,v2,rfl⟩:∃v0 v1 v2,cargs= #[v0,v1,v2]:=by
  obtain⟨l⟩:=cargs
  match l,hl with
  |[a,b,c],_=>exact⟨a,b,c,rfl⟩
 have V0:=ha 0 _ v0 rfl rfl;have V1:=ha 1 _ v1 rfl rfl;have V2:=ha 2 _ v2 rfl rfl;have e1:=V1.int_inv;subst e1;obtain⟨n,rfl⟩:∃n:Nat,i=n:=⟨i.toNat,by omega⟩;simp only[TV]at*;have hi1:n<len:=by omega
 have hpb:cg b.es=true:=List.all_eq_true.1 hpl b (TC hb);have hpc:cg c.es=true:=List.all_eq_true.1 hpl c (TC hc);have Hs:=H.slots hcv 1;generalize hh0:(⟨G0.map some,List.replicate 1 ⟨0,none⟩⟩:Heap)=h0 at Hs;have gp:h0.get (.a p)=some ⟨0,some b⟩:=by rw[<-hh0];simp[Heap.get,TR,hb]
 have gq:h0.get (.a q)=some ⟨0,some c⟩:=by rw[<-hh0];simp[Heap.get,TR,hc]
 have gl:h0.get (.l 0)=some ⟨0,none⟩:=by rw[<-hh0];rfl
 obtain⟨a,cap,rfl,hv0,k2,k3,k4,k5⟩:=V0.tok_inv;obtain⟨a2,cap2,rfl,hv2,j2,j3,j4,j5⟩:=V2.tok_inv;obtain⟨loc,ca,ty,lo,hi',hlp,B⟩:=Hs.live gp;obtain⟨loc2,cb,PS,lo2,hi2,hlq,B2⟩:=Hs.live gq;obtain⟨q1,q2⟩:=k5 loc hlp;obtain⟨q3,q4⟩:=j5 loc2 hlq;rcases q2 with q2|⟨rfl,q2⟩
 ·omega
 rcases q4 with q4|⟨rfl,q4⟩
 ·omega
 have hne:loc2.b≠loc.b:=λe=>hpq (by have:=Hs.inj _ _ _ _ _ _ hlp hlq e.symm;cases this;rfl);have hszc:=B.size;have hbig:=B.lohi.2.2;rw[hbs]at hbig;have hcap63:cap<=9223372036854775807:=by omega
 generalize hW:(b.es.drop off).take len=W;generalize hV:(c.es.drop off2).take m=V;have hWl:W.length=len:=by rw[<-hW];simp;omega
 have hVl:V.length=m:=by rw[<-hV];simp;omega
 have hWs:∀(k:Nat)(x:PV),W[k]?=some x->x.cells.length=6:=λk x hk=>by
  rw[<-hW,Ui]at hk;split at hk
  ·rw[Uf]at hk;have:=(B.cells _ x hk).1;rw[hbs]at this;exact this
  ·cases hk
 have hVs:∀(k:Nat)(x:PV),V[k]?=some x->x.cells.length=6:=λk x hk=>by
  rw[<-hV,Ui]at hk;split at hk
  ·rw[Uf]at hk;have:=(B2.cells _ x hk).1;rw[hcs]at this;exact this
  ·cases hk
 have hpW:cg W=true:=by rw[<-hW];exact dJ (dw hpb _) _
 have hpV:cg V=true:=by rw[<-hV];exact dJ (dw hpc _) _
 have hpN:cg (W.take n++V++W.drop n)=true:=by rw[lg,lg,dJ hpW,hpV,dw hpW];rfl
 have hpS:∀x,some x∈(G0.map some).set p none->cg x.es=true:=λx hx=>by
  rcases Uu hx with h|h
  ·obtain⟨y,hy,e⟩:=List.mem_map.1 h;cases e;exact List.all_eq_true.1 hpl _ hy
  ·cases h
 have VW:VR ai M (.tok (.a p) 0 6 (off+n) (len-n) (len-n) c0) (.slice (some ⟨loc.b,loc.base+off*6+n*6,none⟩) (len-n) (cap-n)):=by
  refine .tok _ _ _ _ _ _ _ _ _ hv0 (TN _) (by omega) (λhc=>by have:=k4 hc;omega) (λloc' hl'=>?_);rw[hlp]at hl';cases hl';exact⟨q1,.inr ⟨by congr 1;omega,by omega⟩⟩
 have heW:(elems (.tok (.a p) 0 6 (off+n) (len-n) (len-n) c0)).run h0=some (W.drop n,h0):=by
  simp only[elems];rw[TF (by omega)];rw[HM.run_bind,HM.runT_run (bc gp)];simp only;rw[TB ⟨by omega,hbs⟩];simp only[HM.run,Ty,TH,U6];rw[<-hW,List.drop_take,VB]
 obtain⟨_,SW⟩:=ju heW Hs VW;have hWds:∀(k:Nat)(x:PV),(W.drop n)[k]?=some x->x.cells.length=6:=λk x hk=>hWs _ x (by rw[Uf]at hk;exact hk);have hWdl:(W.drop n).length=len-n:=by rw[Ur,hWl]
 obtain⟨_,n1,f1,f2,f3,f4⟩:=du (P:=P) SW hWds (len-n) (by omega);have N1:NewsR ai M 6 (W.drop n) n1:=⟨by rw[hWdl];exact f2,λk x hk=>⟨hWds k x hk,λj y hj=>f4 k x j y (by rw[<-hWdl];exact getElem?_lt hk) hk hj⟩,f3⟩;have heV:∀{h1:Heap},h1.get (.a q)=some ⟨0,some c⟩->(elems (.tok (.a q) 0 6 off2 m room2 c2)).run h1=some (V,h1):=λ{h1} g1=>by
  simp only[elems];rw[TF (by omega)];rw[HM.run_bind,HM.runT_run (bc g1)];simp only;rw[TB ⟨by omega,hcs⟩];simp only[HM.run,hV]
 obtain⟨M1,hM1,H1,S1,io1,self1⟩:∃M1,M.at (.a p) 0 none M.rd=M1/\HR ai M1 (h0.put (.a p) ⟨0,none⟩) w/\Stp M w M1 w/\(∀r',r'≠ .a p->M1.io r'=M.io r')/\(∀v,M1.io (.a p) v=none):=by
  obtain⟨q1,q2,q3,q4⟩:=Hs.drop gp;exact⟨_,rfl,q1,q2,q3,q4⟩
 have gq1:(h0.put (.a p) ⟨0,none⟩).get (.a q)=some ⟨0,some c⟩:=by rw[Heap.get_put_other (by intro e;cases e;exact hpq rfl)];exact gq
 have gl1:(h0.put (.a p) ⟨0,none⟩).get (.l 0)=some ⟨0,none⟩:=by rw[Heap.get_put_other (by intro e;cases e)];exact gl
 have hrd1:M1.rd=M.rd:=by rw[<-hM1];rfl
 have V2':=V2.mono S1.le;have hbsl:((G0.map some).set p none).length=G0.length:=by simp
 have hplen:p<G0.length:=getElem?_lt hb;by_cases hroom:len+m<=cap
 ·
  have hb2:loc.base+off*6+(n+m)*6+n1.length<=ca.size:=by rw[f2];omega
  let w1:=iM w.drew loc.b (.cells (cU ca (loc.base+off*6+(n+m)*6) n1) ty (lo,hi'))
  have hlt:=B.lt;have hw1:w1.heap[loc.b]?=some (.cells (cU ca (loc.base+off*6+(n+m)*6) n1) ty (lo,hi')):=iR hlt;have hown:∀r v l3,M1.io r v=some l3->l3.b≠loc.b:=λr v l3 h3 e3=>by
   by_cases hr:r=.a p
   ·subst hr;rw[self1]at h3;cases h3
   ·rw[io1 r hr]at h3;exact hr (Hs.inj _ _ _ _ _ _ h3 hlp e3)
  have hrdn:M.rd loc.b=none:=B.rw_ hro;have H1w:HR ai M1 (h0.put (.a p) ⟨0,none⟩) w1:=HR.world H1 (λr v l3 h3=>cP (hown r v l3 h3)) (λk hk=>cP (by rintro rfl;rw[hrd1,hrdn]at hk;exact hk rfl));obtain⟨_,SV⟩:=ju (heV gq1) H1w V2';obtain⟨hlV,n2,g1,g2,g3,g4⟩:=du (P:=P) SV hVs m (by omega);have N2:NewsR ai M1 6 V n2:=⟨by rw[hVl];exact g2,λk x hk=>⟨hVs k x hk,λj y hj=>g4 k x j y (by rw[<-hVl];exact getElem?_lt hk) hk hj⟩,g3⟩;have hs1:(cU ca (loc.base+off*6+(n+m)*6) n1).size=ca.size:=dB hb2;have hb3:loc.base+off*6+n*6+n2.length<=(cU ca (loc.base+off*6+(n+m)*6) n1).size:=by rw[g2,hs1];omega
  let w2:=iM w1 loc.b (.cells (cU (cU ca (loc.base+off*6+(n+m)*6) n1) (loc.base+off*6+n*6) n2) ty (lo,hi'))
  have hw2:w2.heap[loc.b]?=some (.cells (cU (cU ca (loc.base+off*6+(n+m)*6) n1) (loc.base+off*6+n*6) n2) ty (lo,hi')):=iR (by show loc.b<(w.drew.heap.setIfInBounds _ _).size;simpa using hlt);have c1:∀ty' dc sc,(Builtin.copy_ #[T,T] ty' #[.slice (some ⟨loc.b,loc.base+off*6+(n+m)*6,none⟩) (len+m-(n+m)) dc,.slice (some ⟨loc.b,loc.base+off*6+n*6,none⟩) (len+m-n) sc]).run P w.drew=.ok (goInt (len-n)) w1:=λty' dc sc=>by
   have hst:=fk (P:=P) loc.b (loc.base+off*6+(n+m)*6) ty lo hi' n1 0 ca w.drew B.heap (by omega) B.free f3;rw[U3]at hst;have hmin:Nat.min (len+m-n) (len+m-(n+m))=len-n:=by simp only[Nat.min_def];split<;>omega
   have:=lW (P:=P) (w:=w.drew) (t2:=T) (ty:=ty') (base:=some ⟨loc.b,loc.base+off*6+(n+m)*6,none⟩) (dLen:=len+m-(n+m)) (dCap:=dc) (m:=len+m-n) (src:=.slice (some ⟨loc.b,loc.base+off*6+n*6,none⟩) (len+m-n) sc) (news:=n1) hu hi (λw'=>rfl) (by
    rw[hmin,hz,qc 6 _ _ _ (len-n) _ (cap-n)];exact f1 _ rfl) hst
   rw[hmin]at this;rw[this];congr 2;omega
  have c2':∀ty' dc,(Builtin.copy_ #[T,T] ty' #[.slice (some ⟨loc.b,loc.base+off*6+n*6,none⟩) (len+m-n) dc,.slice (some ⟨loc2.b,loc2.base+off2*6,none⟩) m cap2]).run P w1=.ok (goInt m) w2:=λty' dc=>by
   have hst:=fk (P:=P) loc.b (loc.base+off*6+n*6) ty lo hi' n2 0 _ w1 hw1 (by omega) (by rw[hs1];exact B.free) g3;rw[U3]at hst;have hmin:Nat.min m (len+m-n)=m:=by simp only[Nat.min_def];split<;>omega
   have:=lW (P:=P) (w:=w1) (t2:=T) (ty:=ty') (base:=some ⟨loc.b,loc.base+off*6+n*6,none⟩) (dLen:=len+m-n) (dCap:=dc) (m:=m) (src:=.slice (some ⟨loc2.b,loc2.base+off2*6,none⟩) m cap2) (news:=n2) hu hi (λw'=>rfl) (by
    rw[hmin,hz];exact g1 _ rfl) hst
   rw[hmin]at this;exact this
  refine Calls.mono (hR loc.b (loc.base+off*6) len cap n loc2.b (loc2.base+off2*6) m cap2 w w1 w2 hi1 hm0 hroom hcap63 (λlb cb'=>hov w _ _ _ _ _ _ hne ⟨PS,cb.size,vw B2,wW B2 (by omega) (TN _)⟩ ⟨ty,ca.size,vw B,by omega⟩ (wW B2 (by omega) (by
   have:=B2.size;omega))) c1 c2') ?_
  rintro ev w' ⟨rfl,rfl⟩
  have H1x:HR ai M1 (h0.put (.a p) ⟨0,none⟩) w2:=HR.world H1w (λr v l3 h3=>cP (hown r v l3 h3)) (λk hk=>cP (by rintro rfl;rw[hrd1,hrdn]at hk;exact hk rfl));have hs2:(cU (cU ca (loc.base+off*6+(n+m)*6) n1) (loc.base+off*6+n*6) n2).size=ca.size:=by rw[dB hb3,hs1]
  obtain⟨H2,le2,l2,cv2,io2,all2⟩:=H1x.take gl1 (loc:=⟨loc.b,loc.base+off*6,6,loc.size⟩) (b:=⟨6,W.take n++V++W.drop n,false⟩) (λr v l3 hr h3=>hown r v l3 h3) (λM' le hrd=>by
   refine⟨_,ty,lo,hi',⟨hw2,rfl,by rw[hs2];exact B.size,λk hk=>B.free k (by rw[hs2]at hk;exact hk),⟨B.lohi.1,λq=>by rw[hs2];exact B.lohi.2.1 (by omega),by rw[hs2];exact hbig⟩,?_,(λq=>by cases q),λ_=>by rw[hrd,hrd1];exact hrdn,?_⟩⟩
   ·show loc.base+off*6+(W.take n++V++W.drop n).length*6<=_;rw[hs2];simp only[Ud,T7,hWl,hVl,hWdl];omega
   ·refine th (by omega) ?_ (N2.mono le) ((N1.mono S1.le).mono le) (λk u hk=>?_) (λk u hk=>?_)
    ·intro k x hk;have hkn:k<n:=by
      have:=getElem?_lt hk;rw[T7]at this;omega
     have hkW:W[k]?=some x:=by rw[Ui,TB hkn]at hk;exact hk
     refine⟨hWs k x hkW,λj y hj=>?_⟩;have hkb:b.es[off+k]?=some x:=by
      rw[<-hW,Ui,TB (by omega),Uf]at hkW;exact hkW
     obtain⟨z1,z2⟩:=B.cells _ x hkb;obtain⟨z3,u,z4,z5⟩:=z2 j y hj;rw[hbs]at z1 z4;have hj6:j<6:=by rw[<-z1];exact getElem?_lt hj
     refine⟨z3,u,?_,(z5.mono S1.le).mono le⟩;show(cU (cU ca (loc.base+off*6+(n+m)*6) n1) (loc.base+off*6+n*6) n2)[loc.base+off*6+k*6+j]?=some u;rw[cu hb3,TF (by omega),cu hb2,TF (by omega),<-z4];congr 1;omega
    ·have hk2:=getElem?_lt hk;show(cU (cU ca (loc.base+off*6+(n+m)*6) n1) (loc.base+off*6+n*6) n2)[loc.base+off*6+n*6+k]?=some u;rw[cu hb3,TB ⟨by omega,by omega⟩,<-hk];congr 1;omega
    ·have hk2:=getElem?_lt hk;rw[hVl];show(cU (cU ca (loc.base+off*6+(n+m)*6) n1) (loc.base+off*6+n*6) n2)[loc.base+off*6+(n+m)*6+k]?=some u;rw[cu hb3,TF (by rw[g2];omega),cu hb2,TB ⟨by omega,by omega⟩,<-hk];congr 1;omega)
  have SS:Stp M w (M1.at (.l 0) 1 (some ⟨loc.b,loc.base+off*6,6,loc.size⟩) M1.rd) w2:=by
   refine⟨⟨by show RdLe M.rd M1.rd;rw[hrd1];exact .refl _,rfl,rfl,rfl,by show w.heap.size<=(((w.drew.heap.setIfInBounds _ _)).setIfInBounds _ _).size;simp,λk hk hn=>?_,λk hk=>?_,λk hk=>?_⟩,S1.le.trans le2⟩
   ·have hkl:k≠loc.b:=by rintro rfl;exact hn (dN hlp)
    show(iM w1 loc.b _).heap[k]?=_;rw[cP hkl];show(iM w.drew loc.b _).heap[k]?=_;rw[cP hkl];rfl
   ·obtain⟨r,v,l3,h3,rfl⟩:=hk;by_cases hr:r=.l 0
    ·subst hr;rw[all2 _ _ h3];exact .inl ⟨_,_,loc,hlp,rfl⟩
    ·have h4:=(congrFun (io2 r hr) v).symm.trans h3;by_cases hq:r=.a p
     ·subst hq;have:=(self1 v).symm.trans h4;cases this
     ·exact .inl (dN ((congrFun (io1 r hq) v).symm.trans h4))
   ·left;have:M1.rd k≠none:=hk;rw[hrd1]at this;exact this
  obtain⟨M',z1,z2,z3,z4⟩:=Gj (n:=len+m) (room:=len+m) (sz:=6) (c:=.slice (some ⟨loc.b,loc.base+off*6,none⟩) (len+m) cap) H2 SS hbsl (λk x hk=>by
   rw[Heap.get_put_other (by intro e;cases e),<-hh0];rw[List.getElem?_set]at hk;split at hk
   ·rename_i hpk;subst hpk;split at hk
    ·simp only[Ty]at hk;subst hk;simp[Heap.put,Heap.get,hplen]
    ·cases hk
   ·rename_i hpk;rw[Heap.get_put_other (by intro e;cases e;exact hpk rfl)];simp only[Heap.get,hk]) (by exact Heap.get_put_same gl1 (by intro i hi;cases hi)) hpN hpS (.tok _ _ _ _ _ _ _ _ _ cv2 (TN _) hroom (λq=>by cases q) (λl3 h3=>by
    rw[all2 _ _ h3];exact⟨rfl,.inr ⟨by simp,by show loc.base+off*6+0*6+cap*6<=loc.size;omega⟩⟩))
  exact⟨_,M',rfl,z1,z2,z3,z4⟩
 ·
  have hpa:VR ai M (.tok (.a p) 0 6 off n n c0) (.slice (some ⟨loc.b,loc.base+off*6,none⟩) n cap):=by
   refine .tok _ _ _ _ _ _ _ _ _ hv0 (TN _) (by omega) k4 (λloc' hl'=>?_);rw[hlp]at hl';cases hl';exact⟨q1,.inr ⟨rfl,q2⟩⟩
  have heO:(elems (.tok (.a p) 0 6 off n n c0)).run h0=some (W.take n,h0):=by
   simp only[elems];by_cases hn0:n=0
   ·subst hn0;simp[HM.run]
   ·rw[TF hn0,HM.run_bind,HM.runT_run (bc gp)];simp only;rw[TB ⟨by omega,hbs⟩];simp only[HM.run,Ty,TH,U6];rw[<-hW,List.take_take,Vz (by omega)]
  obtain⟨_,SO⟩:=ju heO Hs hpa;have hWt:∀(k:Nat)(x:PV),(W.take n)[k]?=some x->x.cells.length=6:=λk x hk=>by
   rw[Ui]at hk;split at hk
   ·exact hWs _ x hk
   ·cases hk
  have hWtl:(W.take n).length=n:=by rw[T7];omega
  obtain⟨_,n0,o1,o2,o3,o4⟩:=du (P:=P) SO hWt n (by omega);have N0:NewsR ai M 6 (W.take n) n0:=⟨by rw[hWtl];exact o2,λk x hk=>⟨hWt k x hk,λj y hj=>o4 k x j y (by rw[<-hWtl];exact getElem?_lt hk) hk hj⟩,o3⟩;have hbm:(n+(len+m-n))*inf.bytes<=140737488355328:=by
   have:(n+(len+m-n))*inf.bytes<=2147483648*32768:=Nat.mul_le_mul (by unfold bV at hmax;omega) hbb;omega
  have hkb:(len+m-n)*inf.bytes<=281474976710656:=by
   have:(len+m-n)*inf.bytes<=(n+(len+m-n))*inf.bytes:=Ua _ (by omega);omega
  have hrow:=λty'=>Lib.run_append_grow_zeros w T I ty' e inf zv .i64 kI hu huI hi hzv (some ⟨loc.b,loc.base+off*6,none⟩) n cap n0 (by rw[hz];exact o1 _ rfl) (len+m-n) (by omega) (by omega) (by omega) (by unfold bV at hmax;omega) hkb (growslice_fits (by omega) hbm);rw[show n+(len+m-n)=len+m by omega]at hrow;have hGge:=grownCap_ge w (len+m) cap e;have hG63:grownCap w (len+m) cap e<=9223372036854775807:=by
   have:=grownCap_le_maxLen w (len+m) cap e (by unfold maxLen bV at*;omega);unfold maxLen at this;omega
  generalize grownCap w (len+m) cap e=GC at*;generalize hROW:n0.toArray++Builtin.zeroCells zv.cells (len+m-n)++Builtin.zeroCells zv.cells (GC-(len+m))=ROW at hrow;have hRs:ROW.size=GC*6:=by
   rw[<-hROW];simp only[Array.size_append,List.size_toArray,size_zeroCells,hzs,o2];omega
  let w1:=w.drew.alloc (.cells ROW e)
  have hw1:w1.heap[w.heap.size]?=some (.cells ROW e (0,0)):=by show(w.heap.push _)[w.heap.size]?=_;simp
  have hold1:∀k,k<w.heap.size->w1.heap[k]?=w.heap[k]?:=λk hk=>RowKit.Below.heap_alloc _ _ _ hk;have hs1:w1.heap.size=w.heap.size+1:=by show(w.heap.push _).size=_;simp
  have H1w:HR ai M1 (h0.put (.a p) ⟨0,none⟩) w1:=HR.world H1 (λr v l3 h3=>hold1 _ (H1.own_lt (dN h3))) (λk hk=>hold1 _ (H1.rd.lt hk));obtain⟨_,SV⟩:=ju (heV gq1) H1w V2';obtain⟨hlV,n2,g1,g2,g3,g4⟩:=du (P:=P) SV hVs m (by omega);have N2:NewsR ai M1 6 V n2:=⟨by rw[hVl];exact g2,λk x hk=>⟨hVs k x hk,λj y hj=>g4 k x j y (by rw[<-hVl];exact getElem?_lt hk) hk hj⟩,g3⟩;have hb3:0+n*6+n2.length<=ROW.size:=by rw[g2,hRs];omega
  let w2:=iM w1 w.heap.size (.cells (cU ROW (0+n*6) n2) e (0,0))
  have hw2:w2.heap[w.heap.size]?=some (.cells (cU ROW (0+n*6) n2) e (0,0)):=iR (by omega);have hs2:w2.heap.size=w.heap.size+1:=by show(w1.heap.setIfInBounds _ _).size=_;simp[hs1]
  have hold2:∀k,k<w.heap.size->w2.heap[k]?=w.heap[k]?:=λk hk=>by
   show(iM w1 w.heap.size _).heap[k]?=_;rw[cP (by omega)];exact hold1 k hk
  have Hw2:HR ai M h0 w2.drew:=HR.world Hs (λr v l3 h3=>hold2 _ (Hs.own_lt (dN h3))) (λk hk=>hold2 _ (Hs.rd.lt hk));obtain⟨_,SW2⟩:=ju heW Hw2 VW;obtain⟨_,n1,f1,f2,f3,f4⟩:=du (P:=P) SW2 hWds (len-n) (by omega);have N1:NewsR ai M 6 (W.drop n) n1:=⟨by rw[hWdl];exact f2,λk x hk=>⟨hWds k x hk,λj y hj=>f4 k x j y (by rw[<-hWdl];exact getElem?_lt hk) hk hj⟩,f3⟩;have hss:(cU ROW (0+n*6) n2).size=ROW.size:=dB hb3;have hb4:0+(n+m)*6+n1.length<=(cU ROW (0+n*6) n2).size:=by rw[hss,f2,hRs];omega
  let w3:=iM w2.drew w.heap.size (.cells (cU (cU ROW (0+n*6) n2) (0+(n+m)*6) n1) e (0,0))
  have hw3:w3.heap[w.heap.size]?=some (.cells (cU (cU ROW (0+n*6) n2) (0+(n+m)*6) n1) e (0,0)):=iR (by show _<w2.heap.size;omega);have hs3:w3.heap.size=w.heap.size+1:=by show(w2.heap.setIfInBounds _ _).size=_;simp[hs2]
  have hold3:∀k,k<w.heap.size->w3.heap[k]?=w.heap[k]?:=λk hk=>by
   show(iM w2.drew w.heap.size _).heap[k]?=_;rw[cP (by omega)];exact hold2 k hk
  have c1:∀ty' dc,(Builtin.copy_ #[T,T] ty' #[.slice (some ⟨w.heap.size,n*6,none⟩) (len+m-n) dc,.slice (some ⟨loc2.b,loc2.base+off2*6,none⟩) m cap2]).run P w1=.ok (goInt m) w2:=λty' dc=>by
   have hst:=fk (P:=P) w.heap.size (0+n*6) e 0 0 n2 0 _ w1 hw1 (by omega) (λk _=>by omega) g3;rw[U3]at hst;have hmin:Nat.min m (len+m-n)=m:=by simp only[Nat.min_def];split<;>omega
   have:=lW (P:=P) (w:=w1) (t2:=T) (ty:=ty') (base:=some ⟨w.heap.size,0+n*6,none⟩) (dLen:=len+m-n) (dCap:=dc) (m:=m) (src:=.slice (some ⟨loc2.b,loc2.base+off2*6,none⟩) m cap2) (news:=n2) hu hi (λw'=>rfl) (by
    rw[hmin,hz];exact g1 _ rfl) hst
   rw[hmin,show(⟨w.heap.size,0+n*6,none⟩:Addr)=⟨w.heap.size,n*6,none⟩by rw[Up]]at this;exact this
  have c2':∀ty' dc sc,(Builtin.copy_ #[T,T] ty' #[.slice (some ⟨w.heap.size,(n+m)*6,none⟩) (len+m-(n+m)) dc,.slice (some ⟨loc.b,loc.base+off*6+n*6,none⟩) (len-n) sc]).run P w2.drew=.ok (goInt (len-n)) w3:=λty' dc sc=>by
   have hst:=fk (P:=P) w.heap.size (0+(n+m)*6) e 0 0 n1 0 _ w2.drew hw2 (by omega) (λk _=>by omega) f3;rw[U3]at hst;have hmin:Nat.min (len-n) (len+m-(n+m))=len-n:=by simp only[Nat.min_def];split<;>omega
   have:=lW (P:=P) (w:=w2.drew) (t2:=T) (ty:=ty') (base:=some ⟨w.heap.size,0+(n+m)*6,none⟩) (dLen:=len+m-(n+m)) (dCap:=dc) (m:=len-n) (src:=.slice (some ⟨loc.b,loc.base+off*6+n*6,none⟩) (len-n) sc) (news:=n1) hu hi (λw'=>rfl) (by
    rw[hmin,hz,qc 6 _ _ _ (len-n) _ (cap-n)];exact f1 _ rfl) hst
   rw[hmin,show(⟨w.heap.size,0+(n+m)*6,none⟩:Addr)=⟨w.heap.size,(n+m)*6,none⟩by rw[Up]]at this;rw[this];congr 2;omega
  refine Calls.mono (hG loc.b (loc.base+off*6) len cap n loc2.b (loc2.base+off2*6) m cap2 w.heap.size GC w w1 w2 w3 hi1 hm0 (by omega) (by omega) (by unfold bV at hmax;omega) hGge hG63 (λty'=>?_) c1 c2') ?_
  ·have hkk:(len:Int)+(m:Int)-(n:Int)=((len+m-n:Nat):Int):=by omega
   rw[hkk];exact hrow ty'
  rintro ev w' ⟨rfl,rfl⟩
  have H1x:HR ai M1 (h0.put (.a p) ⟨0,none⟩) w3:=HR.world H1 (λr v l3 h3=>hold3 _ (H1.own_lt (dN h3))) (λk hk=>hold3 _ (H1.rd.lt hk));have hs4:(cU (cU ROW (0+n*6) n2) (0+(n+m)*6) n1).size=GC*6:=by rw[dB hb4,hss,hRs]
  have hrdN:M1.rd w.heap.size=none:=by
   cases hr:M1.rd w.heap.size with
   |none=>rfl
   |some vs=>have:=H1.rd.lt (b:=w.heap.size) (by rw[hr];simp);omega
  obtain⟨H2,le2,l2,cv2,io2,all2⟩:=H1x.take gl1 (loc:=⟨w.heap.size,0,6,GC*6⟩) (b:=⟨6,W.take n++V++W.drop n,false⟩) (λr v l3 hr h3 e3=>by have:=H1.own_lt (dN h3);simp only at e3;omega) (λM' le hrd=>by
   refine⟨_,e,0,0,⟨hw3,rfl,hs4,λk hk=>by omega,⟨TN _,λ_=>UN _,by rw[hs4];exact Ua _ hG63⟩,?_,(λq=>by cases q),λ_=>by rw[hrd];exact hrdN,?_⟩⟩
   ·show 0+(W.take n++V++W.drop n).length*6<=_;rw[hs4];simp only[Ud,T7,hWl,hVl,hWdl];omega
   ·refine th (by omega) ?_ (N2.mono le) ((N1.mono S1.le).mono le) (λk u hk=>?_) (λk u hk=>?_)
    ·intro k x hk;have hkn:k<n:=by
      have:=getElem?_lt hk;rw[T7]at this;omega
     obtain⟨z1,z2⟩:=N0.cells k x hk;refine⟨z1,λj y hj=>?_⟩;obtain⟨z3,u,z4,z5⟩:=z2 j y hj;have hj6:j<6:=by rw[<-z1];exact getElem?_lt hj
     refine⟨z3,u,?_,(z5.mono S1.le).mono le⟩;show(cU (cU ROW (0+n*6) n2) (0+(n+m)*6) n1)[0+k*6+j]?=some u;rw[cu hb4,TF (by omega),cu hb3,TF (by omega),<-hROW,Array.append_assoc,U4 (by simp only[List.size_toArray,o2];omega),Vr,<-z4];congr 1;omega
    ·have hk2:=getElem?_lt hk;show(cU (cU ROW (0+n*6) n2) (0+(n+m)*6) n1)[0+n*6+k]?=some u;rw[cu hb4,TF (by rw[g2]at hk2;omega),cu hb3,TB ⟨by omega,by omega⟩,<-hk];congr 1;omega
    ·have hk2:=getElem?_lt hk;rw[hVl];show(cU (cU ROW (0+n*6) n2) (0+(n+m)*6) n1)[0+(n+m)*6+k]?=some u;rw[cu hb4,TB ⟨by omega,by omega⟩,<-hk];congr 1;omega)
  have SS:Stp M w (M1.at (.l 0) 1 (some ⟨w.heap.size,0,6,GC*6⟩) M1.rd) w3:=by
   refine⟨⟨by show RdLe M.rd M1.rd;rw[hrd1];exact .refl _,rfl,rfl,rfl,by omega,λk hk hn=>hold3 k hk,λk hk=>?_,λk hk=>?_⟩,S1.le.trans le2⟩
   ·obtain⟨r,v,l3,h3,rfl⟩:=hk;by_cases hr:r=.l 0
    ·subst hr;rw[all2 _ _ h3];exact .inr (TN _)
    ·have h4:=(congrFun (io2 r hr) v).symm.trans h3;by_cases hq:r=.a p
     ·subst hq;have:=(self1 v).symm.trans h4;cases this
     ·exact .inl (dN ((congrFun (io1 r hq) v).symm.trans h4))
   ·left;have:M1.rd k≠none:=hk;rw[hrd1]at this;exact this
  obtain⟨M',z1,z2,z3,z4⟩:=Gj (n:=len+m) (room:=len+m) (sz:=6) (c:=.slice (some ⟨w.heap.size,0,none⟩) (len+m) GC) H2 SS hbsl (λk x hk=>by
   rw[Heap.get_put_other (by intro e;cases e),<-hh0];rw[List.getElem?_set]at hk;split at hk
   ·rename_i hpk;subst hpk;split at hk
    ·simp only[Ty]at hk;subst hk;simp[Heap.put,Heap.get,hplen]
    ·cases hk
   ·rename_i hpk;rw[Heap.get_put_other (by intro e;cases e;exact hpk rfl)];simp only[Heap.get,hk]) (by exact Heap.get_put_same gl1 (by intro i hi;cases hi)) hpN hpS (.tok _ _ _ _ _ _ _ _ _ cv2 (TN _) hGge (λq=>by cases q) (λl3 h3=>by
    rw[all2 _ _ h3];exact⟨rfl,.inr ⟨by simp,by show 0+0*6+GC*6<=GC*6;omega⟩⟩))
  exact⟨_,M',rfl,z1,z2,z3,z4⟩
abbrev iI(n:Int):PO:=.c (.int .i64 n)
abbrev io(d:Nat)(x:IOp):IOper:=⟨some d,x,none,[]⟩
abbrev N'(n:Int):X:=.int .i64 n
def Dh:an:=⟨95,2,false,[],[.tmp 6],
 (.seq
 (.reg [io 6 (.mov (.c .nils))] false)
 (.seq
  (.reg [io 10 (.mov (.t 0)),io 11 (.mov (.t 1)),io 12 (.slice 6 (.t 10) (some (.t 11)) none none)] false)
  (.seq
  (.reg [io 13 (.mov (.t 2)),io 14 (.len (.t 13)),io 7 (.mov (.t 14))] false)
  (.seq
   (.seq
   (.reg [io 15 (.mov (.t 7)),io 16 (.bin .eql (.t 15) (iI 0))] false)
   (.cond (.t 16)
    (.seq
    (.reg [io 17 (.mov (.t 0)),io 6 (.mov (.t 17))] false)
    .ret)
    .skip))
   (.seq
   (.reg [io 18 (.mov (.t 0)),io 19 (.len (.t 18)),io 8 (.mov (.t 19))] false)
   (.seq
    (.seq
    (.reg [io 20 (.mov (.t 1)),io 21 (.mov (.t 8)),io 22 (.bin .eql (.t 20) (.t 21))] false)
    (.cond (.t 22)
     (.seq
     (.reg [io 23 (.mov (.t 0)),io 24 (.mov (.t 2)),io 25 (.append 6 (.t 23) (.t 24) 0),io 6 (.mov (.t 25))] false)
     .ret)
     .skip))
    (.seq
    (.seq
     (.reg [io 26 (.mov (.t 8)),io 27 (.mov (.t 7)),io 28 (.bin .add (.t 26) (.t 27)),io 29 (.mov (.t 0)),io 30 (.bad),io 31 (.bin .gtr (.t 28) (.t 30))] false)
     (.cond (.t 31)
     (.seq
      (.reg [io 32 (.mov (.t 0)),io 33 (.mov (.t 1)),io 34 (.slice 6 (.t 32) none (some (.t 33)) none),io 35 (.mov (.t 8)),io 36 (.mov (.t 7)),io 37 (.bin .add (.t 35) (.t 36)),io 38 (.mov (.t 1)),io 39 (.bin .sub (.t 37) (.t 38)),io 40 (.bad),io 9 (.mov (.t 40))] false)
      (.seq
      (.reg [io 41 (.mov (.t 9)),io 42 (.mov (.t 1)),io 43 (.slice 6 (.t 41) (some (.t 42)) none none),io 44 (.mov (.t 2)),io 45 (.copy 6 (.t 43) (.t 44))] false)
      (.seq
       (.reg [⟨(some 46),.mov (.t 9),none,[]⟩,⟨(some 47),.mov (.t 1),none,[]⟩,⟨(some 48),.mov (.t 7),none,[]⟩,⟨(some 49),.bin .add (.t 47) (.t 48),none,[1,2]⟩,⟨(some 50),.slice 6 (.t 46) (some (.t 49)) none none,none,[0,1,2,3]⟩,⟨(some 51),.mov (.t 0),none,[]⟩,⟨(some 52),.mov (.t 1),none,[]⟩,⟨(some 53),.slice 6 (.t 51) (some (.t 52)) none none,none,[5,6]⟩,⟨(some 54),.copy 6 (.t 50) (.t 53),none,[0,1,2,3,4,5,6,7]⟩] true)
       (.seq
       (.reg [io 55 (.mov (.t 9)),io 6 (.mov (.t 55))] false)
       .ret))))
     .skip))
    (.seq
     (.reg [io 56 (.mov (.t 0)),io 57 (.mov (.t 8)),io 58 (.mov (.t 7)),io 59 (.bin .add (.t 57) (.t 58)),io 60 (.slice 6 (.t 56) none (some (.t 59)) none),io 0 (.mov (.t 60))] false)
     (.seq
     (.seq
      (.reg [io 61 (.mov (.t 2)),io 62 (.mov (.t 0)),io 63 (.mov (.t 1)),io 64 (.mov (.t 7)),io 65 (.bin .add (.t 63) (.t 64)),io 66 (.slice 6 (.t 62) (some (.t 65)) none none),io 67 (.call 97 [(.t 61),(.t 66)] 1),io 68 (.un .not (.t 67))] false)
      (.cond (.t 68)
      (.seq
       (.reg [⟨(some 69),.mov (.t 0),none,[]⟩,⟨(some 70),.mov (.t 1),none,[]⟩,⟨(some 71),.mov (.t 7),none,[]⟩,⟨(some 72),.bin .add (.t 70) (.t 71),none,[1,2]⟩,⟨(some 73),.slice 6 (.t 69) (some (.t 72)) none none,none,[0,1,2,3]⟩,⟨(some 74),.mov (.t 0),none,[]⟩,⟨(some 75),.mov (.t 1),none,[]⟩,⟨(some 76),.slice 6 (.t 74) (some (.t 75)) none none,none,[5,6]⟩,⟨(some 77),.copy 6 (.t 73) (.t 76),none,[0,1,2,3,4,5,6,7]⟩] true)
       (.seq
       (.reg [io 78 (.mov (.t 0)),io 79 (.mov (.t 1)),io 80 (.slice 6 (.t 78) (some (.t 79)) none none),io 81 (.mov (.t 2)),io 82 (.copy 6 (.t 80) (.t 81))] false)
       (.seq
        (.reg [io 83 (.mov (.t 0)),io 6 (.mov (.t 83))] false)
        .ret)))
      .skip))
     (.seq
      (.reg [io 84 (.mov (.t 0)),io 85 (.mov (.t 8)),io 86 (.slice 6 (.t 84) (some (.t 85)) none none),io 87 (.mov (.t 2)),io 88 (.copy 6 (.t 86) (.t 87))] false)
      (.seq
      (.reg [io 89 (.mov (.t 0)),io 90 (.mov (.t 1)),io 91 (.slice 6 (.t 89) (some (.t 90)) none none),io 92 (.mov (.t 7)),io 93 (.call 98 [(.t 91),(.t 92)] 1)] false)
      (.seq
       (.reg [io 94 (.mov (.t 0)),io 6 (.mov (.t 94))] false)
       .ret)))))))))))),none⟩
def zh(f:Nat)(F:an):Nat->Option an:=λk=>if k=f then some F else none
open Classical in
noncomputable def Dp (f:Nat) (F:an) (args:List PV) (G:List Blk):Option (PV×List (Option Blk)):=
 if h:∃r n,bi (zh f F) n f args G=some r then some (choose h)else none
noncomputable def Ol (f:Nat) (F:an) (g:List PV->List Blk->Option (PV×List (Option Blk))) (args:List PV) (G:List Blk):Option (PV×List (Option Blk)):=
 match g args G with|some r=>some r|none=>Dp f F args G
theorem HU{f n:Nat}{F:an}{args:List PV}{G:List Blk}{r:PV×List (Option Blk)}(h:bi (zh f F) n f args G=some r):Dp f F args G=some r:=by
 unfold Dp;have hex:∃r n,bi (zh f F) n f args G=some r:=⟨r,n,h⟩;rw[dif_pos hex];obtain⟨m,hm⟩:=Vk hex;generalize Classical.choose hex=r2 at hm⊢;have a:=jB (Nat.le_max_left n m) _ _ _ _ h;have b:=jB (Nat.le_max_right n m) _ _ _ _ hm;rw[a]at b;exact b.symm
theorem HB{f:Nat}{F:an}{args:List PV}{G:List Blk}{r:PV×List (Option Blk)}(h:Dp f F args G=some r):∃n,bi (zh f F) n f args G=some r:=by
 unfold Dp at h;split at h
 ·rename_i hex;cases h;exact Vk hex
 ·cases h
theorem Oc{P:Program}{ai:Nat->FuncId}{f:Nat}{F:an}{g:List PV->List Blk->Option (PV×List (Option Blk))}(hF:F.intr=none)(hc:pb P ai f F=true)(hm:P.follows .mixedOrders=true)(hg:jK P ai (λk args G=>if k=f then g args G else none)):
  jK P ai (λk args G=>if k=f then Ol f F g args G else none):=by
 intro f' args G r G' M w cargs hx H hcv hl ha;simp only at hx;split at hx
 case isFalse=>cases hx
 rename_i hf;subst hf;unfold Ol at hx;split at hx
 ·rename_i r2 h2;cases hx;exact hg f' args G r G' M w cargs (by simp only[TY];exact h2) H hcv hl ha
 ·obtain⟨n,hn⟩:=HB hx;have hT:TabOk P ai (zh f' F):=⟨λk F' hk hi=>(by
    unfold zh at hk;split at hk
    ·rename_i e;subst e;cases hk;exact hc
    ·cases hk),λk F' g' hk hi=>(by
    unfold zh at hk;split at hk
    ·cases hk;rw[hF]at hi;cases hi
    ·cases hk),hm⟩
  exact(sound hT n).2.2 f' args G r G' M w cargs hn H hcv hl ha
def Dz(FT:Nat->Option an)(f:Nat)(F:an):Nat->Option an:=λk=>if k=f then some F else FT k
theorem TabOk.set{P:Program}{ai:Nat->FuncId}{FT:Nat->Option an}(h:TabOk P ai FT){f:Nat}{F:an}{g:List PV->List Blk->Option (PV×List (Option Blk))}(hi:F.intr=some g)(hg:jK P ai (λk args G=>if k=f then g args G else none))(he:pk P (ai f)):TabOk P ai (Dz FT f F):=
 ⟨λk F' hk hn=>(by
  unfold Dz at hk;split at hk
  ·cases hk;rw[hi]at hn;cases hn
  ·exact h.walk k F' hk hn),λk F' g' hk hn=>(by
  unfold Dz at hk;split at hk
  ·rename_i e;subst e;cases hk;rw[hi]at hn;cases hn;exact⟨hg,he⟩
  ·exact h.intr k F' g' hk hn),h.mixed⟩
noncomputable def EU:an:=⟨0,0,false,[],[],.skip,some (Ol 76 Dh nD)⟩
def AQ:Sig:=⟨[(.O 6 true),.F,(.O 6 true)],(.O 6 true),false⟩
def Ci:aB:=⟨AQ,[],.seq (.st [.asg [.pos (.v 2),.bin .eql (.v 1) (N' 0)] []]) (.ret (.app 6 (.app 6 (.slice 6 (.v 0) .nl (.v 1) .nl) (.v 2)) (.slice 6 (.v 0) (.v 1) .nl .nl)) [])⟩
def M7:VC:=
 (.seq
 (.st [.asg [(.slice 6 (.v 0) (.v 1) .nl .nl)] [],.asg [] [(7,(.len (.v 2)))]])
 (.seq
  (.seq
  (.st [.asg [(.bin .eql (.v 7) (N' 0))] []])
  (.cond (.bin .eql (.v 7) (N' 0))
   (.seq
   (.st [.asg [] [(6,(.v 0))]])
   (.ret (.v 6) []))
   .skip))
  (.seq
  (.st [.asg [] [(8,(.len (.v 0)))]])
  (.seq
   (.seq
   (.st [.asg [(.bin .eql (.v 1) (.v 8))] []])
   (.cond (.bin .eql (.v 1) (.v 8))
    (.seq
    (.st [.asg [] [(6,(.app 6 (.v 0) (.v 2)))]])
    (.ret (.v 6) []))
    .skip))
   (.st [.asg [(.pos (.lst .nl))] []])))))
theorem QW:My (λ_=>none) (pQ (zh 76 Dh)) Dh AQ=some M7:=by kernel_rfl
theorem KS{es ys:List PV}{c1 c2:Bool}(hy:ys≠[])(hs:cq 6 ys=true)(hm:es.length+ys.length<bV)(hz:mo es 6=true){env:Env}(h0:env 0=.lst es c1)(h1:env 1=.int .i64 es.length)(h2:env 2=.lst ys c2):
  aL (λ_ _=>none) (λ_ _ _=>false) M7 env=some (.ret (.lst (es++ys) false) []):=by
 have hy0:((ys.length:Int)==0)=false:=by
  cases ys with
  |nil=>exact absurd rfl hy
  |cons=>simp;omega
 have h3:cj 6 (.lst es c1) (.int .i64 es.length) (.tup []) (.tup [])=some (aP (.lst (es.drop es.length) false)):=by
  simp[cj,kk,cF,aO,mL,hz]
 have h4:aI .eql .i64 (ys.length:Int) .i64 0=some (.bool false):=by simp only[aI,hy0];rfl
 have h5:aI .eql .i64 (es.length:Int) .i64 (es.length:Int)=some (.bool true):=by simp[aI]
 simp only[aL,cS,VS.run,au,bU,fV,X.ev,ac,UL,Us,↓reduceIte,Env.set_at,Nat.reduceEqDiff,reduceCtorEq,bin,M7,N',h0,h1,h2,h3,h4,h5,bO,iO,hs,hm,and_self]
theorem IN{C:b6}{V:Nat->List PV->List PV->Bool}{x0 x1 x2 x:PV}{os:List PV}(hd:aL C V Ci.body (Env.ofArgs [x0,x1,x2])=some (.ret x os)):
  ∃es c ys c' n,x0=.lst es c/\x1=.int .i64 n/\x2=.lst ys c'/\ys≠[]/\0<=n/\n<=es.length/\mo es 6=true/\cq 6 ys=true/\es.length+ys.length<bV/\x=.lst (aF (es.take n.toNat)++ys++aF (es.drop n.toNat)) false/\os=[]:=by
 have e0:Env.ofArgs [x0,x1,x2] 0=x0:=rfl;have e1:Env.ofArgs [x0,x1,x2] 1=x1:=rfl;have e2:Env.ofArgs [x0,x1,x2] 2=x2:=rfl;generalize Env.ofArgs [x0,x1,x2]=env at*;simp only[Ci,aL,cS,VS.run,au,X.ev,e1,e2,bU,fV,ac]at hd;cases x2<;>simp only[IP,Vs,Un,T4,TU,lZ]at hd<;>try(cases hd;done)
 rename_i ys c';cases ys with
 |nil=>simp[]at hd
 |cons y ys=>
 cases x1<;>simp[Gv.bin]at hd
 rename_i k n;cases hk:aI .eql k n .i64 0 with
 |none=>rw[hk]at hd;simp at hd
 |some z=>
 have hk64:k=.i64:=by
  simp only[aI]at hk;split at hk
  ·cases hk
  ·rename_i h;exact Decidable.not_not.1 h
 subst hk64;rw[hk]at hd;simp only[UL,TY,ac,e0,e1,e2]at hd;have hx0:∃es c,x0=.lst es c:=by
  cases x0<;>first|exact⟨_,_,rfl⟩|(exfalso;simp[cj,kk]at hd)
 obtain⟨es,c,rfl⟩:=hx0;simp only[cj,kk,Vs,Un,T4,Vu,Nat.reduceEqDiff,TU]at hd;cases h1:cF 6 es false none (some (.int .i64 n)) none with
 |none=>rw[h1]at hd;simp at hd
 |some s1=>
 cases h2:cF 6 es false (some (.int .i64 n)) none none with
 |none=>
  exfalso;rw[h1,h2]at hd;cases h3:iO 6 (aP s1) (.lst (y::ys) c')<;>simp[h3]at hd
 |some s2=>
 rw[h1,h2]at hd;simp only[cF,aO,mL]at h1 h2;by_cases hn:0<=n
 case neg=>rw[TF hn]at h1;cases h1
 rw[TB hn]at h1 h2;simp only at h1 h2;split at h1
 case isFalse=>cases h1
 rename_i g1;split at h2
 case isFalse=>cases h2
 rename_i g2;cases h1;cases h2;simp only[TT,ac,aP,iO]at hd;split at hd
 case isFalse=>simp at hd
 rename_i g3;simp only[ac]at hd;split at hd
 case isFalse=>simp at hd
 rename_i g4;simp only[ac,Ty,vg.ret.injEq]at hd;have hnl:∀l:List PV,(aF l).length=l.length:=aS;simp only[Ud,hnl,T7,Ur]at g3 g4;refine⟨es,c,y::ys,c',n,rfl,rfl,rfl,by simp,hn,by omega,g1.2.2.2,g3.1,by simp only[TJ]at*;omega,?_,hd.2.symm⟩;rw[<-hd.1];simp[UB]
theorem LI{FT:Nat->Option an}{sgs:Nat->Option Sig}:aC (Dz FT 76 EU) sgs 76 Ci:=by
 refine .inr ⟨by kernel_rfl,λC V xs x os _ hd hl _=>?_⟩
 match xs,hl with
 |[x0,x1,x2],_=>
 obtain⟨es,c,ys,c',n,rfl,rfl,rfl,hy,hn0,hn1,hz,hs,hm,rfl,rfl⟩:=IN hd;obtain⟨k,rfl⟩:∃k:Nat,n=k:=⟨n.toNat,by omega⟩;simp only[TV];have hFT:Dz FT 76 EU 76=some EU:=by simp[Dz]
 intro args G P kr uP loc hG
 match args,kr with
 |[v0,v1,v2],kr=>
 have kr':=kr;obtain⟨⟨t0,w0⟩,⟨p1,e1⟩,⟨t2,w2⟩,_⟩:=kr';have w0:=w0 rfl;have w2:=w2 rfl;have e1:v1=.int .i64 k:=by
  cases v1<;>simp[aP]at e1
  obtain⟨rfl,rfl⟩:=e1;rfl
 subst e1;have hidem:∀{l:List PV},(∃m,l=aF m)->aF l=l:=λ⟨m,e⟩=>by subst e;exact fE m
 have hes:aF es=es:=by
  rcases t0 with⟨_,e⟩|⟨r,ver,off,len,room,c0,b,_,_,_,_,_,_,_,_,e⟩
  ·cases e;rfl
  ·cases e;exact hidem ⟨_,rfl⟩
 have hkl:k<=es.length:=by omega
 rw[iU,jE,hes];have hgA:∀{q:ax}{i:Nat}{e:fX},P i q->(HA G).get q=some e->∃p b,q=.a p/\G[p]?=some b/\e=⟨0,some b⟩:=λ{q i e} h1 h2=>by
  obtain⟨p,rfl,hp⟩:=loc i q h1;simp only[HA,Heap.get,TR]at h2;have hb:=TD hp;rw[hb]at h2;simp only[TT,Ty]at h2;exact⟨p,_,rfl,hb,h2.symm⟩
 rcases t2 with⟨_,e2⟩|⟨r2,ver2,off2,m,room2,c2,b2,hT2,hP2,hget2,hsz2,ho2,hr2,hpl2,hcl2,e2⟩
 ·cases e2;exact absurd rfl hy
 obtain⟨q,b2',rfl,hGq,eb2⟩:=hgA hP2 hget2;simp only[fX.mk.injEq,Ty]at eb2;obtain⟨rfl,rfl⟩:=eb2;by_cases hk:k=es.length
 ·
  subst hk;have hC:nr (zh 76 Dh) (λ_=>none) (λ_ _=>none) (λ_ _ _=>false):=⟨λf xs r os h=>(by cases h),λk vs caps h=>(by cases h)⟩;have hctr:=ES (xs:=[.lst es c,.int .i64 es.length,.lst ys c']) hC (show zh 76 Dh 76=some Dh from rfl) QW (KS hy hs hm hz rfl rfl rfl) (λh=>by cases h);obtain⟨n,rE,G',h1,h2,h3⟩:=hctr _ G P kr uP loc hG;have hmid:nD [v0,.int .i64 es.length,v2] G=none:=by
   rcases t0 with⟨hn,_⟩|⟨r,ver,off,len,room,c0,b,hT,hP,hget,_,ho,_,_,_,e⟩
   ·rcases hn with rfl|rfl<;>rfl
   ·obtain⟨p,b',rfl,hGp,eb⟩:=hgA hP hget;simp only[fX.mk.injEq,Ty]at eb;obtain⟨rfl,rfl⟩:=eb;subst hT;subst hT2;have hlen:es.length=len:=by
     simp only[PV.lst.injEq]at e;rw[e.1,aS];simp;omega
    simp only[nD,hGp,hGq];rw[TF];intro hc;have:=hc.2.1.2.1;omega
  have e3:List.take es.length es++ys++List.drop es.length es=es++ys:=by simp
  rw[e3];refine⟨1,rE,G',?_,h2,h3⟩;rw[bi.eq_def];simp only;rw[hFT];simp only[EU,Ol,hmid];exact HU h1
 ·
  have hcall:∀{r:PV×List (Option Blk)},nD [v0,.int .i64 k,v2] G=some r->bi (Dz FT 76 EU) 1 76 [v0,.int .i64 k,v2] G=some r:=λ{r} h=>by
   rw[bi.eq_def];simp only;rw[hFT];simp only[EU,Ol,h]
  rcases t0 with⟨_,e⟩|⟨r,ver,off,len,room,c0,b,hT,hP,hget,hsz,ho,hr,hpl,hcl,e⟩
  ·cases e;simp at hkl;simp at hk;omega
  obtain⟨p,b',rfl,hGp,eb⟩:=hgA hP hget;simp only[fX.mk.injEq,Ty]at eb;obtain⟨rfl,rfl⟩:=eb;simp only[PV.lst.injEq]at e e2;obtain⟨rfl,rfl⟩:=e;obtain⟨rfl,rfl⟩:=e2;subst hT;subst hT2;have hne:p≠q:=by
   rintro rfl
   have:=uP _ _ _ hP hP2;simp[K.n]at this
  have hro:b.ro=false:=by
   rcases w0 with hn|⟨r3,v3,s3,o3,l3,m3,b3,e3,g3,q3,_⟩
   ·rcases hn with hn|hn<;>cases hn
   ·cases e3;rw[hget]at g3;cases g3;exact q3
  have hWl:((b.es.drop off).take len).length=len:=by simp;omega
  have hVl:((b2.es.drop off2).take m).length=m:=by simp;omega
  simp only[aS,hWl,hVl]at hkl hk hm;have hm0:0<m:=by
   rcases Nat.eq_zero_or_pos m with z|z
   ·subst z;exact absurd (by simp[aF]) hy
   ·exact z
  have hpb:cg b.es=true:=hpl;have hall:(G.all λb=>cg b.es)=true:=by
   rw[Ut];intro x hx;obtain⟨j,hj⟩:=List.mem_iff_getElem?.1 hx;have:=hG j x hj;simp only[Ci,AQ,jW,KB,hget,hget2,T6,TL,UD,U2,TH,List.not_mem_nil,Vu]at this;rcases this with⟨_,_,rfl⟩|⟨_,_,rfl⟩
   ·exact hpl
   ·exact hpl2
  have hmid:nD [.tok (.a p) 0 6 off len room c0,.int .i64 k,.tok (.a q) 0 6 off2 m room2 c2] G=some (.tok (.l 0) 0 6 0 (len+m) (len+m) false,(G.map some).set p none++[some ⟨6,((b.es.drop off).take len).take k++(b2.es.drop off2).take m++((b.es.drop off).take len).drop k,false⟩]):=by
   simp only[nD,hGp,hGq,TV];rw[TB];exact⟨⟨hne,hro,hsz,hsz2,trivial,trivial⟩,⟨by omega,by omega,hm0,ho,ho2,hm⟩,hall⟩
  refine⟨1,_,_,hcall hmid,?_,λ_ h=>by cases h⟩;have hbsl:((G.map some).set p none).length=G.length:=by simp
  have hdrop:((G.map some).set p none++[some (⟨6,((b.es.drop off).take len).take k++(b2.es.drop off2).take m++((b.es.drop off).take len).drop k,false⟩:Blk)]).drop G.length=[some ⟨6,((b.es.drop off).take len).take k++(b2.es.drop off2).take m++((b.es.drop off).take len).drop k,false⟩]:=List.drop_left' hbsl;have hget3:(HX G.length ((G.map some).set p none++[some (⟨6,((b.es.drop off).take len).take k++(b2.es.drop off2).take m++((b.es.drop off).take len).drop k,false⟩:Blk)])).get (.l 0)=some ⟨0,some ⟨6,((b.es.drop off).take len).take k++(b2.es.drop off2).take m++((b.es.drop off).take len).drop k,false⟩⟩:=by
   simp only[HX,hdrop];rfl
  generalize hN:((b.es.drop off).take len).take k++(b2.es.drop off2).take m++((b.es.drop off).take len).drop k=N at*;have hNl:N.length=len+m:=by
   rw[<-hN];simp only[Ud,T7,hWl,hVl,Ur];omega
  have hNp:cg N=true:=by
   rw[<-hN,lg,lg];rw[dJ (dJ (dw hpl off) len),dJ (dw hpl2 off2) m,dw (dJ (dw hpl off) len)];rfl
  have hNc:∀x∈N,x.cells.length=6:=λx hx=>by
   rw[<-hN]at hx;rcases List.mem_append.1 hx with hx|hx
   ·rcases List.mem_append.1 hx with hx|hx
    ·exact hcl x (UH (UI (UI hx)))
    ·exact hcl2 x (UH (UI hx))
   ·exact hcl x (UH (UI (UH hx)))
  have hNn:aF N=(aF ((b.es.drop off).take len)).take k++aF ((b2.es.drop off2).take m)++(aF ((b.es.drop off).take len)).drop k:=by
   rw[<-hN,nX,nX,iU,jE]
  refine⟨by simp,by rw[hdrop];intro x hx;simp only[T1]at hx;subst hx;simp,⟨λi q=>i=0/\q=.l 0,⟨?_,trivial,?_,?_,?_,?_,?_,?_⟩⟩,λp hp=>by simp[Ci,AQ,bW]at hp,λp' hp' k' b' hPk hG'=>?_⟩
  ·refine⟨.inr ⟨.l 0,0,0,len+m,len+m,false,_,rfl,⟨rfl,rfl⟩,hget3,rfl,by simp[hNl],TN _,hNp,hNc,?_⟩,λ_=>.inr ⟨.l 0,0,6,0,len+m,len+m,_,rfl,hget3,rfl,by simp[hNl]⟩⟩;rw[<-hNn,Vw,UB (show N.length<=len+m by omega)]
  ·rintro i j q ⟨rfl,_⟩ ⟨rfl,_⟩;rfl
  ·rintro i q q' ⟨_,rfl⟩ ⟨_,rfl⟩;rfl
  ·intro k' hk';have:k'=0:=by
    have e4:((G.map some).set p none++[some (⟨6,N,false⟩:Blk)]).length-G.length=1:=by simp
    omega
   subst this;exact⟨0,rfl,rfl⟩
  ·rintro i q ⟨rfl,_⟩;show 0<Sig.nown _;decide
  ·rintro i k' ⟨_,e⟩
   cases e;simp
  ·rintro i k' ⟨_,e⟩;cases e
  ·have hlt:k'<G.length:=by
    obtain⟨k2,e,h⟩:=loc p' _ hPk;cases e;exact h
   rw[T9 (by simpa using hlt),List.getElem?_set]at hG';split at hG'
   ·split at hG'<;>cases hG'
   ·rw[TR]at hG';cases hq:G[k']? with
    |none=>rw[hq]at hG';cases hG'
    |some x=>rw[hq]at hG';simp only[TT,Ty]at hG';subst hG';exact List.all_eq_true.1 hall _ (TC hq)
section
variable{FT:Nat->Option an}{h:Heap}{fr:List PV}{n:Nat}
end
theorem jd{FT:Nat->Option an}{n:Nat}{a b:cZ}{σ σ':St}{r:Option (Ex×St)}(h1:bf FT n a σ=some (.norm,σ'))(h2:bf FT n b σ'=r):bf FT (n+1) (.seq a b) σ=r:=by
 rw[bf.eq_def];simp only;rw[h1];exact h2
theorem H0{FT:Nat->Option an}{n:Nat}{x y:cZ}{σ:St}{t:Nat}{r:Option (Ex×St)}(h:eO σ.fr t=.bool true)(hx:bf FT n x σ=r):bf FT (n+1) (.cond (.t t) x y) σ=r:=by
 rw[bf.eq_def];simp only[PO.ev,h];exact hx
theorem Jv{FT:Nat->Option an}{n:Nat}{x y:cZ}{σ:St}{t:Nat}{r:Option (Ex×St)}(h:eO σ.fr t=.bool false)(hx:bf FT n y σ=r):bf FT (n+1) (.cond (.t t) x y) σ=r:=by
 rw[bf.eq_def];simp only[PO.ev,h];exact hx
theorem FC{FT:Nat->Option an}{n:Nat}{σ:St}:bf FT (n+1) .ret σ=some (.ret,σ):=by rw[bf.eq_def]
theorem I8{FT:Nat->Option an}{n:Nat}{σ:St}:bf FT (n+1) .skip σ=some (.norm,σ):=by rw[bf.eq_def]
theorem zw:∀(n:Nat){i:Nat}{h:Heap},i+n<=h.A.length->(i9 n i).run h=some ((h.A.drop i).take n,h)
 |0,i,h,_=>rfl
 |n+1,i,h,hl=>by
  have hi:i<h.A.length:=by omega
  have ih:=zw n (i:=i+1) (h:=h) (by omega);have hg:h.get (.a i)=some ⟨0,h.A[i]⟩:=by simp[Heap.get,hi]
  simp only[i9,HM.run,hg];rw[HM.run_bind,ih];simp only[HM.run];rw[List.drop_eq_getElem_cons hi,Vn]
theorem LS{x:Blk}(h:cg x.es=true)(f:ax->Nat->Option (ax×Nat)):x.ren f=x:=by
 cases x;simp only[Blk.ren,(fS h f).1]
theorem sC:∀{l:List (Option Blk)},(∀b∈l,∀x,b=some x->cg x.es=true)->bp l=[]/\∀g:Option Blk->Option Blk,(∀x,cg x.es=true->g (some x)=some x)->g none=none->l.map g=l
 |[],_=>⟨rfl,λ_ _ _=>rfl⟩
 |none::l,h=>by
  obtain⟨a,b⟩:=sC (l:=l) λb hb=>h b (TG _ hb);exact⟨by simp only[bp,a],λg g1 g2=>by rw[TW,b g g1 g2,g2]⟩
 |some x::l,h=>by
  obtain⟨a,b⟩:=sC (l:=l) λb hb=>h b (TG _ hb);have hx:=h (some x) (by simp) x rfl;exact⟨by simp only[bp,a,ib hx,T6],λg g1 g2=>by rw[TW,b g g1 g2,g1 x hx]⟩
section
variable{FT:Nat->Option an}{f p off len room i j:Nat}{b:Blk}{G:List Blk}
end
end Gv
namespace Gv
open Go
def OkFrom(FT:Nat->Option an)(sgs:Nat->Option Sig):Nat->List (Option aB)->Prop
 |_,[]=>True
 |n,none::l=>OkFrom FT sgs (n+1) l
 |n,some F::l=>(F.binds=[]/\aC FT sgs n F)/\OkFrom FT sgs (n+1) l
theorem OkFrom.get{FT:Nat->Option an}{sgs:Nat->Option Sig}:∀{l:List (Option aB)}{n:Nat},OkFrom FT sgs n l->∀{k:Nat}{F:aB},l[k]?=some (some F)->F.binds=[]/\aC FT sgs (n+k) F
 |none::l,n,h,0,F,hk=>by simp at hk
 |none::l,n,h,k+1,F,hk=>by
  have:=OkFrom.get (l:=l) (n:=n+1) h (k:=k) (F:=F) (by simpa using hk);rw[show n+(k+1)=n+1+k by omega];exact this
 |some G::l,n,h,0,F,hk=>by
  simp only[TM,Ty]at hk;subst hk;exact h.1
 |some G::l,n,h,k+1,F,hk=>by
  have:=OkFrom.get (l:=l) (n:=n+1) h.2 (k:=k) (F:=F) (by simpa using hk);rw[show n+(k+1)=n+1+k by omega];exact this
theorem J6{FT:Nat->Option an}{l:List (Option aB)}(h:OkFrom FT (λg=>(Lq l g).map aB.sig) 0 l):FA FT (Lq l):=λf F hf=>by
 have hk:l[f]?=some (some F):=by
  unfold Lq at hf;rw[Vp]at hf;cases hq:l[f]? with
  |none=>rw[hq]at hf;simp at hf
  |some x=>rw[hq]at hf;simp only[TS]at hf;rw[hf]
 have:=h.get hk;rwa[Up]at this
def Kr:List IOper:=[io 5 (.buildSlice none [] 0),io 6 (.mov (.t 0)),io 7 (.append 1 (.t 5) (.t 6) 1),io 2 (.mov (.t 7))]
def Ls:an:=⟨8,2,false,[true],[.tmp 2],
 (.seq
 (.reg [io 2 (.mov (.c .nils))] false)
 (.seq
  (.seq
  (.reg [io 3 (.mov (.t 0)),io 4 (.eqn 0 false (.t 3) (.c .nils))] false)
  (.cond (.t 4)
   (.seq
   (.reg [io 2 (.mov (.c .nils))] false)
   .ret)
   .skip))
  (.seq
  (.reg Kr false)
  .ret))),none⟩
theorem MP{FT:Nat->Option an}{f:Nat}(hF:FT f=some Ls):bi FT 20 f [.nils] []=some (.nils,[]):=by
 rw[bi.eq_def];simp only[hF];rfl
theorem Nk{es:List PV}{c:Bool}(hp:cg es=true)(hs:cq 1 es=true)(hm:es.length<bV)(hne:es≠[]){h:Heap}(h0:h.get (.l 0)=some ⟨1,some ⟨1,[],false⟩⟩)(h1:h.get (.l 1)=some ⟨0,none⟩):
  (kq 1 (.tok (.l 0) 1 1 0 0 0 false) (.lst es c) 1).run h=some (.tok (.l 1) 1 1 0 es.length es.length false,(h.put (.l 0) ⟨1,none⟩).put (.l 1) ⟨1,some ⟨1,es,false⟩⟩):=by
 have hmp:=tF hp 7;have he:es.isEmpty=false:=by cases es with|nil=>exact absurd rfl hne|cons=>rfl
 have hpos:0<es.length:=List.length_pos_iff.2 hne;have h1':(h.put (.l 0) ⟨1,none⟩).get (.l 1)=some ⟨0,none⟩:=by rw[Heap.get_put_other (by intro h;cases h)];exact h1
 simp only[kq,elems,HM.bind];rw[TB hs,hmp];simp only[HM.bind,he,T4,TU,iW,bM,HM.run,h0,TY,HM.ofO];rw[TB ⟨trivial,trivial,by simp,by omega⟩,TF (by omega),TF (by simp)];simp[HM.run,h0,eX,h1',HM.bind]
theorem MK{FT:Nat->Option an}{f:Nat}(hF:FT f=some Ls){es:List PV}{c:Bool}(hp:cg es=true)(hs:cq 1 es=true)(hm:es.length<bV):
  bi FT 20 f [.lst es c] []=some (.tok (.l 0) 0 1 0 es.length es.length false,[some ⟨1,es,false⟩]):=by
 cases hes:es with
 |nil=>
  subst hes;rw[bi.eq_def];simp only[hF];rfl
 | cons y ys=>
  rw[<-hes];have hne:es≠[]:=by rw[hes];simp
  have happ:=Nk (c:=c) hp hs hm hne (h:=⟨[],[⟨1,some ⟨1,[],false⟩⟩,⟨0,none⟩]⟩) rfl rfl;clear hes;have hreg:fK (λf=>match FT f with|some F=>F.ro|none=>[]) (bi FT 14) Kr ⟨[.lst es c,.junk,.nils,.lst es c,.bool false,.junk,.junk,.junk],⟨[],[⟨0,none⟩,⟨0,none⟩]⟩⟩=
    some ⟨[.lst es c,.junk,.tok (.l 1) 1 1 0 es.length es.length false,.lst es c,.bool false,.tok (.l 0) 1 1 0 0 0 false,.lst es c,.tok (.l 1) 1 1 0 es.length es.length false],⟨[],[⟨1,none⟩,⟨1,some ⟨1,es,false⟩⟩]⟩⟩:=by
   have e1:gb (λf=>match FT f with|some F=>F.ro|none=>[]) (bi FT 14) (io 5 (.buildSlice none [] 0)) ⟨[.lst es c,.junk,.nils,.lst es c,.bool false,.junk,.junk,.junk],⟨[],[⟨0,none⟩,⟨0,none⟩]⟩⟩=some ⟨[.lst es c,.junk,.nils,.lst es c,.bool false,.tok (.l 0) 1 1 0 0 0 false,.junk,.junk],⟨[],[⟨1,some ⟨1,[],false⟩⟩,⟨0,none⟩]⟩⟩:=rfl;have e2:gb (λf=>match FT f with|some F=>F.ro|none=>[]) (bi FT 14) (io 6 (.mov (.t 0))) ⟨[.lst es c,.junk,.nils,.lst es c,.bool false,.tok (.l 0) 1 1 0 0 0 false,.junk,.junk],⟨[],[⟨1,some ⟨1,[],false⟩⟩,⟨0,none⟩]⟩⟩=some ⟨[.lst es c,.junk,.nils,.lst es c,.bool false,.tok (.l 0) 1 1 0 0 0 false,.lst es c,.junk],⟨[],[⟨1,some ⟨1,[],false⟩⟩,⟨0,none⟩]⟩⟩:=rfl;have e3:gb (λf=>match FT f with|some F=>F.ro|none=>[]) (bi FT 14) (io 7 (.append 1 (.t 5) (.t 6) 1)) ⟨[.lst es c,.junk,.nils,.lst es c,.bool false,.tok (.l 0) 1 1 0 0 0 false,.lst es c,.junk],⟨[],[⟨1,some ⟨1,[],false⟩⟩,⟨0,none⟩]⟩⟩=some ⟨[.lst es c,.junk,.nils,.lst es c,.bool false,.tok (.l 0) 1 1 0 0 0 false,.lst es c,.tok (.l 1) 1 1 0 es.length es.length false],⟨[],[⟨1,none⟩,⟨1,some ⟨1,es,false⟩⟩]⟩⟩:=by
    show(match(kq 1 (.tok (.l 0) 1 1 0 0 0 false) (.lst es c) 1).run ⟨[],[⟨1,some ⟨1,[],false⟩⟩,⟨0,none⟩]⟩with|some (v,h)=>some (⟨upd _ 7 v,h⟩:St)|none=>none)=_;rw[happ];rfl
   simp only[Kr,fK,e1,e2,e3];rfl
  have hex:bf FT 19 Ls.body ⟨[.lst es c,.junk,.junk,.junk,.junk,.junk,.junk,.junk],⟨[],[⟨0,none⟩,⟨0,none⟩]⟩⟩=some (.ret,⟨[.lst es c,.junk,.tok (.l 1) 1 1 0 es.length es.length false,.lst es c,.bool false,.tok (.l 0) 1 1 0 0 0 false,.lst es c,.tok (.l 1) 1 1 0 es.length es.length false],⟨[],[⟨1,none⟩,⟨1,some ⟨1,es,false⟩⟩]⟩⟩):=by
   have g1:bf FT 18 (.reg [io 2 (.mov (.c .nils))] false) ⟨[.lst es c,.junk,.junk,.junk,.junk,.junk,.junk,.junk],⟨[],[⟨0,none⟩,⟨0,none⟩]⟩⟩=some (.norm,⟨[.lst es c,.junk,.nils,.junk,.junk,.junk,.junk,.junk],⟨[],[⟨0,none⟩,⟨0,none⟩]⟩⟩):=rfl;have g2:bf FT 16 (.reg [io 3 (.mov (.t 0)),io 4 (.eqn 0 false (.t 3) (.c .nils))] false) ⟨[.lst es c,.junk,.nils,.junk,.junk,.junk,.junk,.junk],⟨[],[⟨0,none⟩,⟨0,none⟩]⟩⟩=some (.norm,⟨[.lst es c,.junk,.nils,.lst es c,.bool false,.junk,.junk,.junk],⟨[],[⟨0,none⟩,⟨0,none⟩]⟩⟩):=rfl;refine jd g1 (jd (jd g2 (Jv rfl I8)) (jd (n:=16) ?_ FC));rw[bf.eq_def];simp only;have h2:=qT (jB (FT:=FT) (n:=14) (m:=15) (by omega)) hreg;change(match fK (λf=>match FT f with|some F=>F.ro|none=>[]) (bi FT 15) Kr _ with|some σ'=>some (Ex.norm,σ')|none=>none)=_;rw[h2]
  rw[bi.eq_def];simp only[hF];have hi:Ls.intr=none:=rfl;rw[hi];simp only;have hs0:(⟨[PV.lst es c]++List.replicate (Ls.ntmps-[PV.lst es c].length) PV.junk,⟨List.map some ([]:List Blk),List.replicate Ls.nslots ⟨0,none⟩⟩⟩:St)=⟨[.lst es c,.junk,.junk,.junk,.junk,.junk,.junk,.junk],⟨[],[⟨0,none⟩,⟨0,none⟩]⟩⟩:=rfl;rw[hs0,hex];simp only;have ht:aM es=[]:=ib hp;have hren:∀g,bH g es=es:=λg=>(fS hp g).1;have hfin:(mq Ls ([]:List Blk).length [.lst es c,.junk,.tok (.l 1) 1 1 0 es.length es.length false,.lst es c,.bool false,.tok (.l 0) 1 1 0 0 0 false,.lst es c,.tok (.l 1) 1 1 0 es.length es.length false]).run ⟨[],[⟨1,none⟩,⟨1,some ⟨1,es,false⟩⟩]⟩=some ((.tok (.l 0) 0 1 0 es.length es.length false,[some ⟨1,es,false⟩]),⟨[],[⟨1,none⟩,⟨1,some ⟨1,es,false⟩⟩]⟩):=by
   unfold mq;simp[Ls,l8,HM.bind,HM.run,one,i9,cV,bp,cL,Heap.get,eO,fq,ren,Blk.ren,hren,ht]
  rw[hfin]
def r9:aB:=⟨⟨[.F],.O 1 true,true⟩,[],.seq (.st [.asg [.len (.v 0)] []]) (.ret (.app 1 (.lst .nl) (.v 0)) [])⟩
theorem K2{C:b6}{V:Nat->List PV->List PV->Bool}{x0 x:PV}{os:List PV}(hd:aL C V r9.body (Env.ofArgs [x0])=some (.ret x os)):
  ∃es c,x0=.lst es c/\cq 1 es=true/\es.length<bV/\x=.lst es false/\os=[]:=by
 have e0:Env.ofArgs [x0] 0=x0:=rfl;generalize Env.ofArgs [x0]=env at*;have hgood:au env [.len (.v 0)]=true:=by
  cases hb:au env [.len (.v 0)]with
  |true=>rfl
  |false=>simp only[r9,aL,cS,VS.run,hb,T4,TU,lZ]at hd;cases hd
 simp only[r9,aL,cS,VS.run,hgood,TY,bU,fV,ac]at hd;simp only[au,Us,X.ev,e0,ac]at hgood;simp only[X.ev,e0,ac,bZ]at hd;cases x0<;>simp[bO]at hgood
 rename_i es c;simp only[ab]at hd;obtain⟨y,hy,hd⟩:=hd;cases hd;simp only[iO]at hy;split at hy
 case isFalse=>cases hy
 rename_i q;cases hy;simp only[Um,Up]at q;exact⟨es,c,rfl,q.1,q.2,by simp,rfl⟩
theorem zH:∀{es:List PV},(aF es).all (λ |.int .. |.bool _|.str _|.nilp|.nilfn=>true|_=>false)=true->cg es=true->i5 es=true
 |[],_,_=>rfl
 |e::es,h,hp=>by
  simp only[aF,List.all_cons,TA]at h;simp only[cg,TA]at hp;have ih:=zH (es:=es) h.2 hp.2;simp only[i5,ih,Us];cases e<;>simp_all [aP,eL]
theorem NV{FT:Nat->Option an}{sgs:Nat->Option Sig}{f:Nat}(hF:FT f=some Ls):aC FT sgs f r9:=by
 refine .inr ⟨by kernel_rfl,λC V xs x os _ hd hl hsc=>?_⟩
 match xs,hl with
 |[x0],_=>
 obtain⟨ys,c,rfl,hs,hm,rfl,rfl⟩:=K2 hd;have hsc:=hsc rfl;have hso:tW (.lst ys false)=true:=by
  rcases hsc with h|h
  ·simp[gX]at h
  ·exact h
 intro args G P kr uP loc hG
 match args,kr with
 |[v0],kr=>
 obtain⟨⟨p0,e0⟩,_⟩:=kr;have hG0:G=[]:=by
  cases G with
  |nil=>rfl
  |cons b bs=>have:=hG 0 b rfl;simp[r9,jW,KB]at this
 subst hG0;have hfl:∀{n:Nat}{rE:PV}{G':List (Option Blk)},bi FT n f [v0] []=some (rE,G')->ExitOk r9.sig P [v0] [] G' rE (.lst ys false) []->(eL rE=true/\ji (G'.drop 0)=true)->
   ∃n rE G',bi FT n f [v0] []=some (rE,G')/\ExitOk r9.sig P [v0] [] G' rE (.lst ys false) []/\(K.nL r9.sig.ps=0->r9.sig.scal=true->eL rE=true/\ji (G'.drop ([]:List Blk).length)=true):=
  λh1 h2 h3=>⟨_,_,_,h1,h2,λ_ _=>h3⟩
 cases v0 with
 |nils=>
  simp only[aP]at e0;cases e0;refine hfl (MP hF) ⟨TN _,by simp,⟨λ_ _=>False,⟨⟨.inl ⟨.inl rfl,rfl⟩,λ_=>.inl (.inl rfl)⟩,trivial,λ_ _ _ h=>h.elim,λ_ _ _ h=>h.elim,λk hk=>by simp at hk,λ_ _ h=>h.elim,λ_ _ h=>h.elim,λ_ _ h=>h.elim⟩⟩,λp hp=>by simp[r9,bW]at hp,λp _ k b _ h=>by simp at h⟩ ⟨rfl,rfl⟩
 | lst es c0=>
  simp only[aP,PV.lst.injEq]at e0;obtain⟨rfl,rfl⟩:=e0;simp only[pl]at p0;have hs':cq 1 es=true:=by
   have key:∀{l:List PV},cq 1 (aF l)=true->cq 1 l=true:=by
    intro l;induction l with
    |nil=>intro _;rfl
    |cons a l ih=>
     intro h;simp only[aF,cq,TA]at h⊢;refine⟨?_,ih h.2⟩;have h1:=h.1;cases a<;>simp_all [aP,PV.cells,aS]
   exact key hs
  have hm':es.length<bV:=by rwa[aS]at hm
  have hnr:i5 es=true:=zH hso p0;have hcl:∀e∈es,e.cells.length=1:=rn hs';have hget:(HX 0 [some (⟨1,es,false⟩:Blk)]).get (.l 0)=some ⟨0,some ⟨1,es,false⟩⟩:=rfl;refine hfl (MK hF p0 hs' hm') ⟨UN _,by simp,⟨λi q=>i=0/\q=.l 0,⟨?_,trivial,?_,?_,?_,?_,?_,?_⟩⟩,λp hp=>by simp[r9,bW]at hp,λp' hp' k' b' hPk hG'=>?_⟩ ⟨rfl,by simp[ji,hnr]⟩
  ·refine⟨.inr ⟨.l 0,0,0,es.length,es.length,false,_,rfl,⟨rfl,rfl⟩,hget,rfl,by simp,TN _,p0,hcl,by simp⟩,λ_=>.inr ⟨.l 0,0,1,0,es.length,es.length,_,rfl,hget,rfl,by simp⟩⟩
  ·rintro i j q ⟨rfl,_⟩ ⟨rfl,_⟩;rfl
  ·rintro i q q' ⟨_,rfl⟩ ⟨_,rfl⟩;rfl
  ·intro k' hk';have:k'=0:=by simp at hk';exact hk'
   subst this;exact⟨0,rfl,rfl⟩
  ·rintro i q ⟨rfl,_⟩;show 0<Sig.nown _;decide
  ·rintro i k' ⟨_,e⟩;cases e;simp
  ·rintro i k' ⟨_,e⟩;cases e
  ·obtain⟨k2,e,h⟩:=loc p' _ hPk;simp at h
 |_=>simp[aP]at e0
end Gv
