/- A part of the proof that the law is true of all its inputs, by an interpreter that is proved sound. -/
import Derived.Test.YtfaeljmkbadgdaaGreatVn
import Derived.KernelRfl
import Derived.Test.YtfaeljmkbadgdaaGreatVc
namespace Gv
open Go
def JG:VC:=.seq (.st [.asg [] [(2,.app 1 (.v 0) (.v 0))],.asg [] [(3,.app 1 (.v 2) (.v 2))],.asg [] [(4,.app 1 (.v 3) (.v 3))],.asg [] [(5,.app 1 (.v 4) (.v 4))],.asg [] [(6,.app 1 (.v 5) (.v 5))],.asg [] [(7,.app 1 (.v 6) (.v 6))],.asg [] [(8,.app 1 (.v 7) (.v 7))]]) (.ret (.slice 1 (.v 8) .nl (.v 1) .nl) [])
def vN:aB:=⟨⟨[.F,.F],.O 1 true,true⟩,[],
 .cond (.bin .eql (.len (.v 0)) (.int .i64 1)) (.cond (.bin .eql (.ld none (.ia 1 (.v 0) (.int .i64 0)) 0) (.int .i64 (-1)))
  (.cond (.bin .leq (.v 1) (.int .i64 65)) (.cond (.bin .geq (.v 1) (.int .i64 1)) JG tJ) tJ) tJ) tJ⟩
theorem rj{C:b6}{V:Nat->List PV->List PV->Bool}{c:X}{a:VC}{env:Env}{r:vg}(h:aL C V (.cond c a tJ) env=some r):c.ev env=some (.bool true)/\aL C V a env=some r:=by
 simp only[aL]at h;split at h
 ·rename_i hc;exact⟨hc,h⟩
 ·rw[qG]at h;cases h
 ·cases h
theorem Bd{op:BinOp}{a b:X}{env:Env}{v:PV}(h:(X.bin op a b).ev env=some v):∃x y,a.ev env=some x/\b.ev env=some y/\bin op x y=some v:=by
 simp only[X.ev,ab]at h;obtain⟨x,h1,y,h2,h3⟩:=h;exact⟨x,y,h1,h2,h3⟩
theorem xz(e:PV):∀n,aF (List.replicate n e)=List.replicate n (aP e)
 |0=>rfl
 |n+1=>by rw[UT,aF,xz e n,UT]
theorem pj{e:PV}{c c':Bool}{a b:Nat}(he:e.cells.length=1)(h:a+b<1000000):iO 1 (.lst (List.replicate a e) c) (.lst (List.replicate b e) c')=some (.lst (List.replicate (a+b) e) false):=by
 have hs:∀b,cq 1 (List.replicate b e)=true:=by
  intro b;induction b with
  |zero=>rfl
  |succ b ih=>rw[UT,cq,ih,he];rfl
 simp only[iO];rw[TB ⟨hs b,by simp[bV];omega⟩,List.replicate_append_replicate]
theorem Gy{es:List PV}{n:Nat}(hl:mo es 1=true)(hn:n<=es.length):cj 1 (.lst es false) (.tup []) (.int .i64 (n:Nat)) (.tup [])=some (aP (.lst (es.take n) false)):=by
 simp[cj,kk,cF,aO,mL,hl,hn]
theorem GY{e:PV}{n:Nat}(he:e.cells.length=1)(hn:n<=65):cj 1 (.lst (List.replicate 128 e) false) (.tup []) (.int .i64 (n:Nat)) (.tup [])=some (.lst (List.replicate n (aP e)) false):=by
 have hl:∀k,mo (List.replicate (k+1) e) 1=true:=λk=>by simp[UT,mo,he]
 rw[Gy (hl 127) (by rw[Va];omega),List.take_replicate,Vz (by omega)];simp only[aP,xz]
theorem MG{y:PV}{z:Int}(h:bin .eql y (.int .i64 z)=some (.bool true)):y=.int .i64 z:=by
 cases y<;>simp[bin]at h
 rename_i k a;simp only[aI]at h;split at h
 ·cases h
 ·rename_i hk;simp at h hk;rw[h,hk]
theorem De{C:b6}{V:Nat->List PV->List PV->Bool}{env:Env}{e:PV}{c:Bool}{n:Nat}(h0:env 0=.lst [e] c)(h1:env 1=.int .i64 (n:Nat))(he:e.cells.length=1)(hn:n<=65):
  aL C V JG env=some (.ret (.lst (List.replicate n (aP e)) false) []):=by
 have a1:iO 1 (.lst [e] c) (.lst [e] c)=some (.lst (List.replicate 2 e) false):=pj (a:=1) (b:=1) he (by omega);have a2:=pj (e:=e) (c:=false) (c':=false) (a:=2) (b:=2) he (by omega);have a3:=pj (e:=e) (c:=false) (c':=false) (a:=4) (b:=4) he (by omega);have a4:=pj (e:=e) (c:=false) (c':=false) (a:=8) (b:=8) he (by omega);have a5:=pj (e:=e) (c:=false) (c':=false) (a:=16) (b:=16) he (by omega);have a6:=pj (e:=e) (c:=false) (c':=false) (a:=32) (b:=32) he (by omega);have a7:=pj (e:=e) (c:=false) (c':=false) (a:=64) (b:=64) he (by omega);have s:=GY (n:=n) he hn;simp only[Nat.reduceAdd]at a2 a3 a4 a5 a6 a7;simp only[JG,aL,cS,VS.run,au,bU,fV,X.ev,h0,h1,a1,a2,a3,a4,a5,a6,a7,s,ac,TY,Env.set_at,Nat.reduceEqDiff,TU]
theorem I6{C:b6}{V:Nat->List PV->List PV->Bool}{x0 x1 x:PV}{os:List PV}(hd:aL C V vN.body (Env.ofArgs [x0,x1])=some (.ret x os))(hsc:gX x=true∨tW x=true):
  ∃(c:Bool)(n:Nat),x0=.lst [.int .i64 (-1)] c/\x1=.int .i64 (n:Nat)/\1<=n/\n<=65/\x=.lst (List.replicate n (.int .i64 (-1))) false/\os=[]:=by
 have e0:Env.ofArgs [x0,x1] 0=x0:=rfl;have e1:Env.ofArgs [x0,x1] 1=x1:=rfl;generalize Env.ofArgs [x0,x1]=env at*;obtain⟨c1,hd⟩:=rj hd;obtain⟨c2,hd⟩:=rj hd;obtain⟨c3,hd⟩:=rj hd;obtain⟨c4,hd⟩:=rj hd;obtain⟨y1,y2,a1,a2,a3⟩:=Bd c1;simp only[X.ev,e0,ac,Ty]at a1 a2;subst a2;cases x0<;>simp[bO]at a1
 rename_i es c;subst a1;simp only[bin,aI,ne_eq,UJ,TU,Ty,PV.bool.injEq,Ue]at a3
 match es,a3 with
 |[e],_=>
 obtain⟨y1,y2,a1,a2,a3⟩:=Bd c2;simp only[X.ev,e0,ac,Ty]at a1 a2;subst a2;obtain⟨y3,y4,b1,b2,b3⟩:=Bd c3;simp only[X.ev,e1,Ty]at b1 b2;subst b1 b2;obtain⟨y5,y6,d1,d2,d3⟩:=Bd c4;simp only[X.ev,e1,Ty]at d1 d2;subst d1 d2;cases x1<;>simp[bin]at b3 d3
 rename_i k n;have hk:k=.i64:=by
  by_cases h:k=.i64
  ·exact h
  ·simp[aI,h]at b3
 subst hk;simp[aI]at b3 d3;obtain⟨n,rfl⟩:=Ug (show 0<=n by omega);have hie:az 1 (.lst [e] c) (.int .i64 0)=if e.cells.length=1 then some (.lptr e.cells)else none:=by simp[az]
 rw[hie]at a1;split at a1
 rotate_left
 ·simp at a1
 rename_i he;simp only[ac]at a1;have hr:=De (C:=C) (V:=V) e0 e1 he (by omega);rw[hr]at hd;simp only[Ty,vg.ret.injEq]at hd;obtain⟨rfl,rfl⟩:=hd;have he2:e.cells=[.int .i64 (-1)]:=by
  match hc:e.cells,he with
  |[d],_=>
  rw[hc]at a1;simp only[kG,dU,bC,TM]at a1;have:=MG a3;subst this;split at a1
  ·cases a1;rfl
  ·cases a1
 refine⟨c,n,?_,rfl,by omega,by omega,?_,rfl⟩
 ·cases e with
  |agg cs=>
   obtain⟨m,rfl⟩:∃m,n=m+1:=⟨n-1,by omega⟩;simp[gX,tW,UT,aP]at hsc
  |_=>simp_all [PV.cells]
 ·cases e with
  |agg cs=>
   obtain⟨m,rfl⟩:∃m,n=m+1:=⟨n-1,by omega⟩;simp[gX,tW,UT,aP]at hsc
  |_=>simp_all [PV.cells,aP]
def Be(FT:Nat->Option an)(f:Nat):Prop:=∀(b:Bool)(n:Nat),n<65->bi FT 120 f [.lst [.int .i64 (-1)] b,.int .i64 ((n+1:Nat):Int)] []=some (.tok (.l 0) 0 1 0 (n+1) (n+1) false,[some ⟨1,List.replicate (n+1) (.int .i64 (-1)),false⟩])
def de(FT:Nat->Option an)(f:Nat)(b:Bool)(j:Nat):Prop:=(List.range 8).map (λi=>bi FT 120 f [.lst [.int .i64 (-1)] b,.int .i64 ((8*j+i+1:Nat):Int)] [])=(List.range 8).map (λi=>some (.tok (.l 0) 0 1 0 (8*j+i+1) (8*j+i+1) false,[some ⟨1,List.replicate (8*j+i+1) (.int .i64 (-1)),false⟩]))
theorem EV{FT:Nat->Option an}{f:Nat}(h:∀b j,j<9->de FT f b j):Be FT f:=λb n hn=>by
 have:=congrArg (λl=>l[n %8]?) (h b (n/8) (by omega));have h8:n %8<8:=Nat.mod_lt _ (by omega);simp only[TR,UY h8,TT,Ty,Nat.div_add_mod]at this;exact this
theorem Ju{e:PV}{k:IntKind}{z:Int}(h:aP e=.int k z):e=.int k z:=by
 cases e<;>simp only[aP,reduceCtorEq]at h
 exact h
theorem Ly{FT:Nat->Option an}{sgs:Nat->Option Sig}{f:Nat}(hF:Be FT f):aC FT sgs f vN:=by
 refine .inr ⟨by kernel_rfl,λC V xs x os _ hd hl hsc=>?_⟩
 match xs,hl with
 |[x0,x1],_=>
 have hsc:=hsc rfl;obtain⟨c,n,rfl,rfl,hn1,hn2,rfl,rfl⟩:=I6 hd hsc;intro args G P kr uP loc hG
 match args,kr with
 |[v0,v1],kr=>
 obtain⟨⟨p0,e0⟩,⟨p1,e1⟩,_⟩:=kr;have hG0:G=[]:=by
  cases G with
  |nil=>rfl
  |cons b bs=>have:=hG 0 b rfl;simp[vN,jW,KB]at this
 subst hG0;have ev1:v1=.int .i64 (n:Nat):=by cases v1<;>simp_all [aP]
 subst ev1;obtain⟨c0,rfl⟩:∃c0,v0=.lst [.int .i64 (-1)] c0:=by
  cases v0 with
  | lst es c0=>
   have e0':aF es=[.int .i64 (-1)]:=by
    simp only[aP,PV.lst.injEq]at e0;exact e0.1.symm
   match es,e0' with
   |[e],h=>
    simp only[aF,Vc,U6]at h;exact⟨c0,by rw[Ju h]⟩
   |[],h=>cases h
   |_::_::_,h=>simp only[aF,Vc,reduceCtorEq,Vh]at h
  |nils=>simp[aP]at e0
  |_=>simp only[aP,reduceCtorEq]at e0
 obtain⟨k,rfl⟩:∃k,n=k+1:=⟨n-1,by omega⟩;have run:=hF c0 k (by omega);have hpl:cg (List.replicate (k+1) (.int .i64 (-1)))=true:=by
  have:∀k,cg (List.replicate k (.int .i64 (-1)))=true:=λk=>by
   induction k with
   |zero=>rfl
   |succ k ih=>rw[UT,cg,ih];rfl
  exact this _
 have hnr:i5 (List.replicate (k+1) (.int .i64 (-1)))=true:=by
  have:∀k,i5 (List.replicate k (.int .i64 (-1)))=true:=λk=>by
   induction k with
   |zero=>rfl
   |succ k ih=>rw[UT,i5,ih];rfl
  exact this _
 have hnrm:aF (List.replicate (k+1) (.int .i64 (-1)))=List.replicate (k+1) (.int .i64 (-1)):=xz _ _;have hcl:∀e∈List.replicate (k+1) (PV.int .i64 (-1)),e.cells.length=1:=λe he=>by rw[List.eq_of_mem_replicate he];rfl
 generalize hes:List.replicate (k+1) (PV.int .i64 (-1))=es at*;have hlen:es.length=k+1:=by rw[<-hes];simp
 have hget:(HX 0 [some (⟨1,es,false⟩:Blk)]).get (.l 0)=some ⟨0,some ⟨1,es,false⟩⟩:=rfl;rw[<-hlen]at run;have hfl:∀{n:Nat}{rE:PV}{G':List (Option Blk)},bi FT n f [.lst [.int .i64 (-1)] c0,.int .i64 (es.length:Nat)] []=some (rE,G')->ExitOk vN.sig P [.lst [.int .i64 (-1)] c0,.int .i64 (es.length:Nat)] [] G' rE (.lst es false) []->(eL rE=true/\ji (G'.drop 0)=true)->
   ∃n rE G',bi FT n f [.lst [.int .i64 (-1)] c0,.int .i64 (es.length:Nat)] []=some (rE,G')/\ExitOk vN.sig P [.lst [.int .i64 (-1)] c0,.int .i64 (es.length:Nat)] [] G' rE (.lst es false) []/\(K.nL vN.sig.ps=0->vN.sig.scal=true->eL rE=true/\ji (G'.drop ([]:List Blk).length)=true):=
  λh1 h2 h3=>⟨_,_,_,h1,h2,λ_ _=>h3⟩
 rw[<-hlen];refine hfl run ⟨UN _,by simp,⟨λi q=>i=0/\q=.l 0,⟨?_,trivial,?_,?_,?_,?_,?_,?_⟩⟩,λp hp=>by simp[vN,bW]at hp,λp' hp' k' b' hPk hG'=>?_⟩ ⟨rfl,by simp[ji,hnr]⟩
 ·refine⟨.inr ⟨.l 0,0,0,es.length,es.length,false,_,rfl,⟨rfl,rfl⟩,hget,rfl,by simp,TN _,hpl,hcl,by simp[hnrm]⟩,λ_=>.inr ⟨.l 0,0,1,0,es.length,es.length,_,rfl,hget,rfl,by simp⟩⟩
 ·rintro i j q ⟨rfl,_⟩ ⟨rfl,_⟩;rfl
 ·rintro i q q' ⟨_,rfl⟩ ⟨_,rfl⟩;rfl
 ·intro k' hk';have:k'=0:=by simp at hk';exact hk'
  subst this;exact⟨0,rfl,rfl⟩
 ·rintro i q ⟨rfl,_⟩;show 0<Sig.nown _;decide
 ·rintro i k' ⟨_,e⟩;cases e;simp
 ·rintro i k' ⟨_,e⟩;cases e
 ·obtain⟨k2,e,h⟩:=loc p' _ hPk;simp at h
def yN:aB:=⟨⟨[(.B false [.F,.F,.F,.F,.F,.F,(.O 1 true),.F,.F,.F,.F,(.O 1 true),(.O 3 true),.F]),.F],(.T []),true⟩,[],
 (.seq
 (.seq
 (.st [.asg [(.chk (some 2) (.v 1))] [(3,(.lp (.cn (.fld none (.v 1) 0) (.cn (.fld none (.v 1) 1) .nl)))),(4000,(.lp (.cn (.ld none (.v 0) 0) (.cn (.ld none (.v 0) 1) (.cn (.ld none (.v 0) 2) (.cn (.ld none (.v 0) 3) (.cn (.ld none (.v 0) 4) (.cn (.ld none (.v 0) 5) (.cn (.ld none (.v 0) 6) (.cn (.ld none (.v 0) 7) (.cn (.ld none (.v 0) 8) (.cn (.ld none (.v 0) 9) (.cn (.ld none (.v 0) 10) (.cn (.ld none (.v 0) 11) (.cn (.ld none (.v 0) 12) (.cn (.ld none (.v 0) 13) .nl))))))))))))))))],.asg [] [(4,(.bin .lss (.ld none (.v 3) 1) (.len (.ld none (.v 4000) 6))))]])
 (.block 0
 (.seq
 (.st [.asg [(.ite (.bin .eql (.ld none (.v 3) 0) (.int .i64 6)) (.v 4) (.boo false))] []])
 (.cond (.ite (.bin .eql (.ld none (.v 3) 0) (.int .i64 6)) (.v 4) (.boo false))
 (.st [.asg [] [(39,(.ld none (.ia 1 (.ld none (.v 4000) 11) (.bin .sub (.len (.ld none (.v 4000) 11)) (.int .i64 1))) 0))],.asg [] [(4000,(.lp (.cn (.ld none (.v 4000) 0) (.cn (.ld none (.v 4000) 1) (.cn (.ld none (.v 4000) 2) (.cn (.ld none (.v 4000) 3) (.cn (.ld none (.v 4000) 4) (.cn (.ld none (.v 4000) 5) (.cn (.upd none (.ld none (.v 4000) 6) (.ld none (.v 3) 1) 0 (.v 39)) (.cn (.ld none (.v 4000) 7) (.cn (.ld none (.v 4000) 8) (.cn (.ld none (.v 4000) 9) (.cn (.ld none (.v 4000) 10) (.cn (.slice 1 (.ld none (.v 4000) 11) .nl (.bin .sub (.len (.ld none (.v 4000) 11)) (.int .i64 1)) .nl) (.cn (.ld none (.v 4000) 12) (.cn (.ld none (.v 4000) 13) .nl))))))))))))))))]])
 (.seq
 (.st [.asg [(.bin .eql (.ld none (.v 3) 0) (.int .i64 6))] []])
 (.cond (.bin .eql (.ld none (.v 3) 0) (.int .i64 6))
 (.st [.call [] none 39 185 [(.lp (.cn (.ld none (.v 4000) 0) (.cn (.ld none (.v 4000) 1) (.cn (.ld none (.v 4000) 2) (.cn (.ld none (.v 4000) 3) (.cn (.ld none (.v 4000) 4) (.cn (.ld none (.v 4000) 5) (.cn (.ld none (.v 4000) 6) (.cn (.ld none (.v 4000) 7) (.cn (.ld none (.v 4000) 8) (.cn (.ld none (.v 4000) 9) (.cn (.ld none (.v 4000) 10) (.cn (.ld none (.v 4000) 11) (.cn (.ld none (.v 4000) 12) (.cn (.ld none (.v 4000) 13) .nl)))))))))))))))] [4000]])
 (.seq
 (.st [])
 (.cond (.v 4)
 (.st [.call [(.ld none (.ia 1 (.ld none (.v 4000) 6) (.ld none (.v 3) 1)) 0)] none 53 184 [(.lp (.cn (.ld none (.v 4000) 0) (.cn (.ld none (.v 4000) 1) (.cn (.ld none (.v 4000) 2) (.cn (.ld none (.v 4000) 3) (.cn (.ld none (.v 4000) 4) (.cn (.ld none (.v 4000) 5) (.cn (.ld none (.v 4000) 6) (.cn (.ld none (.v 4000) 7) (.cn (.ld none (.v 4000) 8) (.cn (.ld none (.v 4000) 9) (.cn (.ld none (.v 4000) 10) (.cn (.ld none (.v 4000) 11) (.cn (.ld none (.v 4000) 12) (.cn (.ld none (.v 4000) 13) .nl))))))))))))))),(.lst (.cn (.ld none (.ia 1 (.ld none (.v 4000) 6) (.ld none (.v 3) 1)) 0) .nl))] [4000]])
 (.st [.call [] none 16 184 [(.lp (.cn (.ld none (.v 4000) 0) (.cn (.ld none (.v 4000) 1) (.cn (.ld none (.v 4000) 2) (.cn (.ld none (.v 4000) 3) (.cn (.ld none (.v 4000) 4) (.cn (.ld none (.v 4000) 5) (.cn (.ld none (.v 4000) 6) (.cn (.ld none (.v 4000) 7) (.cn (.ld none (.v 4000) 8) (.cn (.ld none (.v 4000) 9) (.cn (.ld none (.v 4000) 10) (.cn (.ld none (.v 4000) 11) (.cn (.ld none (.v 4000) 12) (.cn (.ld none (.v 4000) 13) .nl))))))))))))))),(.lst (.cn (.int .i64 0) .nl))] [4000]])))))))))
 (.ret (.tup .nl) [(.lp (.cn (.ld none (.v 4000) 0) (.cn (.ld none (.v 4000) 1) (.cn (.ld none (.v 4000) 2) (.cn (.ld none (.v 4000) 3) (.cn (.ld none (.v 4000) 4) (.cn (.ld none (.v 4000) 5) (.cn (.ld none (.v 4000) 6) (.cn (.ld none (.v 4000) 7) (.cn (.ld none (.v 4000) 8) (.cn (.ld none (.v 4000) 9) (.cn (.ld none (.v 4000) 10) (.cn (.ld none (.v 4000) 11) (.cn (.ld none (.v 4000) 12) (.cn (.ld none (.v 4000) 13) .nl)))))))))))))))]))⟩
def pA:cZ:=.reg [io 2 (.mov (.c (.int .i64 0)))] false
def pB:cZ:=.reg [⟨(some 4),.mov (.t 0),none,[]⟩,⟨(some 5),.nilchk (.t 4),none,[0]⟩,⟨(some 6),.fieldAddr (.t 5) 11,none,[0,1]⟩,⟨(some 7),.load none (.t 6),none,[0,1,2]⟩,⟨(some 8),.mov (.t 0),none,[]⟩,⟨(some 9),.nilchk (.t 8),none,[4]⟩,⟨(some 10),.fieldAddr (.t 9) 11,none,[4,5]⟩,⟨(some 11),.load none (.t 10),none,[4,5,6]⟩,⟨(some 12),.len (.t 11),none,[4,5,6,7]⟩,⟨(some 13),.bin .sub (.t 12) (.c (.int .i64 1)),none,[4,5,6,7,8]⟩,⟨(some 14),.indexAddr 1 (.t 7) (.t 13),none,[0,1,2,3,4,5,6,7,8,9]⟩,⟨(some 15),.load none (.t 14),none,[0,1,2,3,4,5,6,7,8,9,10]⟩,⟨(some 3),.mov (.t 15),none,[0,1,2,3,4,5,6,7,8,9,10,11]⟩] true
def pC:cZ:=.reg [⟨(some 16),.mov (.t 0),none,[]⟩,⟨(some 17),.mov (.t 0),none,[]⟩,⟨(some 18),.nilchk (.t 17),none,[1]⟩,⟨(some 19),.fieldAddr (.t 18) 11,none,[1,2]⟩,⟨(some 20),.load none (.t 19),none,[1,2,3]⟩,⟨(some 21),.mov (.t 0),none,[]⟩,⟨(some 22),.nilchk (.t 21),none,[5]⟩,⟨(some 23),.fieldAddr (.t 22) 11,none,[5,6]⟩,⟨(some 24),.load none (.t 23),none,[5,6,7]⟩,⟨(some 25),.len (.t 24),none,[5,6,7,8]⟩,⟨(some 26),.bin .sub (.t 25) (.c (.int .i64 1)),none,[5,6,7,8,9]⟩,⟨(some 27),.slice 1 (.t 20) none (some (.t 26)) none,none,[1,2,3,4,5,6,7,8,9,10]⟩,⟨(some 28),.nilchk (.t 16),none,[0,1,2,3,4,5,6,7,8,9,10,11]⟩,⟨(some 29),.fieldAddr (.t 28) 11,none,[0,1,2,3,4,5,6,7,8,9,10,11,12]⟩,⟨none,.store none (.t 29) (.t 27),none,[0,1,2,3,4,5,6,7,8,9,10,11,12,13]⟩] true
def pD:cZ:=.reg [io 30 (.mov (.t 3)),io 2 (.mov (.t 30))] false
def vP:an:=⟨31,0,true,[true],[.tmp 2],(.seq pA (.seq pB (.seq pC (.seq pD .ret)))),none⟩
def gA:cZ:=.reg [io 3 (.box (some 2) (.t 1) 0)] false
def gB:cZ:=.reg [⟨(some 5),.fieldAddr (.t 3) 1,none,[]⟩,⟨(some 6),.load none (.t 5),none,[0]⟩,⟨(some 7),.mov (.t 0),none,[]⟩,⟨(some 8),.nilchk (.t 7),none,[2]⟩,⟨(some 9),.fieldAddr (.t 8) 6,none,[2,3]⟩,⟨(some 10),.fieldAddr (.t 9) 0,none,[2,3,4]⟩,⟨(some 11),.load none (.t 10),none,[2,3,4,5]⟩,⟨(some 12),.len (.t 11),none,[2,3,4,5,6]⟩,⟨(some 13),.bin .lss (.t 6) (.t 12),none,[0,1,2,3,4,5,6,7]⟩,⟨(some 4),.mov (.t 13),none,[0,1,2,3,4,5,6,7,8]⟩] true
def gC:cZ:=.reg [io 18 (.fieldAddr (.t 3) 0),io 19 (.load none (.t 18)),io 20 (.bin .eql (.t 19) (.c (.int .i64 6))),io 21 (.mov (.t 20)),⟨some 22,(.mov (.t 4)),some (21,true),[]⟩,io 23 (.pick (.t 21) (.t 22) (.c (.bool false))),io 17 (.mov (.t 23))] false
def gD:cZ:=.reg [⟨(some 24),.mov (.t 0),none,[]⟩,⟨(some 25),.nilchk (.t 24),none,[0]⟩,⟨(some 26),.fieldAddr (.t 25) 6,none,[0,1]⟩,⟨(some 27),.fieldAddr (.t 26) 0,none,[0,1,2]⟩,⟨(some 28),.load none (.t 27),none,[0,1,2,3]⟩,⟨(some 29),.fieldAddr (.t 3) 1,none,[]⟩,⟨(some 30),.load none (.t 29),none,[5]⟩,⟨(some 31),.mov (.t 0),none,[]⟩,⟨(some 32),.call 185 [(.t 31)] 1,none,[7]⟩,⟨(some 33),.indexAddr 1 (.t 28) (.t 30),none,[0,1,2,3,4,5,6,7,8]⟩,⟨none,.store none (.t 33) (.t 32),none,[0,1,2,3,4,5,6,7,8,9]⟩] true
def gE:cZ:=.reg [io 35 (.fieldAddr (.t 3) 0),io 36 (.load none (.t 35)),io 37 (.bin .eql (.t 36) (.c (.int .i64 6))),io 34 (.mov (.t 37))] false
def gF:cZ:=.reg [io 38 (.mov (.t 0)),io 39 (.call 185 [(.t 38)] 4)] false
def gG:cZ:=.reg [io 41 (.mov (.t 4)),io 40 (.mov (.t 41))] false
def gH:cZ:=.reg [⟨(some 42),.mov (.t 0),none,[]⟩,⟨(some 43),.mov (.t 0),none,[]⟩,⟨(some 44),.nilchk (.t 43),none,[1]⟩,⟨(some 45),.fieldAddr (.t 44) 6,none,[1,2]⟩,⟨(some 46),.fieldAddr (.t 45) 0,none,[1,2,3]⟩,⟨(some 47),.load none (.t 46),none,[1,2,3,4]⟩,⟨(some 48),.fieldAddr (.t 3) 1,none,[]⟩,⟨(some 49),.load none (.t 48),none,[6]⟩,⟨(some 50),.indexAddr 1 (.t 47) (.t 49),none,[1,2,3,4,5,6,7]⟩,⟨(some 51),.load none (.t 50),none,[1,2,3,4,5,6,7,8]⟩,⟨(some 52),.buildSlice none [(.t 51)] 7,none,[1,2,3,4,5,6,7,8,9]⟩,⟨(some 53),.call 184 [(.t 42),(.t 52)] 8,none,[0,1,2,3,4,5,6,7,8,9,10]⟩] true
def gI:cZ:=.reg [io 14 (.mov (.t 0)),io 15 (.buildSlice none [(.c (.int .i64 0))] 11),io 16 (.call 184 [(.t 14),(.t 15)] 12)] false
def C4:an:=⟨54,15,true,[true,true],[],(.seq gA (.seq gB (.block 0 (.seq gC (.cond (.t 17) gD (.seq gE (.cond (.t 34) gF (.seq gG (.cond (.t 40) gH gI))))))))),none⟩
theorem iT(cs:List PV):(PV.agg cs).cells=cs:=rfl
theorem Gx(r:ax)(v z o l m:Nat)(c:Bool):(PV.tok r v z o l m c).cells=[.tok r v z o l m c]:=rfl
section
variable{FT:Nat->Option an}{h:Heap}{fr:List PV}{n:Nat}
theorem Tj{cs:List PV}{b:Blk}{sz s off len room j:Nat}{c0:Bool}{el x:PV}(hl:fr.length=31)(t0:eO fr 0=.ptr (.a 0) 0 0 0)(hg:h.get (.a 0)=some ⟨0,some ⟨sz,[.agg cs],false⟩⟩)(hc:cs[11]?=some (.tok (.a s) 0 1 off len room c0))
  (hs:h.get (.a s)=some ⟨0,some b⟩)(hz:aI .sub .i64 (len:Int) .i64 1=some (.int .i64 (j:Nat)))(hj:j<len)(he:b.es[off+j]?=some el)(hx:el.cells[0]?=some x):
  ∃fr',bf FT (n+1) pB ⟨fr,h⟩=some (.norm,⟨fr',h⟩)/\fr'.length=31/\eO fr' 3=x/\eO fr' 0=eO fr 0:=by
 have hj':(j:Int)<(len:Int):=by omega
 refine⟨_,by simp[pB,bf,d8,bB,wanted,iA,PO.ev,aK,HM.runT,HM.bind,HM.ofO,cG,bd,hl,t0,hg,hs,fA,aU,gj,bM,iT,bC,hc,tn,Gv.bin,hz,az,hj',he,hx,ek,mh,jk,eS,iP];rfl,by simp[bd,hl],by simp[cG,bd,hl],by simp[cG,bd,hl]⟩
theorem Ts{cs:List PV}{sz s off len room j:Nat}{c0:Bool}(hl:fr.length=31)(t0:eO fr 0=.ptr (.a 0) 0 0 0)(hg:h.get (.a 0)=some ⟨0,some ⟨sz,[.agg cs],false⟩⟩)(hcl:cs.length=14)(hc:cs[11]?=some (.tok (.a s) 0 1 off len room c0))
  (hz:aI .sub .i64 (len:Int) .i64 1=some (.int .i64 (j:Nat)))(hj:j<len)(hr:len<=room):
  ∃fr',bf FT (n+1) pC ⟨fr,h⟩=some (.norm,⟨fr',h.put (.a 0) ⟨0,some ⟨sz,[.agg (cs.take 11++.tok (.a s) 0 1 off j room c0::cs.drop 12)],false⟩⟩⟩)/\fr'.length=31/\eO fr' 3=eO fr 3:=by
 have hj':(j:Int)<(len:Int):=by omega
 have hjr:j<=room:=by omega
 have h12:12<=cs.length:=by omega
 clear hcl;refine⟨_,by simp[pC,bf,d8,bB,wanted,iA,PO.ev,wJ,aK,HM.runT,HM.bind,HM.ofO,cG,bd,hl,t0,hg,fA,aU,gj,bM,iT,bC,hc,h12,tn,Gv.bin,hz,dd,gM,tO,PV.isStr,aO,mL,hjr,eW,PV.fits,Gx,ak,PV.isCell,PV.withCells,ek,mh,jk,eS,iP];rfl,by simp[bd,hl],by simp[cG,bd,hl]⟩
theorem Tm(hl:fr.length=31):∃fr',bf FT (n+1) pD ⟨fr,h⟩=some (.norm,⟨fr',h⟩)/\eO fr' 2=eO fr 3:=by
 refine⟨_,by simp[pD,io,bf,fK,gb,wanted,iA,PO.ev,aK,HM.run,cG,hl];rfl,by simp[cG,bd,hl]⟩
theorem Tx(hl:fr.length=31):∃fr',bf FT (n+1) pA ⟨fr,h⟩=some (.norm,⟨fr',h⟩)/\fr'.length=31/\eO fr' 0=eO fr 0:=by
 refine⟨_,by simp[pA,io,bf,fK,gb,wanted,iA,PO.ev,aK,HM.run];rfl,by simp[bd,hl],by simp[cG,hl]⟩
theorem MQ{cs:List PV}{b:Blk}{sz s off len room j:Nat}{c0:Bool}{el x:PV}(hl:fr.length=31)(t0:eO fr 0=.ptr (.a 0) 0 0 0)(hg:h.get (.a 0)=some ⟨0,some ⟨sz,[.agg cs],false⟩⟩)(hcl:cs.length=14)(hc:cs[11]?=some (.tok (.a s) 0 1 off len room c0))
  (hs:h.get (.a s)=some ⟨0,some b⟩)(hz:aI .sub .i64 (len:Int) .i64 1=some (.int .i64 (j:Nat)))(hj:j<len)(hr:len<=room)(he:b.es[off+j]?=some el)(hx:el.cells[0]?=some x):
  ∃fr',bf FT (n+6) vP.body ⟨fr,h⟩=some (.ret,⟨fr',h.put (.a 0) ⟨0,some ⟨sz,[.agg (cs.take 11++.tok (.a s) 0 1 off j room c0::cs.drop 12)],false⟩⟩⟩)/\eO fr' 2=x:=by
 obtain⟨f1,a1,l1,z1⟩:=Tx (FT:=FT) (h:=h) (n:=n+4) hl;obtain⟨f2,a2,l2,x2,z2⟩:=Tj (FT:=FT) (h:=h) (n:=n+3) l1 (z1.trans t0) hg hc hs hz hj he hx;obtain⟨f3,a3,l3,x3⟩:=Ts (FT:=FT) (h:=h) (n:=n+2) l2 (z2.trans (z1.trans t0)) hg hcl hc hz hj hr;obtain⟨f4,a4,x4⟩:=Tm (FT:=FT) (h:=h.put (.a 0) ⟨0,some ⟨sz,[.agg (cs.take 11++.tok (.a s) 0 1 off j room c0::cs.drop 12)],false⟩⟩) (n:=n+1) l3;exact⟨f4,jd a1 (jd a2 (jd a3 (jd a4 FC))),by rw[x4,x3,x2]⟩
end
mutual
theorem Gf{f:ax->Nat->Option (ax×Nat)}(hf:∀i v,f (.a i) v=some (.a i,v)):∀x:PV,(∀q∈cV x,∃i,q.1=.a i)->ren f x=x
 |.tok r v z o l m c,h=>by obtain⟨i,hi⟩:=h (r,v) (by simp[cV]);simp only at hi;subst hi;simp only[ren,hf]
 |.ptr r v i o,h=>by obtain⟨k,hi⟩:=h (r,v) (by simp[cV]);simp only at hi;subst hi;simp only[ren,hf]
 |.agg cs,h=>by simp only[ren,qy hf cs (λq hq=>h q (by simpa[cV]using hq))]
 |.tup cs,h=>by simp only[ren,qy hf cs (λq hq=>h q (by simpa[cV]using hq))]
 |.fn g cs,h=>by simp only[ren,qy hf cs (λq hq=>h q (by simpa[cV]using hq))]
 |.int ..,_=>rfl
 |.bool _,_=>rfl
 |.str _,_=>rfl
 |.nilp,_=>rfl
 |.nils,_=>rfl
 |.nilfn,_=>rfl
 |.lst ..,_=>rfl
 |.lptr _,_=>rfl
 |.junk,_=>rfl
theorem qy{f:ax->Nat->Option (ax×Nat)}(hf:∀i v,f (.a i) v=some (.a i,v)):∀x:List PV,(∀q∈aM x,∃i,q.1=.a i)->bH f x=x
 |[],_=>rfl
 |x::xs,h=>by
  simp only[bH,Gf hf x (λq hq=>h q (by simp[aM,hq])),qy hf xs (λq hq=>h q (by simp[aM,hq]))]
end
theorem wM:∀{l:List (ax×Nat)}{n:Nat}{acc:List (ax×Nat×Blk)}{h:Heap},(∀q∈l,∃i,q.1=.a i)->l.length<n->(cL n l acc).run h=some (acc,h)
 |[],n+1,acc,h,_,_=>by rw[cL];rfl
 |(r,v)::l,n+1,acc,h,hA,hl=>by
  obtain⟨i,hi⟩:=hA (r,v) (TQ ..);simp only at hi;subst hi;rw[cL];exact wM (λq hq=>hA q (TG _ hq)) (by simp at hl;omega)
theorem yh{f:ax->Nat->Option (ax×Nat)}(hf:∀i v,f (.a i) v=some (.a i,v)):∀{l:List (Option Blk)},(∀q∈bp l,∃i,q.1=.a i)->l.map (λb=>match b with|some b=>some (b.ren f)|none=>none)=l
 |[],_=>rfl
 |none::l,h=>by rw[TW,yh hf (λq hq=>h q (by simpa[bp]using hq))]
 |some x::l,h=>by
  rw[TW,yh hf (λq hq=>h q (by simp[bp,hq]))];have:=qy hf x.es (λq hq=>h q (by simp[bp,hq]));cases x;simp only[Blk.ren]at this⊢;rw[this]
theorem Dq{F:an}{m:Nat}{fr:List PV}{h:Heap}{vs:List PV}{r:PV}(hz:F.frz=true)(hr:(l8 fr F.res).run h=some (vs,h))(ho:one vs=r)(hfr:bv 9 r=.ret r)(ht:cV r=[])(hm:h.A.length=m)
  (hA:∀q∈bp h.A,∃i,q.1=.a i)(hl:(bp h.A).length<99):(mq F m fr).run h=some ((r,h.A),h):=by
 have ha:(i9 m 0).run h=some (h.A,h):=by
  rw[zw _ (by omega)];simp[<-hm]
 unfold mq;rw[HM.run_bind,hr];simp only[hz,TY,ho,hfr];rw[HM.run_bind];simp only[HM.run];rw[HM.run_bind,ha];simp only;rw[HM.run_bind,ht,TL,wM hA hl];simp only[HM.run,UW,T6,Ty,TH,U6];exact⟨Gf (λi v=>rfl) r (λq hq=>by rw[ht]at hq;cases hq),yh (λi v=>rfl) hA⟩
theorem xJ{cs:List PV}{t t':PV}(hc:cs[11]?=some t)(ht:cV t'=cV t):aM (cs.take 11++t'::cs.drop 12)=aM cs:=by
 have hlt:11<cs.length:=(List.getElem?_eq_some_iff.mp hc).1;have e:cs=cs.take 11++t::cs.drop 12:=by
  have h1:cs[11]=t:=(List.getElem?_eq_some_iff.mp hc).2;rw[<-h1,<-List.drop_eq_getElem_cons hlt,Vt]
 conv=>rhs;rw[e]
 rw[zL,zL];simp only[aM,ht]
theorem Kc{FT:Nat->Option an}{f n:Nat}(hF:FT f=some vP){G:List Blk}{cs:List PV}{b:Blk}{sz s off len room j:Nat}{c0:Bool}{el x:PV}(hcl:cs.length=14)(hc:cs[11]?=some (.tok (.a s) 0 1 off len room c0))
  (hs:G[s]?=some b)(hs0:s≠0)(hz:aI .sub .i64 (len:Int) .i64 1=some (.int .i64 (j:Nat)))(hj:j<len)(hr:len<=room)(he:b.es[off+j]?=some el)(hx:el.cells[0]?=some x)(hpx:pl x=true)(h0:G[0]?=some ⟨sz,[.agg cs],false⟩)
  (hA:∀q∈bp (G.map some),∃i,q.1=.a i)(hAl:(bp (G.map some)).length<99):
  bi FT (n+7) f [.ptr (.a 0) 0 0 0] G=some (x,(G.map some).set 0 (some ⟨sz,[.agg (cs.take 11++.tok (.a s) 0 1 off j room c0::cs.drop 12)],false⟩)):=by
 rw[bi.eq_def];simp only[hF];have hi:vP.intr=none:=rfl;rw[hi];simp only;obtain⟨h,hh⟩:∃h,h=(⟨G.map some,[]⟩:Heap):=⟨_,rfl⟩;have hst:(⟨[PV.ptr (.a 0) 0 0 0]++List.replicate (vP.ntmps-[PV.ptr (.a 0) 0 0 0].length) PV.junk,⟨G.map some,List.replicate vP.nslots ⟨0,none⟩⟩⟩:St)=⟨[PV.ptr (.a 0) 0 0 0]++List.replicate 30 PV.junk,h⟩:=by rw[hh];rfl
 rw[hst];have g0:h.get (.a 0)=some ⟨0,some ⟨sz,[.agg cs],false⟩⟩:=by rw[hh];simp[Heap.get,h0]
 have gs:h.get (.a s)=some ⟨0,some b⟩:=by rw[hh];simp[Heap.get,hs]
 obtain⟨fr',e1,e2⟩:=MQ (FT:=FT) (n:=n) (fr:=[PV.ptr (.a 0) 0 0 0]++List.replicate 30 PV.junk) (h:=h) (by simp) rfl g0 hcl hc gs hz hj hr he hx;rw[e1];simp only;have hset:(h.put (.a 0) ⟨0,some ⟨sz,[.agg (cs.take 11++.tok (.a s) 0 1 off j room c0::cs.drop 12)],false⟩⟩).A=(G.map some).set 0 (some ⟨sz,[.agg (cs.take 11++.tok (.a s) 0 1 off j room c0::cs.drop 12)],false⟩):=by rw[hh];rfl
 have hbt:bp ((G.map some).set 0 (some ⟨sz,[.agg (cs.take 11++.tok (.a s) 0 1 off j room c0::cs.drop 12)],false⟩))=bp (G.map some):=by
  cases G with
  |nil=>simp at h0
  |cons g G=>
   simp only[TM,Ty]at h0;subst h0;simp only[TW,List.set_cons_zero,bp,aM,cV,T6];rw[xJ (t':=.tok (.a s) 0 1 off j room c0) hc rfl]
 rw[Dq (F:=vP) (vs:=[x]) (r:=x) rfl (by simp only[vP,l8,HM.bind,HM.run,e2]) rfl (kw hpx 7) (mH hpx λ_ _=>none).2 (by rw[hset];simp) (by rw[hset,hbt];exact hA) (by rw[hset,hbt];exact hAl)];simp only[hset]
def Hu(f:ax->Nat->Option (ax×Nat))(q:ax×Nat):ax×Nat:=(f q.1 q.2).getD (.dead,0)
mutual
theorem Jp(f:ax->Nat->Option (ax×Nat)):∀x:PV,cV (ren f x)=(cV x).map (Hu f)
 |.tok r v z o l m c=>by
  simp only[ren,cV,TW,UW,Hu];cases f r v with
  |none=>rfl
  |some p=>rfl
 |.ptr r v i o=>by
  simp only[ren,cV,TW,UW,Hu];cases f r v with
  |none=>rfl
  |some p=>rfl
 |.agg cs=>by simp only[ren,cV,ol f cs]
 |.tup cs=>by simp only[ren,cV,ol f cs]
 |.fn g cs=>by simp only[ren,cV,ol f cs]
 |.int .. =>rfl
 |.bool _=>rfl
 |.str _=>rfl
 |.nilp=>rfl
 |.nils=>rfl
 |.nilfn=>rfl
 |.lst .. =>rfl
 |.lptr _=>rfl
 |.junk=>rfl
theorem ol(f:ax->Nat->Option (ax×Nat)):∀x:List PV,aM (bH f x)=(aM x).map (Hu f)
 |[]=>rfl
 |x::xs=>by simp only[bH,aM,Jp f x,ol f xs,U1]
end
mutual
theorem JX{f g:ax->Nat->Option (ax×Nat)}:∀x:PV,(∀q∈cV x,∃p,f q.1 q.2=some p/\g p.1 p.2=some q)->ren g (ren f x)=x
 |.tok r v z o l m c,h=>by
  obtain⟨p,h1,h2⟩:=h (r,v) (by simp[cV]);simp only at h1;simp only[ren,h1,h2]
 |.ptr r v i o,h=>by
  obtain⟨p,h1,h2⟩:=h (r,v) (by simp[cV]);simp only at h1;simp only[ren,h1,h2]
 |.agg cs,h=>by simp only[ren,nT cs (λq hq=>h q (by simpa[cV]using hq))]
 |.tup cs,h=>by simp only[ren,nT cs (λq hq=>h q (by simpa[cV]using hq))]
 |.fn k cs,h=>by simp only[ren,nT cs (λq hq=>h q (by simpa[cV]using hq))]
 |.int ..,_=>rfl
 |.bool _,_=>rfl
 |.str _,_=>rfl
 |.nilp,_=>rfl
 |.nils,_=>rfl
 |.nilfn,_=>rfl
 |.lst ..,_=>rfl
 |.lptr _,_=>rfl
 |.junk,_=>rfl
theorem nT{f g:ax->Nat->Option (ax×Nat)}:∀x:List PV,(∀q∈aM x,∃p,f q.1 q.2=some p/\g p.1 p.2=some q)->bH g (bH f x)=x
 |[],_=>rfl
 |x::xs,h=>by
  simp only[bH,JX x (λq hq=>h q (by simp[aM,hq])),nT xs (λq hq=>h q (by simp[aM,hq]))]
end
section
variable{h:Heap}{D:List (Nat×Blk)}
def kg(D:List (Nat×Blk)):List B3:=D.map λp=>(.a p.1,0,p.2)
def DC(D:List (Nat×Blk)):List (ax×Nat):=D.map λp=>(.a p.1,0)
theorem zY:∀{D:List (Nat×Blk)}{n:Nat}{acc:List B3},D.length<n->(∀p∈D,h.get (.a p.1)=some ⟨0,some p.2⟩/\cg p.2.es=true)->(∀p∈D,∀y∈acc,y.1≠ .a p.1)->(D.map Prod.fst).Nodup->
  ∃R,(ew n (DC D) acc).runT h=some (acc++kg D,h,R,[])
 |[],n+1,acc,_,_,_,_=>⟨[],by simp[DC,kg,ew,HM.runT]⟩
 | (i,b)::D,n+1,acc,hl,hg,hn,hd=>by
  obtain⟨g1,g2⟩:=hg (i,b) (TQ ..);simp only at g1 g2;simp only[TW,U5]at hd;have hany:acc.any (λx=>x.1== .a i&&x.2.1==0)=false:=by
   rw[List.any_eq_false];intro y hy;have:=hn (i,b) (TQ ..) y hy;simp only at this;simp[this]
  obtain⟨R,hR⟩:=zY (D:=D) (n:=n) (acc:=acc++[(.a i,0,b)]) (by simp at hl;omega) (λp hp=>hg p (TG _ hp)) (λp hp y hy=>by
   rcases List.mem_append.1 hy with hy|hy
   ·exact hn p (TG _ hp) y hy
   ·simp only[T1]at hy;subst hy;simp only[ne_eq,ax.a.injEq]
    exactλe=>hd.1 (by rw[e];exact Uo hp)) hd.2
  refine⟨.a i::R,?_⟩;simp only[DC,TW,ew,hany,T4,TU,reduceCtorEq,HM.runT,g1,TY,ib g2,T6];simp only[DC]at hR;rw[hR];simp[kg]
theorem Mm:∀{D:List (Nat×Blk)}{k m:Nat}{p:Nat×Blk},D[k]?=some p->(D.map Prod.fst).Nodup->fq (.a p.1) 0 (kg D) m=some (m+k)
 |[],k,m,p,h,_=>by simp at h
 |(i,b)::D,0,m,p,h,_=>by
  simp only[TM,Ty]at h;subst h;simp[kg,fq]
 |(i,b)::D,k+1,m,p,h,hd=>by
  simp only[TW,U5]at hd;simp only[Uw]at h;have hne:¬i=p.1:=λe=>hd.1 (by rw[e];exact Uo (TC h));have:=Mm (m:=m+1) h hd.2;simp only[kg]at this;simp only[kg,TW,fq,ax.a.injEq,hne,Vg,TU,this];congr 1;omega
end
theorem uy{b:Blk}(h:cg b.es=true)(f:ax->Nat->Option (ax×Nat)):b.ren f=b:=LS h f
theorem Jk{FT:Nat->Option an}{n:Nat}(hF:FT 185=some vP){h:Heap}{k p11 sz:Nat}{cs:List PV}{D:List (Nat×Blk)}{b:Blk}{off len room j:Nat}{c0:Bool}{el x:PV}
  (hg:h.get (.a k)=some ⟨0,some ⟨sz,[.agg cs],false⟩⟩)(hcl:cs.length=14)(hc:cs[11]?=some (.tok (.a p11) 0 1 off len room c0))(hT:aM cs=DC D)(hDg:∀p∈D,h.get (.a p.1)=some ⟨0,some p.2⟩/\cg p.2.es=true)
  (hnd:(k::D.map Prod.fst).Nodup)(hDl:D.length<20)(hD1:D[1]?=some (p11,b))(hz:aI .sub .i64 (len:Int) .i64 1=some (.int .i64 (j:Nat)))(hj:j<len)(hr:len<=room)(he:b.es[off+j]?=some el)(hx:el.cells[0]?=some x)(hpx:pl x=true):
  ∃h2 R W,(fm (bi FT (n+7)) [true] 185 [.ptr (.a k) 0 0 0] 1).runT h=some (x,h2,R,W)/\h2.get (.a k)=some ⟨0,some ⟨sz,[.agg (cs.take 11++.tok (.a p11) 0 1 off j room c0::cs.drop 12)],false⟩⟩/\(∀q,q≠ .a k->h2.get q=h.get q)/\h2.L.length=h.L.length/\h2.A.length=h.A.length/\(∀q∈W,∃i,q=.a i):=by
 obtain⟨E,hE⟩:∃E:List (Nat×Blk),E=(k,⟨sz,[.agg cs],false⟩)::D:=⟨_,rfl⟩;have hnE:(E.map Prod.fst).Nodup:=by rw[hE];exact hnd
 rw[U5]at hnd;have hc1:∃R,(ew 99 (aM [.ptr (.a k) 0 0 0]) []).runT h=some (kg E,h,R,[]):=by
  obtain⟨R,hR⟩:=zY (h:=h) (D:=D) (n:=98) (acc:=[(.a k,0,⟨sz,[.agg cs],false⟩)]) (by omega) hDg (λp hp y hy=>by
   simp only[T1]at hy;subst hy;simp only[ne_eq,ax.a.injEq]
   exactλe=>hnd.1 (by rw[e];exact Uo hp)) hnd.2
  refine⟨.a k::R,?_⟩;simp only[aM,cV,TL,T6,ew,List.any_nil,T4,TU,reduceCtorEq,HM.runT,hg,TY];rw[hT,hR,hE];simp[kg]
 obtain⟨R,hc1⟩:=hc1;have hfw:∀(i:Nat)(p:Nat×Blk),E[i]?=some p->bI (kg E) (.a p.1) 0=some (.a i,0):=λi p hp=>by
  simp only[bI,Mm hp hnE,Up]
 have hbk:∀(i:Nat)(p:Nat×Blk)(v:Nat),E[i]?=some p->ce (kg E) 1 [] (.a i) v=some (.a p.1,0):=λi p v hp=>by
  simp[ce,kg,TR,hp]
 have hto:∀q∈aM cs,∃(i:Nat)(p:Nat×Blk),E[i]?=some p/\q=(.a p.1,0):=λq hq=>by
  rw[hT]at hq;obtain⟨p,hp,e⟩:=List.mem_map.1 hq;obtain⟨i,hi⟩:=UP hp;exact⟨i+1,p,by rw[hE];simpa using hi,e.symm⟩
 have hfb:bH (ce (kg E) 1 []) (bH (bI (kg E)) cs)=cs:=nT cs λq hq=>by
  obtain⟨i,p,hp,rfl⟩:=hto q hq;exact⟨_,hfw i p hp,hbk i p 0 hp⟩
 obtain⟨G,hG⟩:∃G,G=(kg E).map λx=>x.2.2.ren (bI (kg E)):=⟨_,rfl⟩;have hG0:G[0]?=some ⟨sz,[.agg (bH (bI (kg E)) cs)],false⟩:=by rw[hG,hE];simp[kg,Blk.ren,bH,ren]
 have hGi:∀(i:Nat)(p:Nat×Blk),D[i]?=some p->G[i+1]?=some p.2:=λi p hp=>by
  rw[hG,hE];simp only[kg,TW,Uw,List.map_map,TR,hp,TT,Function.comp];rw[uy (hDg p (TC hp)).2]
 have hbt:bp (G.map some)=(aM cs).map (Hu (bI (kg E))):=by
  have:∀l:List (Nat×Blk),(∀p∈l,cg p.2.es=true)->bp (((kg l).map λx=>x.2.2.ren (bI (kg E))).map some)=[]:=λl=>by
   induction l with
   |nil=>intro _;rfl
   |cons p l ih=>
    intro hp;have h1:=ih λq hq=>hp q (TG _ hq);simp only[kg,TW]at h1⊢;rw[bp,uy (hp p (TQ ..)),ib (hp p (TQ ..)),TL];exact h1
  rw[hG];have e:kg E=(.a k,0,⟨sz,[.agg cs],false⟩)::kg D:=by rw[hE];rfl
  have h2:=this D λp hp=>(hDg p hp).2;rw[<-ol]
  conv=>lhs;arg 1;arg 2;arg 2;rw[e]
  rw[TW,TW,bp,h2];simp only[T6,Blk.ren,bH,ren,aM,cV]
 have run:=Kc (FT:=FT) (f:=185) (n:=n) hF (G:=G) (cs:=bH (bI (kg E)) cs) (b:=b) (sz:=sz) (s:=2) (off:=off) (len:=len) (room:=room) (j:=j) (c0:=c0) (el:=el) (x:=x)
  (by rw[dq,Uk,hcl]) (by rw[dq,TR,hc];simp only[TT,ren];have:=hfw 2 (p11,b) (by rw[hE];simpa using hD1);simp only at this;rw[this])
  (hGi 1 (p11,b) hD1) (by decide) hz hj hr he hx hpx hG0
  (by rw[hbt];intro q hq;obtain⟨q0,h0,rfl⟩:=List.mem_map.1 hq;obtain⟨i,p,hp,rfl⟩:=hto q0 h0;exact⟨i,by simp only[Hu,hfw i p hp,TS]⟩)
  (by rw[hbt,Uk,hT];simp only[DC,Uk];omega)
 obtain⟨G',hG'⟩:∃G',G'=(G.map some).set 0 (some ⟨sz,[.agg ((bH (bI (kg E)) cs).take 11++.tok (.a 2) 0 1 off j room c0::(bH (bI (kg E)) cs).drop 12)],false⟩):=⟨_,rfl⟩;rw[<-hG']at run;have hGl:G.length=(kg E).length:=by rw[hG];simp
 have hGl':G'.length=(kg E).length:=by rw[hG'];simp[hGl]
 have hEl:(kg E).length=E.length:=by simp[kg]
 obtain⟨h2,W,k1,k2,k3,k4,k5,k6⟩:=qa (ce (kg E) 1 []) (kg E) G' (h:=h) hGl'.symm
  (by
   rw[List.nodup_iff_pairwise_ne,List.pairwise_map]at hnE;simp only[kg,List.pairwise_map];exact hnE.imp λh=>by simpa using h)
  (λy hy=>by
   obtain⟨p,hp,rfl⟩:=List.mem_map.1 hy;rw[hE]at hp;rcases List.mem_cons.1 hp with rfl|hp
   ·exact⟨_,hg⟩
   ·exact⟨_,(hDg p hp).1⟩)
 have hdead:∀{i:Nat}{p:Nat×Blk},E[i]?=some p->(kg E)[i]?=some (.a p.1,0,p.2):=λhp=>by simp[kg,TR,hp]
 refine⟨h2,R,W,?_,?_,λq hq=>?_,k4,k5,λq hq=>?_⟩
 ·unfold fm;have hro:eM [true] [PV.ptr (.a k) 0 0 0]=.ret ([PV.ptr (.a k) 0 0 0],[]):=rfl;rw[hro];simp only[HM.bind];have hm:kf [] (kg E)=false:=rfl;have hargs:bH (bI (kg E)) [PV.ptr (.a k) 0 0 0]=[PV.ptr (.a 0) 0 0 0]:=by
   have:=hfw 0 (k,⟨sz,[.agg cs],false⟩) (by rw[hE];rfl);simp only at this;simp only[bH,ren,this]
  have h3:(ot (kg E) [] 1 x G').runT h=some (x,h2,[],W):=by
   unfold ot;have hif:(if lM (kg E) x G' then HM.ret ()else p6 [])=HM.ret ():=by split<;>rfl
   have ht:G'.take (kg E).length=G':=by rw[UB (by omega)]
   have hd:G'.drop (kg E).length=[]:=by rw[Vo (by omega)]
   rw[hif,hGl',Nat.sub_self,ht,hd];simp only[HM.bind,oH];have:=HM.runT_bind_of (f:=λ_=>(jJ (ce (kg E) 1 []) 1 [] []).bind λ_=>.ret (ren (ce (kg E) 1 []) x)) (h2:=h2) (b:=x) (R2:=[]) (W2:=[]) k1 (by simp[jJ,HM.bind,HM.runT,(mH hpx _).1]);simpa using this
  rw[HM.runT_bind,hc1];simp only[hm,T4,TU,hargs,<-hG,run,h3,T6,TL]
 ·have hlt:0<G.length:=by rw[hGl,hEl,hE];simp
  have:=k2 0 _ (some ⟨sz,[.agg ((bH (bI (kg E)) cs).take 11++.tok (.a 2) 0 1 off j room c0::(bH (bI (kg E)) cs).drop 12)],false⟩) (hdead (i:=0) (p:=(k,⟨sz,[.agg cs],false⟩)) (by rw[hE];rfl)) (by rw[hG',Ul (by rw[Uk];exact hlt)]);simp only at this;rw[this];have hb2:ce (kg E) 1 [] (.a 2) 0=some (.a p11,0):=hbk 2 (p11,b) 0 (by rw[hE];simpa using hD1);have hcs:bH (ce (kg E) 1 []) ((bH (bI (kg E)) cs).take 11++.tok (.a 2) 0 1 off j room c0::(bH (bI (kg E)) cs).drop 12)=cs.take 11++.tok (.a p11) 0 1 off j room c0::cs.drop 12:=by
   rw[dq,U1,TW,List.map_take,List.map_drop,<-dq,hfb];simp only[ren,hb2]
  simp only[TT,Blk.ren,bH,ren,hcs]
 ·by_cases hin:∃y∈kg E,y.1=q
  ·obtain⟨y,hy,rfl⟩:=hin;obtain⟨i,hi⟩:=UP hy;obtain⟨p,hp,hpe⟩:=List.mem_map.1 hy;obtain⟨i,hi⟩:=UP hp;cases i with
   |zero=>
    rw[hE]at hi;simp only[TM,Ty]at hi;subst hi;subst hpe;exact absurd rfl hq
   |succ i=>
    have hi2:D[i]?=some p:=by rw[hE]at hi;simpa using hi
    have hgi:=hGi i p hi2;have:=k2 (i+1) _ (some p.2) (hdead hi) (by rw[hG',UC (by omega),TR,hgi];rfl);subst hpe;obtain⟨d1,d2⟩:=hDg p (TC hi2);simp only at this⊢;rw[this,d1,TT,uy d2]
  ·exact k3 q λy hy e=>hin ⟨y,hy,e⟩
 ·obtain⟨_,y,hy,rfl⟩:=k6 q hq;obtain⟨p,_,rfl⟩:=List.mem_map.1 hy;exact⟨p.1,rfl⟩
section
variable{FT:Nat->Option an}{h:Heap}{fr:List PV}{n:Nat}
theorem rX{x:PV}(h:x.isCell=true):x.cells=[x]:=by cases x<;>simp[PV.isCell]at h<;>rfl
theorem GV{x:PV}(h:x.isCell=true):x.fits none=true:=by cases x<;>simp[PV.isCell]at h<;>rfl
theorem GO(c:JU):iP c []=true:=rfl
theorem Tk{a:Int}(hl:fr.length=54)(t1:eO fr 1=.agg [.int .i64 6,.int .i64 a])(hg:h.get (.l 0)=some ⟨0,none⟩):
  ∃fr',bf FT (n+1) gA ⟨fr,h⟩=some (.norm,⟨fr',h.put (.l 0) ⟨1,some ⟨2,[.agg [.int .i64 6,.int .i64 a]],false⟩⟩⟩)/\fr'.length=54/\eO fr' 0=eO fr 0/\eO fr' 3=.ptr (.l 0) 1 0 0:=by
 refine⟨_,by simp[gA,io,bf,fK,gb,wanted,iA,PO.ev,aK,w9,PV.fits,iT,ak,PV.isCell,eX,HM.bind,HM.run,hg,t1];rfl,by simp[bd,hl],by simp[cG,hl],by simp[cG,hl]⟩
theorem Tg{cs:List PV}{k sz p off len room a:Nat}{c0:Bool}(hl:fr.length=54)(t0:eO fr 0=.ptr (.a k) 0 0 0)(t3:eO fr 3=.ptr (.l 0) 1 0 0)(hg:h.get (.a k)=some ⟨0,some ⟨sz,[.agg cs],false⟩⟩)(hc:cs[6]?=some (.tok (.a p) 0 1 off len room c0))
  (hb:h.get (.l 0)=some ⟨1,some ⟨2,[.agg [.int .i64 6,.int .i64 (a:Nat)]],false⟩⟩)(ha:a<len):
  ∃fr',bf FT (n+1) gB ⟨fr,h⟩=some (.norm,⟨fr',h⟩)/\fr'.length=54/\eO fr' 0=eO fr 0/\eO fr' 3=eO fr 3/\eO fr' 4=.bool true:=by
 have ha':(a:Int)<(len:Int):=by omega
 refine⟨_,by simp[gB,bf,d8,bB,wanted,iA,PO.ev,aK,HM.runT,HM.bind,HM.ofO,cG,bd,hl,t0,t3,hg,hb,fA,aU,gj,bM,iT,bC,hc,tn,Gv.bin,aI,ha',ek,mh,jk,eS,iP];rfl,by simp[bd,hl],by simp[cG,bd,hl],by simp[cG,bd,hl],by simp[cG,bd,hl]⟩
theorem Tu{v:PV}(hl:fr.length=54)(t3:eO fr 3=.ptr (.l 0) 1 0 0)(t4:eO fr 4=.bool true)(hb:h.get (.l 0)=some ⟨1,some ⟨2,[.agg [.int .i64 6,v]],false⟩⟩):
  ∃fr',bf FT (n+1) gC ⟨fr,h⟩=some (.norm,⟨fr',h⟩)/\fr'.length=54/\eO fr' 0=eO fr 0/\eO fr' 3=eO fr 3/\eO fr' 17=.bool true:=by
 refine⟨_,by simp[gC,io,bf,fK,gb,wanted,iA,PO.ev,aK,HM.run,HM.bind,HM.ofO,cG,bd,hl,t3,t4,hb,aU,gj,bM,iT,bC,Gv.bin,aI,uG];rfl,by simp[bd,hl],by simp[cG,bd,hl],by simp[cG,bd,hl],by simp[cG,bd,hl]⟩
theorem Tp{cs cs':List PV}{k sz p off len room a:Nat}{c0:Bool}{b:Blk}{el x:PV}{h2:Heap}{R W:List ax}(hF:FT 185=some vP)(hl:fr.length=54)(t0:eO fr 0=.ptr (.a k) 0 0 0)(t3:eO fr 3=.ptr (.l 0) 1 0 0)
  (hg:h.get (.a k)=some ⟨0,some ⟨sz,[.agg cs],false⟩⟩)(hc:cs[6]?=some (.tok (.a p) 0 1 off len room c0))(hb:h.get (.l 0)=some ⟨1,some ⟨2,[.agg [.int .i64 6,.int .i64 (a:Nat)]],false⟩⟩)(ha:a<len)
  (hcall:(fm (bi FT n) [true] 185 [.ptr (.a k) 0 0 0] 1).runT h=some (x,h2,R,W))(h2k:h2.get (.a k)=some ⟨0,some ⟨sz,[.agg cs'],false⟩⟩)(hc':cs'[6]?=some (.tok (.a p) 0 1 off len room c0))(hW:∀q∈W,∃i,q=.a i)(h2l:h2.get (.l 0)=h.get (.l 0))
  (hp:h2.get (.a p)=some ⟨0,some b⟩)(hro:b.ro=false)(hx:x.isCell=true)(hel:b.es[off+a]?=some el)(hcl:el.cells.length=1):
  ∃fr',bf FT (n+1) gD ⟨fr,h⟩=some (.norm,⟨fr',h2.put (.a p) ⟨0,some ⟨b.sz,b.es.set (off+a) (el.withCells [x]),false⟩⟩⟩):=by
 have ha':(a:Int)<(len:Int):=by omega
 have cl1:iP ⟨.a k,0,0,6,none⟩ (W.map λr=>(r,h.get r,h2.get r))=true:=by
  simp only[iP,List.all_map,Ut];intro q hq;by_cases e:q=.a k
  ·subst e;simp[hg,h2k,qF,iT,bC,hc,hc',Qk]
  ·simp[e]
 have cl2:iP ⟨.l 0,1,0,1,none⟩ (W.map λr=>(r,h.get r,h2.get r))=true:=by
  simp only[iP,List.all_map,Ut];intro q hq;obtain⟨i,rfl⟩:=hW q hq;simp
 have hd:el.cells.tail=[]:=by rw[<-List.drop_one,Vo (by omega)]
 refine⟨_,by simp[gD,bf,d8,bB,wanted,iA,PO.ev,lT,aK,HM.runT,HM.bind,HM.ofO,cG,bd,hl,t0,t3,hg,hb,fA,aU,gj,bM,iT,bC,hc,hF,vP,hcall,az,ha',eW,hp,hel,GV hx,rX hx,ak,hx,hcl,hro,hd,ek,mh,jk,eS,cl1,cl2,GO];rfl⟩
theorem Gn{c:cZ}{i:Nat}{σ σ':St}(hc:bf FT n c σ=some (.norm,σ')):bf FT (n+1) (.block i c) σ=some (.norm,σ'):=by
 rw[bf.eq_def];simp only;rw[hc]
end
theorem qe:∀{l:List (Option Blk)}{k:Nat}{b:Blk},l[k]?=some (some b)->(∀(i:Nat)(x:Blk),i≠k->l[i]?=some (some x)->cg x.es=true)->bp l=aM b.es
 |[],k,b,h,_=>by simp at h
 | y::l,0,b,h,H=>by
  simp only[TM,Ty]at h;subst h;have:bp l=[]:=(sC λz hz x hx=>by
   obtain⟨i,hi⟩:=UP hz;subst hx;exact H (i+1) x (by omega) (by simpa using hi)).1
  simp only[bp,this,T6]
 |none::l,k+1,b,h,H=>by
  simp only[bp];exact qe (by simpa using h) λi x hi hx=>H (i+1) x (by omega) (by simpa using hx)
 |some z::l,k+1,b,h,H=>by
  have hz:=H 0 z (by omega) rfl;simp only[bp,ib hz,TL];exact qe (by simpa using h) λi x hi hx=>H (i+1) x (by omega) (by simpa using hx)
theorem Ko{FT:Nat->Option an}{f n:Nat}(hF:FT f=some C4)(hP:FT 185=some vP){G:List Blk}{k p p11 sz a off len room off2 len2 room2 j:Nat}{cs:List PV}{D:List (Nat×Blk)}{b b2:Blk}{c0 c2:Bool}{el el2 x:PV}
  (hg:G[k]?=some ⟨sz,[.agg cs],false⟩)(hcl:cs.length=14)(hc6:cs[6]?=some (.tok (.a p) 0 1 off len room c0))(hc:cs[11]?=some (.tok (.a p11) 0 1 off2 len2 room2 c2))(hT:aM cs=DC D)(hDg:∀q∈D,G[q.1]?=some q.2/\cg q.2.es=true)
  (hnd:(k::D.map Prod.fst).Nodup)(hDl:D.length<20)(hD0:D[0]?=some (p,b))(hD1:D[1]?=some (p11,b2))(hall:∀(i:Nat)(x:Blk),i≠k->G[i]?=some x->cg x.es=true)
  (ha:a<len)(hro:b.ro=false)(hel:b.es[off+a]?=some el)(hel1:el.cells.length=1)
  (hz:aI .sub .i64 (len2:Int) .i64 1=some (.int .i64 (j:Nat)))(hj:j<len2)(hr:len2<=room2)(he:b2.es[off2+j]?=some el2)(hx:el2.cells[0]?=some x)(hpx:pl x=true)(hxc:x.isCell=true)(hnew:cg (b.es.set (off+a) (el.withCells [x]))=true):
  ∃G',bi FT (n+14) f [.ptr (.a k) 0 0 0,.agg [.int .i64 6,.int .i64 (a:Nat)]] G=some (.tup [],G')/\G'.length=G.length/\G'[k]?=some (some ⟨sz,[.agg (cs.take 11++.tok (.a p11) 0 1 off2 j room2 c2::cs.drop 12)],false⟩)/\
   G'[p]?=some (some ⟨b.sz,b.es.set (off+a) (el.withCells [x]),false⟩)/\∀i,i≠k->i≠p->G'[i]?=G[i]?.map some:=by
 obtain⟨h0,hh0⟩:∃h0,h0=(⟨G.map some,List.replicate 15 ⟨0,none⟩⟩:Heap):=⟨_,rfl⟩;have hget:∀(i:Nat)(x:Blk),G[i]?=some x->h0.get (.a i)=some ⟨0,some x⟩:=λi x hi=>by rw[hh0];simp[Heap.get,hi]
 have hkp:k≠p:=λe=>by
  rw[U5]at hnd;exact hnd.1 (by rw[e];exact Uo (f:=Prod.fst) (TC hD0))
 obtain⟨f1,a1,l1,z1,y1⟩:=Tk (FT:=FT) (h:=h0) (n:=n+11) (fr:=[PV.ptr (.a k) 0 0 0,.agg [.int .i64 6,.int .i64 (a:Nat)]]++List.replicate 52 PV.junk) (a:=(a:Nat)) (by simp) rfl (by rw[hh0];rfl);obtain⟨h1,hh1⟩:∃h1,h1=h0.put (.l 0) ⟨1,some ⟨2,[.agg [.int .i64 6,.int .i64 (a:Nat)]],false⟩⟩:=⟨_,rfl⟩;rw[<-hh1]at a1;have g1:∀(i:Nat)(x:Blk),G[i]?=some x->h1.get (.a i)=some ⟨0,some x⟩:=λi x hi=>by rw[hh1,Heap.get_put_other (by simp)];exact hget i x hi
 have gl:h1.get (.l 0)=some ⟨1,some ⟨2,[.agg [.int .i64 6,.int .i64 (a:Nat)]],false⟩⟩:=by rw[hh1,hh0];rfl
 have t0:eO f1 0=.ptr (.a k) 0 0 0:=z1.trans rfl;obtain⟨f2,a2,l2,z2,y2,w2⟩:=Tg (FT:=FT) (h:=h1) (n:=n+10) l1 t0 y1 (g1 k _ hg) hc6 gl ha;obtain⟨f3,a3,l3,z3,y3,w3⟩:=Tu (FT:=FT) (h:=h1) (n:=n+8) l2 (y2.trans y1) w2 gl;obtain⟨h2,R,W,e1,e2,e3,e4,e5,e6⟩:=Jk (FT:=FT) (n:=n) hP (h:=h1) (g1 k _ hg) hcl hc hT (λq hq=>⟨g1 _ _ (hDg q hq).1,(hDg q hq).2⟩) hnd hDl hD1 hz hj hr he hx hpx;have hp0:=(hDg _ (TC hD0)).1;have hp2:h2.get (.a p)=some ⟨0,some b⟩:=by rw[e3 _ (by simp;exactλe=>hkp e.symm)];exact g1 p b hp0
 obtain⟨f4,a4⟩:=Tp (FT:=FT) (h:=h1) (n:=n+7) hP l3 (z3.trans (z2.trans t0)) (y3.trans (y2.trans y1)) (g1 k _ hg) hc6 gl ha e1 e2 (by rw[T9 (by simp;omega),List.getElem?_take_of_lt (by omega)];exact hc6) e6 (e3 _ (by simp)) hp2 hro hxc hel hel1;obtain⟨h3,hh3⟩:∃h3,h3=h2.put (.a p) ⟨0,some ⟨b.sz,b.es.set (off+a) (el.withCells [x]),false⟩⟩:=⟨_,rfl⟩;rw[<-hh3]at a4;have body:bf FT (n+13) C4.body ⟨[PV.ptr (.a k) 0 0 0,.agg [.int .i64 6,.int .i64 (a:Nat)]]++List.replicate 52 PV.junk,h0⟩=some (.norm,⟨f4,h3⟩):=
  jd a1 (jd a2 (Gn (jd a3 (H0 w3 a4))))
 have hAl:h3.A.length=G.length:=by rw[hh3,(Heap.put_lens _ _ _).1,e5,hh1,(Heap.put_lens _ _ _).1,hh0];simp
 have hA3:∀(i:Nat)(y:Option Blk),h3.get (.a i)=some ⟨0,y⟩->h3.A[i]?=some y:=λi y hy=>by
  simp only[Heap.get]at hy;cases hq:h3.A[i]? with
  |none=>rw[hq]at hy;cases hy
  |some z=>rw[hq]at hy;simp only[Ty,fX.mk.injEq,true_and]at hy;rw[hy]
 have k3:h3.A[k]?=some (some ⟨sz,[.agg (cs.take 11++.tok (.a p11) 0 1 off2 j room2 c2::cs.drop 12)],false⟩):=hA3 _ _ (by rw[hh3,Heap.get_put_other (by simp;exact hkp)];exact e2);have p3:h3.A[p]?=some (some ⟨b.sz,b.es.set (off+a) (el.withCells [x]),false⟩):=hA3 _ _ (by rw[hh3];exact Heap.get_put_same hp2 (λ_ _=>rfl));have o3:∀i,i≠k->i≠p->h3.A[i]?=G[i]?.map some:=λi hi1 hi2=>by
  cases hq:G[i]? with
  |none=>
   rw[List.getElem?_eq_none_iff]at hq;rw[List.getElem?_eq_none_iff.2 (by omega)];rfl
  |some y=>exact hA3 _ _ (by rw[hh3,Heap.get_put_other (by simp;exact hi2),e3 _ (by simp;exact hi1)];exact g1 i y hq)
 have hbt:bp h3.A=aM cs:=by
  rw[qe k3 (λi y hi hy=>?_)]
  ·simp only[aM,cV,T6];exact xJ (t':=.tok (.a p11) 0 1 off2 j room2 c2) hc rfl
  ·by_cases hip:i=p
   ·subst hip;rw[p3]at hy;cases hy;exact hnew
   ·rw[o3 i hi hip]at hy;cases hq:G[i]? with
    |none=>rw[hq]at hy;cases hy
    |some z=>rw[hq]at hy;simp only[TT,Ty]at hy;subst hy;exact hall i z hi hq
 refine⟨h3.A,?_,hAl,k3,p3,o3⟩;rw[bi.eq_def];simp only[hF];have hi:C4.intr=none:=rfl;rw[hi];simp only;have hst:(⟨[PV.ptr (.a k) 0 0 0,.agg [.int .i64 6,.int .i64 (a:Nat)]]++List.replicate (C4.ntmps-[PV.ptr (.a k) 0 0 0,.agg [.int .i64 6,.int .i64 (a:Nat)]].length) PV.junk,⟨G.map some,List.replicate C4.nslots ⟨0,none⟩⟩⟩:St)=⟨[PV.ptr (.a k) 0 0 0,.agg [.int .i64 6,.int .i64 (a:Nat)]]++List.replicate 52 PV.junk,h0⟩:=by rw[hh0];rfl
 rw[hst,body];simp only;rw[Dq (F:=C4) (vs:=[]) (r:=.tup []) rfl rfl rfl rfl rfl hAl (by rw[hbt,hT];intro q hq;obtain⟨y,_,rfl⟩:=List.mem_map.1 hq;exact⟨_,rfl⟩) (by rw[hbt,hT];simp only[DC,Uk];omega)]
abbrev Ei:Sig:=⟨[(.B false [.F,.F,.F,.F,.F,.F,(.O 1 true),.F,.F,.F,.F,(.O 1 true),(.O 3 true),.F]),.F],(.T []),true⟩
def rA:VC:=(.st [.asg [(.chk (some 2) (.v 1))] [(3,(.lp (.cn (.fld none (.v 1) 0) (.cn (.fld none (.v 1) 1) .nl)))),(4000,(.lp (.cn (.ld none (.v 0) 0) (.cn (.ld none (.v 0) 1) (.cn (.ld none (.v 0) 2) (.cn (.ld none (.v 0) 3) (.cn (.ld none (.v 0) 4) (.cn (.ld none (.v 0) 5) (.cn (.ld none (.v 0) 6) (.cn (.ld none (.v 0) 7) (.cn (.ld none (.v 0) 8) (.cn (.ld none (.v 0) 9) (.cn (.ld none (.v 0) 10) (.cn (.ld none (.v 0) 11) (.cn (.ld none (.v 0) 12) (.cn (.ld none (.v 0) 13) .nl))))))))))))))))],.asg [] [(4,(.bin .lss (.ld none (.v 3) 1) (.len (.ld none (.v 4000) 6))))]])
def rB:VC:=(.st [.asg [(.ite (.bin .eql (.ld none (.v 3) 0) (.int .i64 6)) (.v 4) (.boo false))] []])
def rC:X:=(.ite (.bin .eql (.ld none (.v 3) 0) (.int .i64 6)) (.v 4) (.boo false))
def rS:VC:=(.st [.asg [] [(39,(.ld none (.ia 1 (.ld none (.v 4000) 11) (.bin .sub (.len (.ld none (.v 4000) 11)) (.int .i64 1))) 0))],.asg [] [(4000,(.lp (.cn (.ld none (.v 4000) 0) (.cn (.ld none (.v 4000) 1) (.cn (.ld none (.v 4000) 2) (.cn (.ld none (.v 4000) 3) (.cn (.ld none (.v 4000) 4) (.cn (.ld none (.v 4000) 5) (.cn (.upd none (.ld none (.v 4000) 6) (.ld none (.v 3) 1) 0 (.v 39)) (.cn (.ld none (.v 4000) 7) (.cn (.ld none (.v 4000) 8) (.cn (.ld none (.v 4000) 9) (.cn (.ld none (.v 4000) 10) (.cn (.slice 1 (.ld none (.v 4000) 11) .nl (.bin .sub (.len (.ld none (.v 4000) 11)) (.int .i64 1)) .nl) (.cn (.ld none (.v 4000) 12) (.cn (.ld none (.v 4000) 13) .nl))))))))))))))))]])
def rT:VC:=(.seq (.st [.asg [(.bin .eql (.ld none (.v 3) 0) (.int .i64 6))] []]) (.cond (.bin .eql (.ld none (.v 3) 0) (.int .i64 6)) (.st [.call [] none 39 185 [(.lp (.cn (.ld none (.v 4000) 0) (.cn (.ld none (.v 4000) 1) (.cn (.ld none (.v 4000) 2) (.cn (.ld none (.v 4000) 3) (.cn (.ld none (.v 4000) 4) (.cn (.ld none (.v 4000) 5) (.cn (.ld none (.v 4000) 6) (.cn (.ld none (.v 4000) 7) (.cn (.ld none (.v 4000) 8) (.cn (.ld none (.v 4000) 9) (.cn (.ld none (.v 4000) 10) (.cn (.ld none (.v 4000) 11) (.cn (.ld none (.v 4000) 12) (.cn (.ld none (.v 4000) 13) .nl)))))))))))))))] [4000]]) (.seq (.st []) (.cond (.v 4) (.st [.call [(.ld none (.ia 1 (.ld none (.v 4000) 6) (.ld none (.v 3) 1)) 0)] none 53 184 [(.lp (.cn (.ld none (.v 4000) 0) (.cn (.ld none (.v 4000) 1) (.cn (.ld none (.v 4000) 2) (.cn (.ld none (.v 4000) 3) (.cn (.ld none (.v 4000) 4) (.cn (.ld none (.v 4000) 5) (.cn (.ld none (.v 4000) 6) (.cn (.ld none (.v 4000) 7) (.cn (.ld none (.v 4000) 8) (.cn (.ld none (.v 4000) 9) (.cn (.ld none (.v 4000) 10) (.cn (.ld none (.v 4000) 11) (.cn (.ld none (.v 4000) 12) (.cn (.ld none (.v 4000) 13) .nl))))))))))))))),(.lst (.cn (.ld none (.ia 1 (.ld none (.v 4000) 6) (.ld none (.v 3) 1)) 0) .nl))] [4000]]) (.st [.call [] none 16 184 [(.lp (.cn (.ld none (.v 4000) 0) (.cn (.ld none (.v 4000) 1) (.cn (.ld none (.v 4000) 2) (.cn (.ld none (.v 4000) 3) (.cn (.ld none (.v 4000) 4) (.cn (.ld none (.v 4000) 5) (.cn (.ld none (.v 4000) 6) (.cn (.ld none (.v 4000) 7) (.cn (.ld none (.v 4000) 8) (.cn (.ld none (.v 4000) 9) (.cn (.ld none (.v 4000) 10) (.cn (.ld none (.v 4000) 11) (.cn (.ld none (.v 4000) 12) (.cn (.ld none (.v 4000) 13) .nl))))))))))))))),(.lst (.cn (.int .i64 0) .nl))] [4000]])))))
def rR:VC:=(.ret (.tup .nl) [(.lp (.cn (.ld none (.v 4000) 0) (.cn (.ld none (.v 4000) 1) (.cn (.ld none (.v 4000) 2) (.cn (.ld none (.v 4000) 3) (.cn (.ld none (.v 4000) 4) (.cn (.ld none (.v 4000) 5) (.cn (.ld none (.v 4000) 6) (.cn (.ld none (.v 4000) 7) (.cn (.ld none (.v 4000) 8) (.cn (.ld none (.v 4000) 9) (.cn (.ld none (.v 4000) 10) (.cn (.ld none (.v 4000) 11) (.cn (.ld none (.v 4000) 12) (.cn (.ld none (.v 4000) 13) .nl)))))))))))))))])
def Ja:VC:=.seq (.seq rA (.block 0 (.seq rB (.cond rC (.st [.asg [(.pos (.lst .nl))] []]) rT)))) rR
theorem dM(x:PV):x.fits none=x.isCell:=by cases x<;>rfl
section
variable{C:b6}{V:Nat->List PV->List PV->Bool}{y0 y1 y2 y3 y4 y5 y6 y7 y8 y9 y10 y11 y12 y13:PV}
theorem NU{i0 i1:PV}(h0:i0.isCell=true)(h1:i1.isCell=true)(f:ak [y0,y1,y2,y3,y4,y5,y6,y7,y8,y9,y10,y11,y12,y13]=true):
  aL C V rA (Env.ofArgs [.lptr [y0,y1,y2,y3,y4,y5,y6,y7,y8,y9,y10,y11,y12,y13],.agg [i0,i1]])=af (af (bO y6) λl=>Gv.bin .lss i1 l) λw=>some (.norm ((((Env.ofArgs [.lptr [y0,y1,y2,y3,y4,y5,y6,y7,y8,y9,y10,y11,y12,y13],.agg [i0,i1]]).set 3 (.lptr [i0,i1])).set 4000 (.lptr [y0,y1,y2,y3,y4,y5,y6,y7,y8,y9,y10,y11,y12,y13])).set 4 w)):=by
 have f2:=f;simp only[ak,TA,U6]at f2;obtain⟨a0,a1,a2,a3,a4,a5,a6,a7,a8,a9,a10,a11,a12,a13⟩:=f2;have e0:∀x y,Env.ofArgs [x,y] 0=x:=λ_ _=>rfl;have e1:∀x y,Env.ofArgs [x,y] 1=y:=λ_ _=>rfl;generalize hE:Env.ofArgs [.lptr [y0,y1,y2,y3,y4,y5,y6,y7,y8,y9,y10,y11,y12,y13],.agg [i0,i1]]=env;have v0:env 0=.lptr [y0,y1,y2,y3,y4,y5,y6,y7,y8,y9,y10,y11,y12,y13]:=by rw[<-hE];rfl
 have v1:env 1=.agg [i0,i1]:=by rw[<-hE];rfl
 have ok2:ak [i0,i1]=true:=by simp[ak,h0,h1]
 have ff:(PV.agg [i0,i1]).fits (some 2)=true:=rfl;simp only[aL,cS,VS.run,au,bU,X.ev,ac,UL,Us,↓reduceIte,Env.set_at,Nat.reduceEqDiff,bZ,rA,v0,v1,kG,uw,dU,bC,Bz,ff,iT,ok2,dM,h0,h1,a0,a1,a2,a3,a4,a5,a6,a7,a8,a9,a10,a11,a12,a13,f,TM,Uw,and_self];cases bO y6 with
 |none=>rfl
 |some l=>
  simp only[ac];cases Gv.bin .lss i1 l<;>rfl
theorem M3{e1:Env}{i0 i1:PV}(h3:e1 3=.lptr [i0,i1])(h4:e1 4000=.lptr [y0,y1,y2,y3,y4,y5,y6,y7,y8,y9,y10,y11,y12,y13])(h1:i1.isCell=true)(f:ak [y0,y1,y2,y3,y4,y5,y6,y7,y8,y9,y10,y11,y12,y13]=true){r:vg}(hd:aL C V rS e1=some r):
  ∃l11 z lc v39 y6' y11',bO y11=some l11/\Gv.bin .sub l11 (.int .i64 1)=some z/\az 1 y11 z=some lc/\kG none 0 lc=some v39/\oB none y6 i1 0 v39=some y6'/\cj 1 y11 (.tup []) z (.tup [])=some y11'/\
   ak [y0,y1,y2,y3,y4,y5,y6',y7,y8,y9,y10,y11',y12,y13]=true/\r=.norm ((e1.set 39 v39).set 4000 (.lptr [y0,y1,y2,y3,y4,y5,y6',y7,y8,y9,y10,y11',y12,y13])):=by
 have f2:=f;simp only[ak,TA,U6]at f2;obtain⟨a0,a1,a2,a3,a4,a5,a6,a7,a8,a9,a10,a11,a12,a13⟩:=f2;have g0:kG none 0 (.lptr [y0,y1,y2,y3,y4,y5,y6,y7,y8,y9,y10,y11,y12,y13])=some y0:=by simp[kG,dU,bC,dM,a0]
 have g1:kG none 1 (.lptr [y0,y1,y2,y3,y4,y5,y6,y7,y8,y9,y10,y11,y12,y13])=some y1:=by simp[kG,dU,bC,dM,a1]
 have g2:kG none 2 (.lptr [y0,y1,y2,y3,y4,y5,y6,y7,y8,y9,y10,y11,y12,y13])=some y2:=by simp[kG,dU,bC,dM,a2]
 have g3:kG none 3 (.lptr [y0,y1,y2,y3,y4,y5,y6,y7,y8,y9,y10,y11,y12,y13])=some y3:=by simp[kG,dU,bC,dM,a3]
 have g4:kG none 4 (.lptr [y0,y1,y2,y3,y4,y5,y6,y7,y8,y9,y10,y11,y12,y13])=some y4:=by simp[kG,dU,bC,dM,a4]
 have g5:kG none 5 (.lptr [y0,y1,y2,y3,y4,y5,y6,y7,y8,y9,y10,y11,y12,y13])=some y5:=by simp[kG,dU,bC,dM,a5]
 have g6:kG none 6 (.lptr [y0,y1,y2,y3,y4,y5,y6,y7,y8,y9,y10,y11,y12,y13])=some y6:=by simp[kG,dU,bC,dM,a6]
 have g7:kG none 7 (.lptr [y0,y1,y2,y3,y4,y5,y6,y7,y8,y9,y10,y11,y12,y13])=some y7:=by simp[kG,dU,bC,dM,a7]
 have g8:kG none 8 (.lptr [y0,y1,y2,y3,y4,y5,y6,y7,y8,y9,y10,y11,y12,y13])=some y8:=by simp[kG,dU,bC,dM,a8]
 have g9:kG none 9 (.lptr [y0,y1,y2,y3,y4,y5,y6,y7,y8,y9,y10,y11,y12,y13])=some y9:=by simp[kG,dU,bC,dM,a9]
 have g10:kG none 10 (.lptr [y0,y1,y2,y3,y4,y5,y6,y7,y8,y9,y10,y11,y12,y13])=some y10:=by simp[kG,dU,bC,dM,a10]
 have g11:kG none 11 (.lptr [y0,y1,y2,y3,y4,y5,y6,y7,y8,y9,y10,y11,y12,y13])=some y11:=by simp[kG,dU,bC,dM,a11]
 have g12:kG none 12 (.lptr [y0,y1,y2,y3,y4,y5,y6,y7,y8,y9,y10,y11,y12,y13])=some y12:=by simp[kG,dU,bC,dM,a12]
 have g13:kG none 13 (.lptr [y0,y1,y2,y3,y4,y5,y6,y7,y8,y9,y10,y11,y12,y13])=some y13:=by simp[kG,dU,bC,dM,a13]
 have gi:kG none 1 (.lptr [i0,i1])=some i1:=by simp[kG,dU,bC,dM,h1]
 simp only[aL,rS,cS,VS.run,au,bU,TY]at hd;cases h39:X.ev e1 (.ld none (.ia 1 (.ld none (.v 4000) 11) (.bin .sub (.len (.ld none (.v 4000) 11)) (.int .i64 1))) 0)with
 |none=>rw[h39]at hd;cases hd
 | some v39=>
  rw[h39]at hd;simp only[ac]at hd;simp only[X.ev,h4,g11,ac,ab]at h39;obtain⟨lc,⟨z,⟨l11,q1,q2⟩,q3⟩,q4⟩:=h39;simp only[X.ev,Env.set_at,Nat.reduceEqDiff,↓reduceIte,h3,h4,g0,g1,g2,g3,g4,g5,g6,g7,g8,g9,g10,g11,g12,g13,gi,ac,q1,q2]at hd;cases hu:oB none y6 i1 0 v39 with
  |none=>rw[hu]at hd;cases hd
  | some y6'=>
   cases hs:cj 1 y11 (.tup []) z (.tup [])with
   |none=>rw[hu,hs]at hd;cases hd
   | some y11'=>
    rw[hu,hs]at hd;simp only[ac,bZ]at hd;split at hd
    ·rename_i ho;simp only[Ty]at hd;split at ho
     ·rename_i hok;simp only[ac,Ty]at ho;exact⟨l11,z,lc,v39,y6',y11',q1,q2,q3,q4,hu,hs,hok,by rw[<-hd,<-ho]⟩
     ·cases ho
    ·cases hd
theorem Ej{x1 x:PV}{os:List PV}(f:ak [y0,y1,y2,y3,y4,y5,y6,y7,y8,y9,y10,y11,y12,y13]=true)(hd:aL C V yN.body (Env.ofArgs [.lptr [y0,y1,y2,y3,y4,y5,y6,y7,y8,y9,y10,y11,y12,y13],x1])=some (.ret x os)):
  aL C V Ja (Env.ofArgs [.lptr [y0,y1,y2,y3,y4,y5,y6,y7,y8,y9,y10,y11,y12,y13],x1])=some (.ret x os)∨
  ∃i0 i1 l6 l11 z lc v39 y6' y11',x1=.agg [i0,i1]/\Gv.bin .eql i0 (.int .i64 6)=some (.bool true)/\bO y6=some l6/\Gv.bin .lss i1 l6=some (.bool true)/\bO y11=some l11/\Gv.bin .sub l11 (.int .i64 1)=some z/\az 1 y11 z=some lc/\kG none 0 lc=some v39/\oB none y6 i1 0 v39=some y6'/\
   cj 1 y11 (.tup []) z (.tup [])=some y11'/\x=.tup []/\os=[.lptr [y0,y1,y2,y3,y4,y5,y6',y7,y8,y9,y10,y11',y12,y13]]:=by
 have hb:yN.body=.seq (.seq rA (.block 0 (.seq rB (.cond rC rS rT)))) rR:=rfl;rw[hb]at hd;have hx1:∃i0 i1,x1=.agg [i0,i1]/\i0.isCell=true/\i1.isCell=true:=by
  have:(X.ev (Env.ofArgs [.lptr [y0,y1,y2,y3,y4,y5,y6,y7,y8,y9,y10,y11,y12,y13],x1]) (.chk (some 2) (.v 1))).isSome=true:=by
   cases hc:(X.ev (Env.ofArgs [.lptr [y0,y1,y2,y3,y4,y5,y6,y7,y8,y9,y10,y11,y12,y13],x1]) (.chk (some 2) (.v 1))).isSome with
   |true=>rfl
   |false=>simp only[aL,rA,cS,VS.run,au,hc,Un,T4,TU,lZ]at hd;cases hd
  have e:X.ev (Env.ofArgs [.lptr [y0,y1,y2,y3,y4,y5,y6,y7,y8,y9,y10,y11,y12,y13],x1]) (.chk (some 2) (.v 1))=Bz (some 2) x1:=rfl;rw[e]at this;unfold Bz at this;split at this
  ·rename_i h;obtain⟨h1,h2⟩:=h;cases x1<;>simp only[PV.fits,T4]at h1
   rename_i cs
   match cs,h1,h2 with
   |[i0,i1],_,h2=>
    simp only[PV.cells,ak,TA,U6]at h2;exact⟨i0,i1,rfl,h2.1,h2.2⟩
  ·cases this
 obtain⟨i0,i1,rfl,h0,h1⟩:=hx1;have hA:=NU (C:=C) (V:=V) (i0:=i0) (i1:=i1) h0 h1 f;simp only[Ja,aL,hA]at hd⊢;cases hl:bO y6 with
 |none=>rw[hl]at hd;cases hd
 | some l6=>
  rw[hl]at hd;simp only[ac]at hd⊢;cases hw:Gv.bin .lss i1 l6 with
  |none=>rw[hw]at hd;cases hd
  | some w=>
   rw[hw]at hd;simp only[ac]at hd⊢;obtain⟨e1,he1⟩:∃e1,e1=(((Env.ofArgs [.lptr [y0,y1,y2,y3,y4,y5,y6,y7,y8,y9,y10,y11,y12,y13],.agg [i0,i1]]).set 3 (.lptr [i0,i1])).set 4000 (.lptr [y0,y1,y2,y3,y4,y5,y6,y7,y8,y9,y10,y11,y12,y13])).set 4 w:=⟨_,rfl⟩;rw[<-he1]at hd⊢;have b3:e1 3=.lptr [i0,i1]:=by rw[he1];rfl
   have b4:e1 4000=.lptr [y0,y1,y2,y3,y4,y5,y6,y7,y8,y9,y10,y11,y12,y13]:=by rw[he1];rfl
   have bw:e1 4=w:=by rw[he1];rfl
   have hB:aL C V rB e1=none∨aL C V rB e1=some (.norm e1):=by
    have this:aL C V rB e1=if au e1 [rC]=true then some (.norm e1)else none:=by
     have hb0:rB=.st [.asg [rC] []]:=rfl;rw[hb0];simp only[aL,cS,VS.run,bU];cases au e1 [rC]<;>rfl
    rw[this];split
    ·exact .inr rfl
    ·exact .inl rfl
   rcases hB with hB|hB
   ·rw[hB]at hd;cases hd
   rw[hB]at hd⊢;simp only at hd⊢;by_cases hq:rC.ev e1=some (.bool true)
   rotate_left
   ·left;cases hr:rC.ev e1 with
    |none=>rw[hr]at hd;exact hd
    |some v=>
     rw[hr]at hd;cases v<;>first|exact hd|skip
     rename_i b;cases b
     ·exact hd
     ·exact absurd hr hq
   ·right;rw[hq]at hd;simp only at hd;have hq2:=hq;have l0:kG none 0 (.lptr [i0,i1])=some i0:=by simp[kG,dU,bC,dM,h0]
    simp only[rC,X.ev,b3,bw,l0,ac,ab]at hq2;obtain⟨q,hq3,hq4⟩:=hq2;have hqt:q=.bool true/\w=.bool true:=by
     cases q with
     | bool b=>
      cases b
      ·simp at hq4
      ·simp only[Ty]at hq4;exact⟨rfl,hq4⟩
     |_=>simp only[reduceCtorEq]at hq4
    obtain⟨rfl,rfl⟩:=hqt;cases hS:aL C V rS e1 with
    |none=>rw[hS]at hd;cases hd
    |some r=>
     obtain⟨l11,z,lc,v39,y6',y11',r1,r2,r3,r4,r5,r6,rok,rfl⟩:=M3 b3 b4 h1 f hS;rw[hS]at hd;simp only at hd;refine⟨i0,i1,l6,l11,z,lc,v39,y6',y11',rfl,hq3,rfl,hw,r1,r2,r3,r4,r5,r6,?_⟩;simp only[ak,TA,U6]at rok;obtain⟨a0,a1,a2,a3,a4,a5,a6,a7,a8,a9,a10,a11,a12,a13⟩:=rok;have v4:((e1.set 39 v39).set 4000 (.lptr [y0,y1,y2,y3,y4,y5,y6',y7,y8,y9,y10,y11',y12,y13])) 4000=.lptr [y0,y1,y2,y3,y4,y5,y6',y7,y8,y9,y10,y11',y12,y13]:=rfl;generalize((e1.set 39 v39).set 4000 (.lptr [y0,y1,y2,y3,y4,y5,y6',y7,y8,y9,y10,y11',y12,y13]))=e2 at*;simp only[aL,rR,X.ev,fV,v4,bZ,ac,kG,dU,bC,dM,a0,a1,a2,a3,a4,a5,a6,a7,a8,a9,a10,a11,a12,a13,ak,Ub,TM,Uw,TY,Ty,vg.ret.injEq]at hd;exact⟨hd.1.symm,hd.2.symm⟩
end
section
variable{C:b6}{V:Nat->List PV->List PV->Bool}
def NoRet(C:b6)(V:Nat->List PV->List PV->Bool)(c:VC):Prop:=∀e r,aL C V c e=some r->∃e',r=.norm e'
theorem NoRet.st(l:List VS):NoRet C V (.st l):=λe r h=>by
 simp only[aL]at h;split at h
 ·simp only[Ty]at h;exact⟨_,h.symm⟩
 ·cases h
theorem NoRet.seq{a b:VC}(ha:NoRet C V a)(hb:NoRet C V b):NoRet C V (.seq a b):=λe r h=>by
 simp only[aL]at h;cases h1:aL C V a e with
 |none=>rw[h1]at h;cases h
 |some q=>
  obtain⟨e',rfl⟩:=ha e q h1;rw[h1]at h;exact hb e' r h
theorem NoRet.cond{x:X}{a b:VC}(ha:NoRet C V a)(hb:NoRet C V b):NoRet C V (.cond x a b):=λe r h=>by
 simp only[aL]at h;split at h
 ·exact ha e r h
 ·exact hb e r h
 ·cases h
theorem NoRet.block{i:Nat}{a:VC}(ha:NoRet C V a):NoRet C V (.block i a):=λe r h=>by
 simp only[aL]at h;cases h1:aL C V a e with
 |none=>rw[h1]at h;cases h
 |some q=>
  obtain⟨e',rfl⟩:=ha e q h1;rw[h1]at h;simp only[Ty]at h;exact⟨e',h.symm⟩
theorem K4{env:Env}{x:PV}{os:List PV}(hd:aL C V yN.body env=some (.ret x os)):x=.tup []:=by
 have hb:yN.body=.seq (.seq rA (.block 0 (.seq rB (.cond rC rS rT)))) rR:=rfl;have hn:NoRet C V (.seq rA (.block 0 (.seq rB (.cond rC rS rT)))):=by
  have hT:NoRet C V rT:=.seq (.st _) (.cond (.st _) (.seq (.st _) (.cond (.st _) (.st _))));exact .seq (.st _) (.block (.seq (.st _) (.cond (.st _) hT)))
 rw[hb]at hd;generalize VC.seq rA (.block 0 (.seq rB (.cond rC rS rT)))=c at*;simp only[aL]at hd;cases h1:aL C V c env with
 |none=>rw[h1]at hd;cases hd
 |some q=>
  obtain⟨e',rfl⟩:=hn env q h1;rw[h1]at hd;simp only[rR,aL,X.ev,bZ,ac]at hd;rw[ab]at hd;obtain⟨_,_,hd⟩:=hd;simp only[Ty,vg.ret.injEq]at hd;exact hd.1.symm
end
theorem sM{Pr:ax->Prop}{h:Heap}{sz:Nat}{v x:PV}(T:TokOk Pr h sz v x):x.isCell=true:=by
 rcases T with⟨_,rfl⟩|⟨_,_,_,_,_,_,_,T⟩
 ·rfl
 ·rw[T.2.2.2.2.2.2.2.2];rfl
theorem sZ{P:ax->Prop}{G:List Blk}{sz:Nat}{v x:PV}(hP:∀q,P q->∃k,q=.a k/\k<G.length)(T:TokOk P (HA G) sz v x)(W:WrOk (HA G) v):
  (rH v/\x=.lst [] false)∨∃p off len room b,v=.tok (.a p) 0 sz off len room false/\P (.a p)/\G[p]?=some b/\b.sz=sz/\off+len<=b.es.length/\len<=room/\cg b.es=true/\(∀e∈b.es,e.cells.length=sz)/\x=.lst (aF ((b.es.drop off).take len)) false/\b.ro=false/\off+room<=b.es.length:=by
 rcases T with T|⟨r,ver,off,len,room,c0,b,hT,hp,hget,h1,h2,h3,h4,h5,h6⟩
 ·exact .inl T
 ·right;obtain⟨p,rfl,hpl⟩:=hP r hp;have hb:=TD hpl;have hg2:=hget;simp only[HA,Heap.get,TR,hb,TT,Ty,fX.mk.injEq]at hg2;obtain⟨rfl,rfl⟩:=hg2;subst hT;rcases W with W|⟨r3,v3,s3,o3,l3,m3,b3,e3,g3,q3,q4⟩
  ·rcases W with W|W<;>cases W
  ·cases e3;rw[hget]at g3;cases g3;exact⟨p,off,len,room,_,rfl,hp,hb,h1,h2,h3,h4,h5,h6,q3,q4⟩
theorem A3{op:BinOp}{x:PV}{k:IntKind}{n:Int}{y:PV}(h:Gv.bin op x (.int k n)=some y):∃k' m,x=.int k' m/\aI op k' m k n=some y:=by
 cases x<;>simp only[Gv.bin,reduceCtorEq]at h
 exact⟨_,_,rfl,h⟩
theorem zQ{op:BinOp}{k:IntKind}{m n:Int}{y:PV}(ho:op=.eql∨op=.lss∨op=.sub)(h:aI op k m .i64 n=some y):k=.i64:=by
 rcases ho with rfl|rfl|rfl<;>
 ·simp only[aI]at h;split at h
  ·cases h
  ·rename_i hk;exact Decidable.not_not.1 hk
abbrev Lt:List K:=[.F,.F,.F,.F,.F,.F,(.O 1 true),.F,.F,.F,.F,(.O 1 true),(.O 3 true),.F]
theorem Cp{e:PV}{k:IntKind}{z:Int}(h:aP e=.int k z):e=.int k z:=by
 cases e<;>simp only[aP,reduceCtorEq]at h
 exact h
theorem er{h:Heap}{P:Nat->ax->Prop}{k:K}{ks:List K}{j:Nat}{vs xs:List PV}(kr:KRs h P (k::ks) j vs xs):∃v vs' x xs',vs=v::vs'/\xs=x::xs'/\KRs h P ks (j+k.n) vs' xs':=by
 cases vs with
 |nil=>cases xs<;>exact kr.elim
 |cons v vs=>cases xs with
  |nil=>exact kr.elim
  |cons x xs=>exact⟨v,vs,x,xs,rfl,rfl,kr.2⟩
theorem KH{h:Heap}{P:Nat->ax->Prop}{j:Nat}{vs xs:List PV}(kr:KRs h P [] j vs xs):vs=[]/\xs=[]:=by
 cases vs with
 |nil=>cases xs with
  |nil=>exact⟨rfl,rfl⟩
  |cons=>exact kr.elim
 |cons=>cases xs<;>exact kr.elim
theorem Jq{h:Heap}{P:Nat->ax->Prop}{j:Nat}{vs xs:List PV}(kr:KRs h P Lt j vs xs):∃c0 c1 c2 c3 c4 c5 c6 c7 c8 c9 c10 c11 c12 c13 y0 y1 y2 y3 y4 y5 y6 y7 y8 y9 y10 y11 y12 y13,
  vs=[c0,c1,c2,c3,c4,c5,c6,c7,c8,c9,c10,c11,c12,c13]/\xs=[y0,y1,y2,y3,y4,y5,y6,y7,y8,y9,y10,y11,y12,y13]:=by
 obtain⟨c0,vs0,y0,xs0,rfl,rfl,kr0⟩:=er kr;obtain⟨c1,vs1,y1,xs1,rfl,rfl,kr1⟩:=er kr0;obtain⟨c2,vs2,y2,xs2,rfl,rfl,kr2⟩:=er kr1;obtain⟨c3,vs3,y3,xs3,rfl,rfl,kr3⟩:=er kr2;obtain⟨c4,vs4,y4,xs4,rfl,rfl,kr4⟩:=er kr3;obtain⟨c5,vs5,y5,xs5,rfl,rfl,kr5⟩:=er kr4;obtain⟨c6,vs6,y6,xs6,rfl,rfl,kr6⟩:=er kr5;obtain⟨c7,vs7,y7,xs7,rfl,rfl,kr7⟩:=er kr6;obtain⟨c8,vs8,y8,xs8,rfl,rfl,kr8⟩:=er kr7;obtain⟨c9,vs9,y9,xs9,rfl,rfl,kr9⟩:=er kr8;obtain⟨c10,vs10,y10,xs10,rfl,rfl,kr10⟩:=er kr9;obtain⟨c11,vs11,y11,xs11,rfl,rfl,kr11⟩:=er kr10;obtain⟨c12,vs12,y12,xs12,rfl,rfl,kr12⟩:=er kr11;obtain⟨c13,vs13,y13,xs13,rfl,rfl,kr13⟩:=er kr12;obtain⟨rfl,rfl⟩:=KH kr13;exact⟨_,_,_,_,_,_,_,_,_,_,_,_,_,_,_,_,_,_,_,_,_,_,_,_,_,_,_,_,rfl,rfl⟩
theorem J7{FT:Nat->Option an}{sgs:Nat->Option Sig}{f:Nat}(hF:FT f=some C4)(hP:FT 185=some vP)(hG:My sgs (pQ FT) C4 Ei=some Ja):aC FT sgs f yN:=by
 refine .inr ⟨by kernel_rfl,λC V xs x os hC hd hl hsc=>?_⟩
 match xs,hl with
 |[x0,x1],_=>
 have hx:=K4 hd;subst hx;have hsig:yN.sig=Ei:=rfl;rw[hsig];intro args G P kr uP loc hGB
 match args,kr with
 |[v0,v1],kr=>
 have kr0:=kr;obtain⟨kb,⟨p1,e1⟩,_⟩:=kr;obtain⟨r,ver,n,e,ro',ys,rfl,hPr,hget,hro,hok,rfl,krs⟩:=kb;have hcells:=Jq krs;obtain⟨c0,c1,c2,c3,c4,c5,c6,c7,c8,c9,c10,c11,c12,c13,y0,y1,y2,y3,y4,y5,y6,y7,y8,y9,y10,y11,y12,y13,hcs,rfl⟩:=hcells;have he:e=.agg [c0,c1,c2,c3,c4,c5,c6,c7,c8,c9,c10,c11,c12,c13]:=by
  cases e<;>simp only[PV.cells,Vc,reduceCtorEq,Vh]at hcs
  rw[hcs]
 subst he;rw[hcs]at krs hok;have krs0:=krs;obtain⟨⟨q0,rfl⟩,⟨q1,rfl⟩,⟨q2,rfl⟩,⟨q3,rfl⟩,⟨q4,rfl⟩,⟨q5,rfl⟩,⟨t6,w6⟩,⟨q7,rfl⟩,⟨q8,rfl⟩,⟨q9,rfl⟩,⟨q10,rfl⟩,⟨t11,w11⟩,⟨t12,w12⟩,⟨q13,rfl⟩,_⟩:=krs;have hok2:=hok;simp only[ak,TA,U6]at hok2;obtain⟨k0,k1,k2,k3,k4,k5,k6,k7,k8,k9,k10,k11,k12,k13⟩:=hok2;have hyok:ak [aP c0,aP c1,aP c2,aP c3,aP c4,aP c5,y6,aP c7,aP c8,aP c9,aP c10,y11,y12,aP c13]=true:=by
  simp only[ak,oW,k0,k1,k2,k3,k4,k5,k7,k8,k9,k10,k13,sM t6,sM t11,sM t12,Ub]
 rcases Ej hyok hd with hd|⟨i0,i1,l6,l11,z,lc,v39,y6',y11',rfl,s1,s2,s3,s4,s5,s6,s7,s8,s9,_,rfl⟩
 ·exact ES hC hF hG hd (λ_=>rfl) _ G P kr0 uP loc hGB
 obtain⟨ki,ii,rfl,g1⟩:=A3 s1;obtain rfl:=zQ (.inl rfl) g1;have hii:ii=6:=by simpa[aI]using g1
 subst hii;rcases sZ (P:=P (0+1+0)) (λq hq=>loc _ q hq) t6 (w6 rfl)with⟨_,rfl⟩|⟨p,off,len,room,b,rfl,hPp,hGp,hbs,ho,hr,hpl,hcl,rfl,hbro,hroom⟩
 ·obtain rfl:=UF s2;obtain⟨ka,a,rfl,g2⟩:=A3 s3;simp[oB]at s8
 rcases sZ (P:=P (0+1+1)) (λq hq=>loc _ q hq) t11 (w11 rfl)with⟨_,rfl⟩|⟨p11,off2,len2,room2,b2,rfl,hPp2,hGp2,hbs2,ho2,hr2,hpl2,hcl2,rfl,hbro2,hroom2⟩
 ·obtain rfl:=UF s4;obtain⟨kz,zz,rfl⟩:∃k m,z=.int k m:=by
   cases z<;>simp only[az,reduceCtorEq]at s6
   exact⟨_,_,rfl⟩
  simp[az]at s6
 have hb3:=TD (l:=G) (i:=0);simp only[bO,Ty]at s2 s4;subst s2;subst s4;obtain⟨ka,a,rfl,g2⟩:=A3 s3;obtain rfl:=zQ (.inr (.inl rfl)) g2;have hWl:(aF ((b.es.drop off).take len)).length=len:=by rw[aS];simp;omega
 have hWl2:(aF ((b2.es.drop off2).take len2)).length=len2:=by rw[aS];simp;omega
 rw[hWl2]at s5;have hz5:∃zz,z=.int .i64 zz:=by
  simp only[Gv.bin,aI,ne_eq,UJ,TU,Ty]at s5;exact⟨_,s5.symm⟩
 obtain⟨zz,rfl⟩:=hz5;have s5':aI .sub .i64 (len2:Int) .i64 1=some (.int .i64 zz):=s5;simp only[az,hWl2]at s6;split at s6
 rotate_left
 ·cases s6
 rename_i hzr;obtain⟨j,rfl⟩:=Ug hzr.1;have hj:j<len2:=by omega
 have htop:(aF ((b2.es.drop off2).take len2))[j]?=(b2.es[off2+j]?).map aP:=by
  rw[fp,TR,List.getElem?_take_of_lt hj,Uf]
 obtain⟨el2,hel2⟩:∃el2,b2.es[off2+j]?=some el2:=⟨_,TD (by omega)⟩;rw[TV,htop,hel2,TT]at s6;simp only at s6;split at s6
 rotate_left
 ·cases s6
 simp only[Ty]at s6;subst s6;have hc2l:el2.cells.length=1:=hcl2 el2 (TC hel2);obtain⟨x,hxc⟩:∃x,el2.cells=[x]:=by
  match hq:el2.cells,hc2l with
  |[x],hq=>exact⟨x,rfl⟩
 have hpel2:pl el2=true:=eY.1 hpl2 _ (TC hel2);have hv39:v39=aP x/\x.isCell=true:=by
  rw[iZ,hxc]at s7;simp only[aF,kG,dU,bC,TM,dM,oW]at s7;split at s7
  ·rename_i h;exact⟨(UF s7).symm,h⟩
  ·cases s7
 obtain⟨rfl,hxcell⟩:=hv39;simp only[oB,hWl]at s8;split at s8
 rotate_left
 ·cases s8
 rename_i har;obtain⟨a,rfl⟩:=Ug har.1;have ha:a<len:=by omega
 obtain⟨el,hel⟩:∃el,b.es[off+a]?=some el:=⟨_,TD (by omega)⟩;have hat:(aF ((b.es.drop off).take len))[a]?=some (aP el):=by
  rw[fp,TR,List.getElem?_take_of_lt ha,Uf,hel,TT]
 rw[TV,hat]at s8;simp only at s8;split at s8
 rotate_left
 ·cases s8
 have hel1:el.cells.length=1:=hcl el (TC hel);have hpel:pl el=true:=eY.1 hpl _ (TC hel);have hel':(aP el).withCells ((aP el).cells.take 0++(aP x).cells++(aP el).cells.drop (0+(aP x).cells.length))=aP (el.withCells [x]):=by
  rw[rX (x:=aP x) (by rw[oW];exact hxcell),rI,Vo (by rw[fF,hel1];simp)];rfl
 rw[hel']at s8;have hy6:y6'=.lst (aF (((b.es.set (off+a) (el.withCells [x])).drop off).take len)) false:=by
  rw[List.drop_set,TF (by omega),show off+a-off=a by omega,List.take_set,Cr];exact(UF s8).symm
 subst hy6;have hjl:j<=len2:=by omega
 have hy11:y11'=.lst (aF ((b2.es.drop off2).take j)) false:=by
  simp only[cj,kk,cF,aO,mL,hWl2]at s9;rw[TF (by simp),TB (by omega)]at s9;simp only[TV]at s9;split at s9
  ·simp only[TT,Ty,aP,Vw,Nat.sub_zero]at s9;rw[<-s9,iU,fE,<-iU,List.take_take,show min j len2=j by omega]
  ·cases s9
 subst hy11;have hv1:v1=.agg [.int .i64 6,.int .i64 (a:Nat)]:=by
  cases v1<;>simp only[aP,reduceCtorEq,PV.agg.injEq]at e1
  rename_i ws
  match ws,e1 with
  |[w0,w1],e1=>
   simp only[aF,Vc,U6]at e1;rw[Cp e1.1.symm,Cp e1.2.symm]
  |[],e1=>simp[aF]at e1
  |[_],e1=>simp[aF]at e1
  |_::_::_::_,e1=>simp[aF]at e1
 subst hv1;obtain⟨k,rfl,hkl⟩:=loc 0 r hPr;have hGk:G[k]?=some ⟨n,[.agg [c0,c1,c2,c3,c4,c5,.tok (.a p) 0 1 off len room false,c7,c8,c9,c10,.tok (.a p11) 0 1 off2 len2 room2 false,c12,c13]],false⟩/\ver=0:=by
  have hb:=TD hkl;have hg2:=hget;simp only[HA,Heap.get,TR,hb,TT,Ty,fX.mk.injEq]at hg2;obtain⟨rfl,e⟩:=hg2;rw[hro rfl]at e;exact⟨by rw[hb,e],rfl⟩
 obtain⟨hGk,rfl⟩:=hGk;have h12:∃D12:List (Nat×Blk),cV c12=DC D12/\D12.length<=1/\(∀q∈D12,G[q.1]?=some q.2/\cg q.2.es=true/\P 3 (.a q.1)/\KB (HA G) (.O 3 true) c12=[(.a q.1,0,q.2)])/\(D12=[]->KB (HA G) (.O 3 true) c12=[]):=by
  rcases sZ (P:=P (0+1+1+1)) (λq hq=>loc _ q hq) t12 (w12 rfl)with⟨hn,_⟩|⟨p12,off3,len3,room3,b3,rfl,hPp3,hGp3,_,_,_,hpl3,_⟩
  ·refine⟨[],?_,by simp,λq hq=>(by cases hq),λ_=>?_⟩<;>rcases hn with rfl|rfl<;>rfl
  ·have hg3:(HA G).get (.a p12)=some ⟨0,some b3⟩:=by simp[HA,Heap.get,hGp3]
   exact⟨[(p12,b3)],rfl,by simp,λq hq=>by
    simp only[T1]at hq;subst hq;exact⟨hGp3,hpl3,hPp3,by simp[KB,hg3]⟩,λh=>by cases h⟩
 obtain⟨D12,hD1,hD2,hD3,hD4⟩:=h12;have hPk:P 0 (.a k):=hPr;have hP1:P 1 (.a p):=hPp;have hP2:P 2 (.a p11):=hPp2;have hgp:(HA G).get (.a p)=some ⟨0,some b⟩:=by simp[HA,Heap.get,hGp]
 have hgp2:(HA G).get (.a p11)=some ⟨0,some b2⟩:=by simp[HA,Heap.get,hGp2]
 have hgk:(HA G).get (.a k)=some ⟨0,some ⟨n,[.agg [c0,c1,c2,c3,c4,c5,.tok (.a p) 0 1 off len room false,c7,c8,c9,c10,.tok (.a p11) 0 1 off2 len2 room2 false,c12,c13]],false⟩⟩:=by simp[HA,Heap.get,hGk]
 have hkp:k≠p:=λe=>by subst e;exact absurd (uP 0 1 _ hPk hP1) (by decide)
 have hkp2:k≠p11:=λe=>by subst e;exact absurd (uP 0 2 _ hPk hP2) (by decide)
 have hpp2:p≠p11:=λe=>by subst e;exact absurd (uP 1 2 _ hP1 hP2) (by decide)
 have hD12:∀q∈D12,k≠q.1/\p≠q.1/\p11≠q.1:=λq hq=>by
  obtain⟨_,_,h3,_⟩:=hD3 q hq;refine⟨λe=>?_,λe=>?_,λe=>?_⟩
  ·rw[<-e]at h3;exact absurd (uP 0 3 _ hPk h3) (by decide)
  ·rw[<-e]at h3;exact absurd (uP 1 3 _ hP1 h3) (by decide)
  ·rw[<-e]at h3;exact absurd (uP 2 3 _ hP2 h3) (by decide)
 have hall:∀(i:Nat)(y:Blk),G[i]?=some y->i=k∨(i=p/\y=b)∨(i=p11/\y=b2)∨∃q∈D12,i=q.1/\y=q.2:=λi y hy=>by
  have:=hGB i y hy;have e12:KB (HA G) (.O 3 true) c12=kg D12:=by
   match D12,hD2,hD3,hD4 with
   |[],_,_,h4=>exact h4 rfl
   |[q],_,h3,_=>exact(h3 q (TQ ..)).2.2.2
  have eb:KB (HA G) (.B false Lt) (.ptr (.a k) 0 0 0)=(.a k,0,⟨n,[.agg [c0,c1,c2,c3,c4,c5,.tok (.a p) 0 1 off len room false,c7,c8,c9,c10,.tok (.a p11) 0 1 off2 len2 room2 false,c12,c13]],false⟩)::jW (HA G) Lt [c0,c1,c2,c3,c4,c5,.tok (.a p) 0 1 off len room false,c7,c8,c9,c10,.tok (.a p11) 0 1 off2 len2 room2 false,c12,c13]:=by
   simp only[KB,hgk,PV.cells]
  have ep:KB (HA G) (.O 1 true) (.tok (.a p) 0 1 off len room false)=[(.a p,0,b)]:=by simp only[KB,hgp]
  have ep2:KB (HA G) (.O 1 true) (.tok (.a p11) 0 1 off2 len2 room2 false)=[(.a p11,0,b2)]:=by simp only[KB,hgp2]
  have eF:∀v,KB (HA G) .F v=[]:=λv=>by unfold KB;rfl
  have es:Ei.ps=[.B false Lt,.F]:=rfl;have eN:jW (HA G) [] []=[]:=rfl;rw[es,jW,jW,eN,eb,eF]at this;simp only[jW,e12,ep,ep2,eF,TL,T6,U2,Vi,TH,ax.a.injEq,true_and,List.not_mem_nil,Vu]at this;rcases this with h|h|h|h
  ·exact .inl h.1
  ·exact .inr (.inl h)
  ·exact .inr (.inr (.inl h))
  ·obtain⟨q,hq,e⟩:=List.mem_map.1 h;simp only[TH,ax.a.injEq,true_and]at e;exact .inr (.inr (.inr ⟨q,hq,e.1.symm,e.2.symm⟩))
 have hT:aM [c0,c1,c2,c3,c4,c5,.tok (.a p) 0 1 off len room false,c7,c8,c9,c10,.tok (.a p11) 0 1 off2 len2 room2 false,c12,c13]=DC ((p,b)::(p11,b2)::D12):=by
  simp only[aM,fW q0,fW q1,fW q2,fW q3,fW q4,fW q5,fW q7,fW q8,fW q9,fW q10,fW q13,hD1,cV,TL,T6,UD];rfl
 have hpx:pl x=true:=by
  have:=nS hpel2;rw[hxc]at this;simpa[cg]using this
 have hnew:cg (b.es.set (off+a) (el.withCells [x]))=true:=by
  refine eY.2 λy hy=>?_;rcases Uu hy with hy|rfl
  ·exact eY.1 hpl y hy
  ·cases el with
   |agg es=>simp only[PV.withCells,pl,ak,hxcell,cg,hpx,Ub]
   |_=>simpa only[PV.withCells,List.headD_cons]using hpx
 obtain⟨G',r1,r2,r3,r4,r5⟩:=Ko (n:=0) hF hP (G:=G) (D:=(p,b)::(p11,b2)::D12) hGk rfl rfl rfl hT
  (λq hq=>by
   rcases List.mem_cons.1 hq with rfl|hq
   ·exact⟨hGp,hpl⟩
   rcases List.mem_cons.1 hq with rfl|hq
   ·exact⟨hGp2,hpl2⟩
   exact⟨(hD3 q hq).1,(hD3 q hq).2.1⟩)
  (by
   simp only[TW,U5,U2,not_or,List.mem_map,not_exists,not_and];refine⟨⟨hkp,hkp2,λq hq e=>(hD12 q hq).1 e.symm⟩,⟨hpp2,λq hq e=>(hD12 q hq).2.1 e.symm⟩,λq hq e=>(hD12 q hq).2.2 e.symm,?_⟩
   match D12,hD2 with
   |[],_=>exact List.nodup_nil
   |[q],_=>simp)
  (by simp;omega) rfl rfl
  (λi y hi hy=>by
   rcases hall i y hy with h|⟨_,rfl⟩|⟨_,rfl⟩|⟨q,hq,_,rfl⟩
   ·exact absurd h hi
   ·exact hpl
   ·exact hpl2
   ·exact(hD3 q hq).2.1)
  ha hbro hel hel1 s5' hj hr2 hel2 (by rw[hxc];rfl) hpx hxcell hnew
 have hGl:G'.length=G.length:=r2;have hd0:G'.drop G.length=[]:=by apply Vo;omega
 have hH:∀(i:Nat)(y:Option Blk),G'[i]?=some y->(HX G.length G').get (.a i)=some ⟨0,y⟩:=λi y hy=>by
  have hi:i<G.length:=by rw[<-hGl];exact(List.getElem?_eq_some_iff.mp hy).1
  simp[HX,Heap.get,List.getElem?_take_of_lt hi,hy]
 have hHk:=hH k _ r3;have hHp:=hH p _ r4;have hHp2:(HX G.length G').get (.a p11)=some ⟨0,some b2⟩:=hH p11 _ (by rw[r5 p11 hkp2.symm hpp2.symm,hGp2];rfl);refine⟨_,_,G',r1,⟨by omega,(by rw[hd0];intro y hy;cases hy),⟨λi q=>(i=0/\q=.a p)∨(i=1/\q=.a p11)∨(i=2/\∃q'∈D12,q=.a q'.1),⟨?_,?_,?_,?_,?_,?_,?_,?_⟩⟩,λp hp=>by simp[bW]at hp,λp' hp' k' b' hPk' hG'=>?_⟩,λh=>by simp[K.nL,K.n]at h⟩
 ·exact⟨[],[],rfl,rfl,trivial⟩
 ·have hl1:∀y∈b.es.set (off+a) (el.withCells [x]),y.cells.length=1:=λy hy=>by
   rcases Uu hy with hy|rfl
   ·exact hcl y hy
   ·cases el with
    |agg es=>rfl
    |_=>simp only[PV.withCells,List.headD_cons,rX hxcell,TJ,Um]
  refine⟨⟨.a k,0,n,_,_,rfl,hHk,?_,rfl,⟨q0,rfl⟩,⟨q1,rfl⟩,⟨q2,rfl⟩,⟨q3,rfl⟩,⟨q4,rfl⟩,⟨q5,rfl⟩,⟨?_,?_⟩,⟨q7,rfl⟩,⟨q8,rfl⟩,⟨q9,rfl⟩,⟨q10,rfl⟩,⟨?_,?_⟩,⟨?_,?_⟩,⟨q13,rfl⟩,trivial⟩,trivial⟩
  ·simp[PV.cells,ak,k0,k1,k2,k3,k4,k5,k7,k8,k9,k10,k12,k13];exact⟨rfl,rfl⟩
  ·exact .inr ⟨.a p,0,off,len,room,false,_,rfl,.inl ⟨rfl,rfl⟩,hHp,hbs,by simp;omega,hr,hnew,hl1,rfl⟩
  ·exactλ_=>.inr ⟨.a p,0,1,off,len,room,_,rfl,hHp,rfl,by simp;omega⟩
  ·exact .inr ⟨.a p11,0,off2,j,room2,false,_,rfl,.inr (.inl ⟨rfl,rfl⟩),hHp2,hbs2,by omega,by omega,hpl2,hcl2,rfl⟩
  ·exactλ_=>.inr ⟨.a p11,0,1,off2,j,room2,_,rfl,hHp2,hbro2,hroom2⟩
  all_goals
   rcases sZ (P:=P (0+1+1+1)) (λq hq=>loc _ q hq) t12 (w12 rfl)with⟨hn,hy⟩|⟨p12,off3,len3,room3,b3,rfl,hPp3,hGp3,z1,z2,z3,z4,z5,z6,z7,z8⟩
  ·exact .inl ⟨hn,hy⟩
  ·have hq:∃q∈D12,p12=q.1:=by
    match D12,hD1 with
    |[q],e=>simp only[cV,DC,TW,UW,Vc,TH,ax.a.injEq,U6]at e;exact⟨q,TQ ..,e⟩
    |[],e=>simp[cV,DC]at e
    |_::_::_,e=>simp[cV,DC]at e
   obtain⟨q,hq,e⟩:=hq;obtain⟨n1,n2,n3⟩:=hD12 q hq;have hH12:(HX G.length G').get (.a p12)=some ⟨0,some b3⟩:=hH p12 _ (by rw[r5 p12 (by omega) (by omega),hGp3];rfl);exact .inr ⟨.a p12,0,off3,len3,room3,false,b3,rfl,.inr (.inr ⟨rfl,q,hq,by rw[e]⟩),hH12,z1,z2,z3,z4,z5,z6⟩
  ·exactλ_=>.inl hn
  ·have hq:∃q∈D12,p12=q.1:=by
    match D12,hD1 with
    |[q],e=>simp only[cV,DC,TW,UW,Vc,TH,ax.a.injEq,U6]at e;exact⟨q,TQ ..,e⟩
    |[],e=>simp[cV,DC]at e
    |_::_::_,e=>simp[cV,DC]at e
   obtain⟨q,hq,e⟩:=hq;obtain⟨n1,n2,n3⟩:=hD12 q hq;have hH12:(HX G.length G').get (.a p12)=some ⟨0,some b3⟩:=hH p12 _ (by rw[r5 p12 (by omega) (by omega),hGp3];rfl)
   exactλ_=>.inr ⟨.a p12,0,3,off3,len3,room3,_,rfl,hH12,z7,z8⟩
 ·rintro i j q (⟨rfl,rfl⟩|⟨rfl,rfl⟩|⟨rfl,q',hq',rfl⟩) (⟨rfl,e⟩|⟨rfl,e⟩|⟨rfl,q2,hq2,e⟩)
  ·rfl
  ·exact absurd (ax.a.inj e) hpp2
  ·exact absurd (ax.a.inj e) (hD12 _ hq2).2.1
  ·exact absurd (ax.a.inj e).symm hpp2
  ·rfl
  ·exact absurd (ax.a.inj e) (hD12 _ hq2).2.2
  ·exact absurd (ax.a.inj e).symm (hD12 _ hq').2.1
  ·exact absurd (ax.a.inj e).symm (hD12 _ hq').2.2
  ·rfl
 ·rintro i q q' (⟨rfl,rfl⟩|⟨rfl,rfl⟩|⟨rfl,q1,hq1,rfl⟩) (⟨e0,e⟩|⟨e0,e⟩|⟨e0,q2,hq2,e⟩)
  ·exact e.symm
  ·cases e0
  ·cases e0
  ·cases e0
  ·exact e.symm
  ·cases e0
  ·cases e0
  ·cases e0
  ·rw[e]
   match D12,hD2,hq1,hq2 with
   |[z],_,hq1,hq2=>
    simp only[T1]at hq1 hq2;rw[hq1,hq2]
 ·intro k' hk';omega
 ·rintro i q (⟨rfl,_⟩|⟨rfl,_⟩|⟨rfl,_⟩)<;>decide
 ·rintro i k' (⟨_,e⟩|⟨_,e⟩|⟨_,q',_,e⟩)<;>cases e
 ·rintro i k' (⟨rfl,e⟩|⟨rfl,e⟩|⟨rfl,q',hq',e⟩)
  ·cases e;exact⟨1,.inr ⟨by decide,by decide⟩,hP1⟩
  ·cases e;exact⟨2,.inr ⟨by decide,by decide⟩,hP2⟩
  ·cases e;exact⟨3,.inr ⟨by decide,by decide⟩,(hD3 _ hq').2.2.1⟩
 ·have hkk:k'≠k:=λe=>by
   subst e;have:=uP p' 0 _ hPk' hPk;subst this;exact hp' (by decide)
  by_cases hkp':k'=p
  ·subst hkp';rw[r4]at hG';cases hG';exact hnew
  ·rw[r5 k' hkk hkp']at hG';cases hq:G[k']? with
   |none=>rw[hq]at hG';cases hG'
   |some z=>
    rw[hq]at hG';simp only[TT,Ty]at hG';subst hG';rcases hall k' z hq with h|⟨_,rfl⟩|⟨_,rfl⟩|⟨q,hqD,_,rfl⟩
    ·exact absurd h hkk
    ·exact hpl
    ·exact hpl2
    ·exact(hD3 q hqD).2.1
end Gv
