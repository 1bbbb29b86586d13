/- A part of the proof that the law is true of all its inputs, by an interpreter that is proved sound. -/
import Derived.Test.YtfaeljmkbadgdaaGreatNb
import Derived.KernelRfl
namespace Gv
open Go
set_option maxHeartbeats 4000000 in
theorem I4{C:b6}{V:Nat->List PV->List PV->Bool}(p:SProg)(who:Int)(l:aT)(args:List Int)(code:List SInstr)(hcl:code.length<=64)(F:Nat)(hF:p.fuel=(F:Int))(hF2:F<=100000)(Inv:Nat->bu->Prop)(I:Js p who code Inv)(hargs:∀s M,Inv s M->M.args=args)(hjm:∀i∈code,i.op=20∨i.op=21->0<=i.a)
  (o1:∀op b,C 253 [.int .i64 op,.int .i64 b]=some (.tup [.int .i64 ((ej op b).getD 0),.bool (ej op b).isSome],[]))(o2:∀op a b,C 254 [.int .i64 op,.int .i64 a,.int .i64 b]=some (.tup [.int .i64 (cQ op a b).1,.int .i64 (cQ op a b).2],[]))
  (x:bu×Int×Nat)(M0:bu)(hI0:Inv 0 M0)(hx:vY code F M0 0=some x)(env:Env)(h0:wR p who l args code M0 0 env):
  (∃e,aL C V (.block 0 (.loop jZ)) env=some (.norm e)/\x.2.1=0/\Inv x.2.2 x.1/\wR p who l args code x.1 x.2.2 e)∨∃v,aL C V (.block 0 (.loop jZ)) env=some (.ret v [])/\v=.agg (pU (oT l x)):=by
 rw[jZ];refine jD (C:=C) (V:=V) (m:=F) (by omega) (λf e=>∃(M:bu)(s:Nat),Inv s M/\vY code f M s=some x/\f+s=F/\wR p who l args code M s e)
  (λe=>x.2.1=0/\Inv x.2.2 x.1/\wR p who l args code x.1 x.2.2 e) (λv=>v=.agg (pU (oT l x))) (λf e ⟨M,s,hI,hg,hfs,hS⟩=>?_) ⟨M0,0,hI0,hx,by omega,h0⟩
 have lc:bO (cw code)=some (.int .i64 code.length):=fG;have en:dS []=.lst [] false:=rfl;have fc:(cw code).fits none=true:=rfl;by_cases hat:0<=M.at'/\M.at'<code.length
 rotate_left
 ·left;have hx2:x=(M,0,s):=by
   unfold vY at hg;rw[TF hat]at hg;exact(UF hg).symm
  have hlt:¬Fl code M.at'<(code.length:Int):=by
   unfold Fl;split<;>omega
  refine⟨e,by simp only[we,↓reduceIte,hS.e11,hS.e17,lc,hlt],by rw[hx2],by rw[hx2];exact hI,by rw[hx2];exact hS⟩
 right;have hatd:Fl code M.at'=M.at':=by unfold Fl;rw[TF (by omega)]
 obtain⟨j,hj⟩:=Ug hat.1;have e17:=hS.e17;rw[hatd,hj]at e17;have hjl:(j:Int)<(code.length:Int):=by omega
 have e5f:e 5=.lptr [iw p.handlers,i4 p.actors,dS p.boot,.int .i64 (F:Nat)]:=by rw[hS.e5,hF]
 refine⟨e,by simp only[we,↓reduceIte,hS.e11,e17,lc,hjl],?_⟩;cases f with
 | zero=>
  right;have hx2:x=(M,2,s):=by
   unfold vY at hg;rw[TB hat]at hg;exact(UF hg).symm
  have hlt:(F:Int)<=(s:Int):=by omega
  refine⟨_,?_,rfl⟩;rw[hx2];refine bt (ah ?_);simp only[we,↓reduceIte,Nat.reduceEqDiff,Int.reduceEq,hS.e16,e5f,hS.e13,hlt,pU,oT,en]
 | succ f=>
  obtain⟨i,hi,him⟩:=aN (l:=code) (k:=j) (by omega);have hi':code[M.at'.toNat]?=some i:=by rw[hj];exact hi
  have ok:=I.ok s M i hI (by omega) hat.1 hi';have ic:=od hi;have hlt:¬(F:Int)<=(s:Int):=by omega
  have ad:=bT (k:=s) (by omega);have ad2:=bT (k:=j) (by omega);have hst:=ok.stack;have hnt:=ok.notes;obtain⟨hp,hw⟩:=I.prog s M hI;have hma:=hargs s M hI;unfold vY at hg;rw[TB hat]at hg;simp only[hi']at hg;cases hd:da M i with
  |none=>rw[hd]at hg;cases hg
  | some y=>
   obtain⟨N,d⟩:=y;rw[hd]at hg;simp only at hg;have ls:=CS M.stack;refine I5 (ym (by simp only[we,↓reduceIte,hS.e16,e5f,hlt];rfl) (ym (by simp only[we,↓reduceIte,Nat.reduceEqDiff,Nat.reduceAdd,Tz,hS.e16,hS.e11,e17,hS.e15,ad,ic,ad2,ls];rfl) ?_));have goon:d=0->∀e2:Env,wR p who l args code N (s+1) e2->(f<f+1/\∃(M:bu)(s:Nat),Inv s M/\vY code f M s=some x/\f+s=F/\wR p who l args code M s e2):=λh0d e2 h2=>by
    subst h0d;rw[TB rfl]at hg;exact⟨by omega,N,s+1,I.step s M i N hI (by omega) hat.1 hi' hd,hg,by omega,h2⟩
   have fall:d≠0->PV.agg [eI l.regs,.bool l.armed,.int .i64 d,.int .i64 l.sent,.int .i64 l.over,.lst [] false,.int .i64 ((s+1:Nat):Int)]=.agg (pU (oT l x)):=λh0d=>by
    rw[TF h0d]at hg;rw[<-UF hg];simp[pU,oT,h0d,en]
   have at1:Fl code (M.at'+1)=((j+1:Nat):Int):=by unfold Fl;rw[TF (by omega)];omega
   generalize hE:Env.set _ 76 _=e' at*;have g1:e' 1=.int .i64 who:=by rw[<-hE];simp[hS.e1]
   have g4:e' 4=eI args:=by rw[<-hE];simp[hS.e4]
   have g5:e' 5=.lptr [iw p.handlers,i4 p.actors,dS p.boot,.int .i64 p.fuel]:=by rw[<-hE];simp[hS.e5]
   have g11:e' 11=cw code:=by rw[<-hE];simp[hS.e11]
   have g12:e' 12=.lptr [eI M.loc.regs,.bool M.loc.armed,.int .i64 M.loc.down,.int .i64 M.loc.sent,.int .i64 M.loc.over]:=by rw[<-hE];simp[hS.e12]
   have g13:e' 13=.lptr [eI l.regs,.bool l.armed,.int .i64 l.down,.int .i64 l.sent,.int .i64 l.over]:=by rw[<-hE];simp[hS.e13]
   have g14:e' 14=dS M.notes:=by rw[<-hE];simp[hS.e14]
   have g15:e' 15=nR M.stack:=by rw[<-hE];simp[hS.e15]
   have g16:e' 16=.int .i64 ((s+1:Nat):Int):=by rw[<-hE];simp
   have g17:e' 17=.int .i64 ((j+1:Nat):Int):=by rw[<-hE];simp
   have g18:e' 18=.lptr [.int .i64 i.op,.int .i64 i.a]:=by rw[<-hE];simp
   have g19:e' 19=.int .i64 (M.stack.length:Nat):=by rw[<-hE];simp
   have g76:e' 76=.int .i64 i.op:=by rw[<-hE];simp
   clear hE;have at1':Fl code (M.at'+1)=(j:Int)+1:=by rw[at1];omega
   rcases mA ok.valid with ho|ho|ho|ho|ho|ho|ho|ho|ho|ho|ho|ho|ho|ho|ho|ho|ho|ho|ho|ho|ho|ho|ho|ho|ho
   ·simp only[da,ho,TY,Ty,TH]at hd;obtain⟨rfl,rfl⟩:=hd;have ap:=kh M.stack i.a (by omega);left;refine⟨_,f,by simp only[we,↓reduceIte,Int.reduceNeg,g76,ho,g15,g18,ap];rfl,goon rfl _ ⟨?_,?_,?_,?_,?_,?_,?_,?_,?_,?_⟩⟩<;>simp[g1,g4,g5,g11,g12,g13,g14,g16,g17,at1']
   ·cases hs:M.stack with
    |nil=>simp[da,ho,hs]at hd
    |cons x t=>
     simp only[da,ho,hs,Int.reduceEq,TY,TU,Ty,TH]at hd;obtain⟨rfl,rfl⟩:=hd;rw[hs]at hst g15 g19;simp only[TJ]at hst g19;have s1:=oe (n:=t.length) (by omega);have s2:=r8 x t;left;refine⟨_,f,by simp only[we,↓reduceIte,Int.reduceEq,Int.reduceNeg,g76,ho,g15,g19,s1,s2];rfl,goon rfl _ ⟨?_,?_,?_,?_,?_,?_,?_,?_,?_,?_⟩⟩<;>simp[g1,g4,g5,g11,g12,g13,g14,g16,g17,at1']
   ·cases hs:M.stack with
    |nil=>simp[da,ho,hs]at hd
    |cons x t=>
     simp only[da,ho,hs,Int.reduceEq,TY,TU,Ty,TH]at hd;obtain⟨rfl,rfl⟩:=hd;rw[hs]at hst g15 g19;simp only[TJ]at hst g19;have s1:=oe (n:=t.length) (by omega);have i1:=eZ x t;have ap:=kh (x::t) x (by simp;omega);left;refine⟨_,f,by simp only[we,↓reduceIte,Int.reduceEq,Int.reduceNeg,g76,ho,g15,g19,s1,i1,ap];rfl,goon rfl _ ⟨?_,?_,?_,?_,?_,?_,?_,?_,?_,?_⟩⟩<;>simp[g1,g4,g5,g11,g12,g13,g14,g16,g17,at1']
   ·match hs:M.stack with
    |[]=>simp[da,ho,hs]at hd
    |[x]=>simp[da,ho,hs]at hd
    |b::a::t=>
     simp only[da,ho,hs,Int.reduceEq,TY,TU,Ty,TH]at hd;obtain⟨rfl,rfl⟩:=hd;rw[hs]at hst g15 g19;simp only[TJ]at hst g19;have s1:=oe (n:=(a::t).length) (by simp;omega);have s2:=yW (n:=t.length) (by omega);have i1:=eZ b (a::t);have i2:=nE a b t;have sl:=nP a b t;have a0:=pO t (by omega);have ap:=OM t b a (by omega);simp only[TJ]at s1 i1;left;refine⟨_,f,by simp only[we,↓reduceIte,Int.reduceEq,Int.reduceNeg,g76,ho,g15,g19,s1,s2,i1,i2,sl,a0,ap];rfl,goon rfl _ ⟨?_,?_,?_,?_,?_,?_,?_,?_,?_,?_⟩⟩<;>simp[g1,g4,g5,g11,g12,g13,g14,g16,g17,at1']
   ·obtain⟨k,hk⟩:=Ug (ok.reg (by omega));have lr:bO (eI M.loc.regs)=some (.int .i64 M.loc.regs.length):=cE;simp only[da,yC,ho,hk,TV,Int.reduceEq,Vl,TY,TU,TT,Ty,TH]at hd;obtain⟨rfl,rfl⟩:=hd;cases hx:M.loc.regs[k]? with
    |none=>
     have hl:¬(k:Int)<(M.loc.regs.length:Int):=by rw[List.getElem?_eq_none_iff]at hx;omega
     have ap:=kh M.stack 0 (by omega);simp only[hx]at goon;left;refine⟨_,f,by simp only[we,↓reduceIte,Nat.reduceEqDiff,Int.reduceEq,Int.reduceNeg,g76,ho,g15,g18,hk,g12,lr,hl,ap];rfl,goon trivial _ ⟨?_,?_,?_,?_,?_,?_,?_,?_,?_,?_⟩⟩<;>simp[g1,g4,g5,g11,g12,g13,g14,g16,g17,at1']
    |some x=>
     have hl:(k:Int)<(M.loc.regs.length:Int):=by have:=(List.getElem?_eq_some_iff.mp hx).1;omega
     have ix:=eP hx;have ap:=kh M.stack x (by omega);simp only[hx]at goon;left;refine⟨_,f,by simp only[we,↓reduceIte,Nat.reduceEqDiff,Int.reduceEq,Int.reduceNeg,g76,ho,g15,g18,hk,g12,lr,hl,ix,ap];rfl,goon trivial _ ⟨?_,?_,?_,?_,?_,?_,?_,?_,?_,?_⟩⟩<;>simp[g1,g4,g5,g11,g12,g13,g14,g16,g17,at1']
   ·obtain⟨k,hk⟩:=Ug (ok.reg (by omega));have lr:bO (eI M.loc.regs)=some (.int .i64 M.loc.regs.length):=cE;cases hs:M.stack with
    |nil=>simp[da,yC,ho,hs]at hd
    | cons x t=>
     simp only[da,yC,ho,hk,hs,TV,Int.reduceEq,Vf,TY,TU,TT,Ty,TH]at hd;obtain⟨rfl,rfl⟩:=hd;rw[hs]at hst g15 g19;simp only[TJ]at hst g19;have s1:=oe (n:=t.length) (by omega);have i1:=eZ x t;have s2:=r8 x t;by_cases hl:(k:Int)<(M.loc.regs.length:Int)
     ·have up:=Ev (l:=M.loc.regs) (k:=k) (x:=x) (by omega);obtain⟨y,hy,_⟩:=aN (l:=M.loc.regs) (k:=k) (by omega);have ix:=eP hy;simp only[hl,TY]at goon;left;refine⟨_,f,by simp only[we,↓reduceIte,Nat.reduceEqDiff,Int.reduceEq,Int.reduceNeg,g76,ho,g15,g18,g19,hk,g12,lr,hl,ix,s1,i1,s2,up];rfl,goon trivial _ ⟨?_,?_,?_,?_,?_,?_,?_,?_,?_,?_⟩⟩<;>simp[g1,g4,g5,g11,g13,g14,g16,g17,at1']
     ·simp only[hl,TU]at goon;left;refine⟨_,f,by simp only[we,↓reduceIte,Int.reduceEq,Int.reduceNeg,g76,ho,g15,g18,g19,hk,g12,lr,hl,s1,s2];rfl,goon trivial _ ⟨?_,?_,?_,?_,?_,?_,?_,?_,?_,?_⟩⟩<;>simp[g1,g4,g5,g11,g12,g13,g14,g16,g17,at1']
   ·obtain⟨k,hk⟩:=Ug (ok.reg (by omega));cases hx:M.args[k]? with
    |none=>simp[da,ho,hk,hx]at hd
    |some x=>
     simp only[da,ho,hk,hx,TV,Int.reduceEq,Uv,TY,TU,Ty,TH]at hd;obtain⟨rfl,rfl⟩:=hd;rw[hma]at hx;have ix:=eP hx;have ap:=kh M.stack x (by omega);left;refine⟨_,f,by simp only[we,↓reduceIte,Int.reduceEq,Int.reduceNeg,g76,ho,g15,g18,g4,hk,ix,ap];rfl,goon rfl _ ⟨?_,?_,?_,?_,?_,?_,?_,?_,?_,?_⟩⟩<;>simp[g1,g4,g5,g11,g12,g13,g14,g16,g17,at1']
   ·simp only[da,ho,Int.reduceEq,Uv,TY,TU,Ty,TH]at hd;obtain⟨rfl,rfl⟩:=hd;have ap:=kh M.stack who (by omega);simp only[hw]at goon;left;refine⟨_,f,by simp only[we,↓reduceIte,Int.reduceEq,Int.reduceNeg,g76,ho,g15,g1,ap];rfl,goon trivial _ ⟨?_,?_,?_,?_,?_,?_,?_,?_,?_,?_⟩⟩<;>simp[g1,g4,g5,g11,g12,g13,g14,g16,g17,at1']
   ·cases hs:M.stack with
    |nil=>simp[da,bg,ho,hs]at hd
    | cons b t=>
     cases t with
     |nil=>simp[da,bg,ej,ho,hs]at hd
     | cons a t=>
      simp only[da,bg,ej,ho,hs,Int.reduceEq,Uv,TU,Ty,TH]at hd;obtain⟨rfl,hdd⟩:=hd;rw[hs]at hst g15 g19;simp only[TJ]at hst g19;have s1:=oe (n:=(a::t).length) (by simp;omega);have s2:=yW (n:=t.length) (by omega);have i1:=eZ b (a::t);have i2:=nE a b t;have sl:=nP a b t;have a0:=pO t (by omega);have ap:=kh t (cQ 9 a b).1 (by omega);have q:=o2 9 a b;simp only[TJ]at s1 i1;by_cases h0d:d=0
      ·left;rw[h0d]at hdd;rw[hdd]at q;subst h0d;refine⟨_,f,by simp only[we,↓reduceIte,Nat.reduceEqDiff,Int.reduceEq,Int.reduceNeg,g76,ho,g15,g18,g19,s1,s2,i1,i2,q,sl,a0,ap];rfl,goon rfl _ ⟨?_,?_,?_,?_,?_,?_,?_,?_,?_,?_⟩⟩<;>simp[g1,g4,g5,g11,g12,g13,g14,g16,g17,at1']
      ·right;rw[hdd]at q;exact⟨_,by simp only[we,↓reduceIte,Nat.reduceEqDiff,Int.reduceEq,Int.reduceNeg,g76,ho,g15,g18,g19,s1,s2,i1,i2,q,h0d,g13,g16],fall h0d⟩
   ·cases hs:M.stack with
    |nil=>simp[da,bg,ho,hs]at hd
    | cons b t=>
     cases t with
     |nil=>simp[da,bg,ej,ho,hs]at hd
     | cons a t=>
      simp only[da,bg,ej,ho,hs,Int.reduceEq,Uv,TU,Ty,TH]at hd;obtain⟨rfl,hdd⟩:=hd;rw[hs]at hst g15 g19;simp only[TJ]at hst g19;have s1:=oe (n:=(a::t).length) (by simp;omega);have s2:=yW (n:=t.length) (by omega);have i1:=eZ b (a::t);have i2:=nE a b t;have sl:=nP a b t;have a0:=pO t (by omega);have ap:=kh t (cQ 10 a b).1 (by omega);have q:=o2 10 a b;simp only[TJ]at s1 i1;by_cases h0d:d=0
      ·left;rw[h0d]at hdd;rw[hdd]at q;subst h0d;refine⟨_,f,by simp only[we,↓reduceIte,Nat.reduceEqDiff,Int.reduceEq,Int.reduceNeg,g76,ho,g15,g18,g19,s1,s2,i1,i2,q,sl,a0,ap];rfl,goon rfl _ ⟨?_,?_,?_,?_,?_,?_,?_,?_,?_,?_⟩⟩<;>simp[g1,g4,g5,g11,g12,g13,g14,g16,g17,at1']
      ·right;rw[hdd]at q;exact⟨_,by simp only[we,↓reduceIte,Nat.reduceEqDiff,Int.reduceEq,Int.reduceNeg,g76,ho,g15,g18,g19,s1,s2,i1,i2,q,h0d,g13,g16],fall h0d⟩
   ·cases hs:M.stack with
    |nil=>simp[da,bg,ho,hs]at hd
    | cons b t=>
     cases t with
     |nil=>simp[da,bg,ej,ho,hs]at hd
     | cons a t=>
      simp only[da,bg,ej,ho,hs,Int.reduceEq,Uv,TU,Ty,TH]at hd;obtain⟨rfl,hdd⟩:=hd;rw[hs]at hst g15 g19;simp only[TJ]at hst g19;have s1:=oe (n:=(a::t).length) (by simp;omega);have s2:=yW (n:=t.length) (by omega);have i1:=eZ b (a::t);have i2:=nE a b t;have sl:=nP a b t;have a0:=pO t (by omega);have ap:=kh t (cQ 11 a b).1 (by omega);have q:=o2 11 a b;simp only[TJ]at s1 i1;by_cases h0d:d=0
      ·left;rw[h0d]at hdd;rw[hdd]at q;subst h0d;refine⟨_,f,by simp only[we,↓reduceIte,Nat.reduceEqDiff,Int.reduceEq,Int.reduceNeg,g76,ho,g15,g18,g19,s1,s2,i1,i2,q,sl,a0,ap];rfl,goon rfl _ ⟨?_,?_,?_,?_,?_,?_,?_,?_,?_,?_⟩⟩<;>simp[g1,g4,g5,g11,g12,g13,g14,g16,g17,at1']
      ·right;rw[hdd]at q;exact⟨_,by simp only[we,↓reduceIte,Nat.reduceEqDiff,Int.reduceEq,Int.reduceNeg,g76,ho,g15,g18,g19,s1,s2,i1,i2,q,h0d,g13,g16],fall h0d⟩
   ·cases hs:M.stack with
    |nil=>simp[da,bg,ho,hs]at hd
    | cons b t=>
     cases t with
     |nil=>simp[da,bg,ej,ho,hs]at hd
     | cons a t=>
      simp only[da,bg,ej,ho,hs,Int.reduceEq,Uv,TU,Ty,TH]at hd;obtain⟨rfl,hdd⟩:=hd;rw[hs]at hst g15 g19;simp only[TJ]at hst g19;have s1:=oe (n:=(a::t).length) (by simp;omega);have s2:=yW (n:=t.length) (by omega);have i1:=eZ b (a::t);have i2:=nE a b t;have sl:=nP a b t;have a0:=pO t (by omega);have ap:=kh t (cQ 12 a b).1 (by omega);have q:=o2 12 a b;simp only[TJ]at s1 i1;by_cases h0d:d=0
      ·left;rw[h0d]at hdd;rw[hdd]at q;subst h0d;refine⟨_,f,by simp only[we,↓reduceIte,Nat.reduceEqDiff,Int.reduceEq,Int.reduceNeg,g76,ho,g15,g18,g19,s1,s2,i1,i2,q,sl,a0,ap];rfl,goon rfl _ ⟨?_,?_,?_,?_,?_,?_,?_,?_,?_,?_⟩⟩<;>simp[g1,g4,g5,g11,g12,g13,g14,g16,g17,at1']
      ·right;rw[hdd]at q;exact⟨_,by simp only[we,↓reduceIte,Nat.reduceEqDiff,Int.reduceEq,Int.reduceNeg,g76,ho,g15,g18,g19,s1,s2,i1,i2,q,h0d,g13,g16],fall h0d⟩
   ·cases hs:M.stack with
    |nil=>simp[da,bg,ho,hs]at hd
    | cons b t=>
     cases t with
     |nil=>simp[da,bg,ej,ho,hs]at hd
     | cons a t=>
      simp only[da,bg,ej,ho,hs,Int.reduceEq,Uv,TU,Ty,TH]at hd;obtain⟨rfl,hdd⟩:=hd;rw[hs]at hst g15 g19;simp only[TJ]at hst g19;have s1:=oe (n:=(a::t).length) (by simp;omega);have s2:=yW (n:=t.length) (by omega);have i1:=eZ b (a::t);have i2:=nE a b t;have sl:=nP a b t;have a0:=pO t (by omega);have ap:=kh t (cQ 13 a b).1 (by omega);have q:=o2 13 a b;simp only[TJ]at s1 i1;by_cases h0d:d=0
      ·left;rw[h0d]at hdd;rw[hdd]at q;subst h0d;refine⟨_,f,by simp only[we,↓reduceIte,Nat.reduceEqDiff,Int.reduceEq,Int.reduceNeg,g76,ho,g15,g18,g19,s1,s2,i1,i2,q,sl,a0,ap];rfl,goon rfl _ ⟨?_,?_,?_,?_,?_,?_,?_,?_,?_,?_⟩⟩<;>simp[g1,g4,g5,g11,g12,g13,g14,g16,g17,at1']
      ·right;rw[hdd]at q;exact⟨_,by simp only[we,↓reduceIte,Nat.reduceEqDiff,Int.reduceEq,Int.reduceNeg,g76,ho,g15,g18,g19,s1,s2,i1,i2,q,h0d,g13,g16],fall h0d⟩
   ·cases hs:M.stack with
    |nil=>simp[da,bg,ho,hs]at hd
    |cons b t=>
     have q:=o1 14 b;simp only[da,bg,ej,ho,hs,Int.reduceEq,Uv,TY,TU,Ty,TH]at hd;simp only[ej,Int.reduceEq,TY,TU,TS,UL]at q;obtain⟨rfl,rfl⟩:=hd;rw[hs]at hst g15 g19;simp only[TJ]at hst g19;have s1:=oe (n:=t.length) (by omega);have i1:=eZ b t;have sl:=r8 b t;have a0:=pO t (by omega);have ap:=λx=>kh t x (by omega);left;refine⟨_,f,by simp only[we,↓reduceIte,Nat.reduceEqDiff,Int.reduceEq,Int.reduceNeg,g76,ho,g15,g18,g19,s1,i1,q,sl,a0,ap];rfl,goon rfl _ ⟨?_,?_,?_,?_,?_,?_,?_,?_,?_,?_⟩⟩<;>simp[g1,g4,g5,g11,g12,g13,g14,g16,g17,at1']
   ·cases hs:M.stack with
    |nil=>simp[da,bg,ho,hs]at hd
    | cons b t=>
     cases t with
     |nil=>simp[da,bg,ej,ho,hs]at hd
     | cons a t=>
      simp only[da,bg,ej,ho,hs,Int.reduceEq,Uv,TU,Ty,TH]at hd;obtain⟨rfl,hdd⟩:=hd;rw[hs]at hst g15 g19;simp only[TJ]at hst g19;have s1:=oe (n:=(a::t).length) (by simp;omega);have s2:=yW (n:=t.length) (by omega);have i1:=eZ b (a::t);have i2:=nE a b t;have sl:=nP a b t;have a0:=pO t (by omega);have ap:=kh t (cQ 15 a b).1 (by omega);have q:=o2 15 a b;simp only[TJ]at s1 i1;by_cases h0d:d=0
      ·left;rw[h0d]at hdd;rw[hdd]at q;subst h0d;refine⟨_,f,by simp only[we,↓reduceIte,Nat.reduceEqDiff,Int.reduceEq,Int.reduceNeg,g76,ho,g15,g18,g19,s1,s2,i1,i2,q,sl,a0,ap];rfl,goon rfl _ ⟨?_,?_,?_,?_,?_,?_,?_,?_,?_,?_⟩⟩<;>simp[g1,g4,g5,g11,g12,g13,g14,g16,g17,at1']
      ·right;rw[hdd]at q;exact⟨_,by simp only[we,↓reduceIte,Nat.reduceEqDiff,Int.reduceEq,Int.reduceNeg,g76,ho,g15,g18,g19,s1,s2,i1,i2,q,h0d,g13,g16],fall h0d⟩
   ·cases hs:M.stack with
    |nil=>simp[da,bg,ho,hs]at hd
    | cons b t=>
     cases t with
     |nil=>simp[da,bg,ej,ho,hs]at hd
     | cons a t=>
      simp only[da,bg,ej,ho,hs,Int.reduceEq,Uv,TU,Ty,TH]at hd;obtain⟨rfl,hdd⟩:=hd;rw[hs]at hst g15 g19;simp only[TJ]at hst g19;have s1:=oe (n:=(a::t).length) (by simp;omega);have s2:=yW (n:=t.length) (by omega);have i1:=eZ b (a::t);have i2:=nE a b t;have sl:=nP a b t;have a0:=pO t (by omega);have ap:=kh t (cQ 16 a b).1 (by omega);have q:=o2 16 a b;simp only[TJ]at s1 i1;by_cases h0d:d=0
      ·left;rw[h0d]at hdd;rw[hdd]at q;subst h0d;refine⟨_,f,by simp only[we,↓reduceIte,Nat.reduceEqDiff,Int.reduceEq,Int.reduceNeg,g76,ho,g15,g18,g19,s1,s2,i1,i2,q,sl,a0,ap];rfl,goon rfl _ ⟨?_,?_,?_,?_,?_,?_,?_,?_,?_,?_⟩⟩<;>simp[g1,g4,g5,g11,g12,g13,g14,g16,g17,at1']
      ·right;rw[hdd]at q;exact⟨_,by simp only[we,↓reduceIte,Nat.reduceEqDiff,Int.reduceEq,Int.reduceNeg,g76,ho,g15,g18,g19,s1,s2,i1,i2,q,h0d,g13,g16],fall h0d⟩
   ·cases hs:M.stack with
    |nil=>simp[da,bg,ho,hs]at hd
    | cons b t=>
     cases t with
     |nil=>simp[da,bg,ej,ho,hs]at hd
     | cons a t=>
      simp only[da,bg,ej,ho,hs,Int.reduceEq,Uv,TU,Ty,TH]at hd;obtain⟨rfl,hdd⟩:=hd;rw[hs]at hst g15 g19;simp only[TJ]at hst g19;have s1:=oe (n:=(a::t).length) (by simp;omega);have s2:=yW (n:=t.length) (by omega);have i1:=eZ b (a::t);have i2:=nE a b t;have sl:=nP a b t;have a0:=pO t (by omega);have ap:=kh t (cQ 17 a b).1 (by omega);have q:=o2 17 a b;simp only[TJ]at s1 i1;by_cases h0d:d=0
      ·left;rw[h0d]at hdd;rw[hdd]at q;subst h0d;refine⟨_,f,by simp only[we,↓reduceIte,Nat.reduceEqDiff,Int.reduceEq,Int.reduceNeg,g76,ho,g15,g18,g19,s1,s2,i1,i2,q,sl,a0,ap];rfl,goon rfl _ ⟨?_,?_,?_,?_,?_,?_,?_,?_,?_,?_⟩⟩<;>simp[g1,g4,g5,g11,g12,g13,g14,g16,g17,at1']
      ·right;rw[hdd]at q;exact⟨_,by simp only[we,↓reduceIte,Nat.reduceEqDiff,Int.reduceEq,Int.reduceNeg,g76,ho,g15,g18,g19,s1,s2,i1,i2,q,h0d,g13,g16],fall h0d⟩
   ·cases hs:M.stack with
    |nil=>simp[da,bg,ho,hs]at hd
    | cons b t=>
     cases t with
     |nil=>simp[da,bg,ej,ho,hs]at hd
     | cons a t=>
      simp only[da,bg,ej,ho,hs,Int.reduceEq,Uv,TU,Ty,TH]at hd;obtain⟨rfl,hdd⟩:=hd;rw[hs]at hst g15 g19;simp only[TJ]at hst g19;have s1:=oe (n:=(a::t).length) (by simp;omega);have s2:=yW (n:=t.length) (by omega);have i1:=eZ b (a::t);have i2:=nE a b t;have sl:=nP a b t;have a0:=pO t (by omega);have ap:=kh t (cQ 18 a b).1 (by omega);have q:=o2 18 a b;simp only[TJ]at s1 i1;by_cases h0d:d=0
      ·left;rw[h0d]at hdd;rw[hdd]at q;subst h0d;refine⟨_,f,by simp only[we,↓reduceIte,Nat.reduceEqDiff,Int.reduceEq,Int.reduceNeg,g76,ho,g15,g18,g19,s1,s2,i1,i2,q,sl,a0,ap];rfl,goon rfl _ ⟨?_,?_,?_,?_,?_,?_,?_,?_,?_,?_⟩⟩<;>simp[g1,g4,g5,g11,g12,g13,g14,g16,g17,at1']
      ·right;rw[hdd]at q;exact⟨_,by simp only[we,↓reduceIte,Nat.reduceEqDiff,Int.reduceEq,Int.reduceNeg,g76,ho,g15,g18,g19,s1,s2,i1,i2,q,h0d,g13,g16],fall h0d⟩
   ·cases hs:M.stack with
    |nil=>simp[da,bg,ho,hs]at hd
    |cons b t=>
     have q:=o1 19 b;simp only[da,bg,ej,ho,hs,Int.reduceEq,Uv,TY,TU,Ty,TH]at hd;simp only[ej,Int.reduceEq,TY,TU,TS,UL]at q;obtain⟨rfl,rfl⟩:=hd;rw[hs]at hst g15 g19;simp only[TJ]at hst g19;have s1:=oe (n:=t.length) (by omega);have i1:=eZ b t;have sl:=r8 b t;have a0:=pO t (by omega);have ap:=λx=>kh t x (by omega);left;refine⟨_,f,by simp only[we,↓reduceIte,Nat.reduceEqDiff,Int.reduceEq,Int.reduceNeg,g76,ho,g15,g18,g19,s1,i1,q,sl,a0,ap];rfl,goon rfl _ ⟨?_,?_,?_,?_,?_,?_,?_,?_,?_,?_⟩⟩<;>simp[g1,g4,g5,g11,g12,g13,g14,g16,g17,at1']
   ·simp only[da,ho,Int.reduceEq,Uv,TY,TU,Ty,TH]at hd;obtain⟨rfl,rfl⟩:=hd;have hja:=hjm i him (by omega);have at2:Fl code i.a=i.a:=by unfold Fl;rw[TF (by omega)]
    left;refine⟨_,f,by simp only[we,↓reduceIte,Nat.reduceEqDiff,Int.reduceEq,Int.reduceNeg,g76,ho,g18];rfl,goon rfl _ ⟨?_,?_,?_,?_,?_,?_,?_,?_,?_,?_⟩⟩<;>simp[g1,g4,g5,g11,g12,g13,g14,g15,g16,at2]
   ·have hja:=hjm i him (by omega);have at2:Fl code i.a=i.a:=by unfold Fl;rw[TF (by omega)]
    cases hs:M.stack with
    |nil=>simp[da,ho,hs]at hd
    | cons x t=>
     simp only[da,ho,hs,Int.reduceEq,Uv,TY,TU,Ty,TH]at hd;obtain⟨hN,rfl⟩:=hd;rw[hs]at hst g15 g19;simp only[TJ]at hst g19;have s1:=oe (n:=t.length) (by omega);have i1:=eZ x t;have s2:=r8 x t;left;by_cases hx0:x=0
     ·rw[TB hx0]at hN;subst hN;subst hx0;refine⟨_,f,by simp only[we,↓reduceIte,Nat.reduceEqDiff,Int.reduceEq,Int.reduceNeg,g76,ho,g15,g18,g19,s1,i1,s2];rfl,goon rfl _ ⟨?_,?_,?_,?_,?_,?_,?_,?_,?_,?_⟩⟩<;>simp[g1,g4,g5,g11,g12,g13,g14,g16,at2]
     ·rw[TF hx0]at hN;subst hN;refine⟨_,f,by simp only[we,↓reduceIte,Nat.reduceEqDiff,Int.reduceEq,Int.reduceNeg,g76,ho,g15,g19,s1,i1,hx0,s2];rfl,goon rfl _ ⟨?_,?_,?_,?_,?_,?_,?_,?_,?_,?_⟩⟩<;>simp[g1,g4,g5,g11,g12,g13,g14,g16,g17,at1']
   ·obtain⟨hh1,hh2⟩:=ok.send ho;rw[hp]at hh2;obtain⟨q,h,hq,hh,ha⟩:=iC hh1 hh2;have hha:=ok.args h (by rw[hp];exact TC hh);have ih:=iK hh;cases hs:M.stack with
    |nil=>simp[da,pL,ho,hs]at hd
    | cons x t=>
     have hsd:da M i=pL {M with at':=M.at'+1} i.a:=by simp[da,ho]
     rw[hsd,pL]at hd;simp only[hs,hp]at hd;rw[hs]at hst g15 g19;simp only[TJ]at hst g19;have s1:=oe (n:=t.length) (by omega);have i1:=eZ x t;by_cases q1:x<0∨(p.actors.length:Int)<=x
     ·rw[TB q1]at hd;cases hd;right;by_cases q2:x<0
      ·exact⟨_,by simp only[we,↓reduceIte,Nat.reduceEqDiff,reduceCtorEq,Int.reduceEq,Int.reduceNeg,g76,ho,g15,g18,g19,s1,i1,g5,hq,ih,q2,g13,g16],fall (by decide)⟩
      ·have q3:(p.actors.length:Int)<=x:=by omega
       exact⟨_,by simp only[we,↓reduceIte,Nat.reduceEqDiff,Int.reduceEq,Int.reduceNeg,g76,ho,g15,g18,g19,s1,i1,g5,hq,ih,q2,q3,bP,g13,g16],fall (by decide)⟩
     ·rw[TF q1]at hd;have q2:¬x<0:=by omega
      have q3:¬(p.actors.length:Int)<=x:=by omega
      split at hd
      rotate_left
      ·cases hd
      rename_i hk;simp only[Ty,TH]at hd;obtain⟨rfl,rfl⟩:=hd;obtain⟨k,hka⟩:=Ug hha.1;rw[ha,hka]at hk goon;simp only[TV]at hk goon;have sb:aI .sub .i64 (t.length:Int) .i64 (k:Int)=some (.int .i64 ((t.length-k:Nat):Int)):=by
       rw[vr (by omega) (by omega)];congr 2;omega
      have sl1:cj 1 (nR (x::t)) (.int .i64 ((t.length-k:Nat):Int)) (.int .i64 (t.length:Nat)) (.tup [])=some (eI (t.take k).reverse):=by
       rw[nR,Ee (by omega) (by simp),U9,Vv (by simp),List.drop_reverse,show t.length-(t.length-k)=k by omega,U7 (by simp;omega),UB (by simp;omega)]
      have sl2:cj 1 (nR (x::t)) (.tup []) (.int .i64 ((t.length-k:Nat):Int)) (.tup [])=some (nR (t.drop k)):=by
       rw[nR,qI (by simp;omega),U9,U7 (by simp),List.take_reverse,show t.length-(t.length-k)=k by omega,nR]
      have a0:=Jj (t.take k).reverse (by simp;omega);have ap:=Q8 (a:=M.notes) (b:=[⟨x,i.a,(t.take k).reverse⟩]) (by simp;omega);have en2:dS [⟨x,i.a,(t.take k).reverse⟩]=.lst [.agg [.int .i64 x,.int .i64 i.a,eI (t.take k).reverse]] false:=rfl;rw[en2]at ap;rw[hka]at ih;rw[hq]at ap goon g18;left;refine⟨_,f,by simp only[we,↓reduceIte,Nat.reduceEqDiff,Int.reduceEq,Int.reduceNeg,g76,ho,g15,g18,g19,s1,i1,g5,g14,ih,q2,q3,bP,sb,sl1,sl2,a0,ap];rfl,goon trivial _ ⟨?_,?_,?_,?_,?_,?_,?_,?_,?_,?_⟩⟩<;>simp[g1,g4,g5,g11,g12,g13,g16,g17,at1']
   ·simp only[da,ho,Int.reduceEq,Uv,TY,TU,Ty,TH]at hd;obtain⟨rfl,rfl⟩:=hd;obtain⟨w,hw2⟩:=Ug ok.who.1;have hw3:=ok.who.2;rw[hp,hw2]at hw3;obtain⟨a,ha,_⟩:=aN (l:=p.actors) (k:=w) (by omega);have ti:oD M=a.timer:=by unfold oD;rw[hp,hw2,TV,ha]
    have ia:=gY ha;rw[ti]at goon;have g1':e' 1=.int .i64 (w:Nat):=by rw[g1,<-hw,hw2]
    left;cases hb:M.loc.armed with
    |true=>
     rw[hb]at g12 goon;refine⟨_,f,by simp only[we,↓reduceIte,Nat.reduceEqDiff,reduceCtorEq,Int.reduceEq,Int.reduceNeg,g76,ho,g12];rfl,goon rfl _ ⟨?_,?_,?_,?_,?_,?_,?_,?_,?_,?_⟩⟩<;>simp[g1,g4,g5,g11,g13,g14,g15,g16,g17,at1']
    |false=>
     rw[hb]at g12 goon;by_cases ht:a.timer= -1
     ·refine⟨_,f,by simp only[we,↓reduceIte,Nat.reduceEqDiff,Int.reduceEq,Int.reduceNeg,g76,ho,g12,g5,g1',ia,ht];rfl,goon rfl _ ⟨?_,?_,?_,?_,?_,?_,?_,?_,?_,?_⟩⟩<;>simp[g1,g4,g5,g11,g13,g14,g15,g16,g17,at1',ht]
     ·refine⟨_,f,by simp only[we,↓reduceIte,Nat.reduceEqDiff,Int.reduceEq,Int.reduceNeg,g76,ho,g12,g5,g1',ia,ht];rfl,goon rfl _ ⟨?_,?_,?_,?_,?_,?_,?_,?_,?_,?_⟩⟩<;>simp[g1,g4,g5,g11,g13,g14,g15,g16,g17,at1',ht]
   ·simp only[da,ho,Int.reduceEq,Uv,TY,TU,Ty,TH]at hd;obtain⟨rfl,rfl⟩:=hd;left;refine⟨_,f,by simp only[we,↓reduceIte,Nat.reduceEqDiff,Int.reduceEq,Int.reduceNeg,g76,ho,g12];rfl,goon rfl _ ⟨?_,?_,?_,?_,?_,?_,?_,?_,?_,?_⟩⟩<;>simp[g1,g4,g5,g11,g13,g14,g15,g16,g17,at1']
   ·simp only[da,ho,Int.reduceEq,Uv,TY,TU,Ty,TH]at hd;obtain⟨rfl,rfl⟩:=hd;have lc:bO (cw code)=some (.int .i64 code.length):=fG;left;refine⟨_,f,by simp only[we,↓reduceIte,Nat.reduceEqDiff,Int.reduceEq,Int.reduceNeg,g76,ho,g11,lc];rfl,goon rfl _ ⟨?_,?_,?_,?_,?_,?_,?_,?_,?_,?_⟩⟩<;>simp[g1,g4,g5,g11,g12,g13,g14,g15,g16,Fl]
theorem NK{m:Nat}(p:SProg)(hp:fL p)(who:Int)(l:aT)(hl:l.regs.length<100000)(k:Nat)(h:SHandler)(hk:p.handlers[k]?=some h)(args:List Int)(hm:r7 p who l k args=true)(hcl:h.code.length<=64)(hf:0<=p.fuel/\p.fuel<=100000)(Inv:Nat->bu->Prop)(I:Js p who h.code Inv)
  (hargs:∀s M,Inv s M->M.args=args)(hjm:∀i∈h.code,i.op=20∨i.op=21->0<=i.a)(h0:Inv 0 ⟨p,who,args,l,[],[],0⟩)(x:bu×Int×Nat)(hx:vY h.code p.fuel.toNat ⟨p,who,args,l,[],[],0⟩ 0=some x):
  aj aG (m+6) 242 [aA p,.int .i64 who,bl l,.int .i64 (k:Nat),eI args]=some (.agg (pU (oT l x)),[]):=by
 refine am (F:=pf) rfl rfl rfl ?_ (.inl rfl);have mr:=Gw (m:=m) p hp who l k args;have o1:=λop b=>N8 (m:=m+3) op b;have o2:=λop a b=>MI (m:=m+3) op a b;generalize aj aG (m+5)=C at*;generalize aY aG=V;obtain⟨F,hF⟩:=Ug hf.1;rw[hF,TV]at hx;have ih:=iK hk;have a0:=Jj l.regs hl;have en:dS []=.lst [] false:=rfl;have es:nR []=.lst [] false:=rfl;have lp:=λe he=>I4 (C:=C) (V:=V) p who l args h.code hcl F hF (by omega) Inv I hargs hjm o1 o2 x ⟨p,who,args,l,[],[],0⟩ h0 hx e he;rw[hm]at mr;simp only[aA,ao,bl,br]at mr;simp only[aA,ao,bl,br,pf];refine nx (by simp only[we,↓reduceIte,Nat.reduceAdd,Tz];rfl) ?_;refine nx (by simp only[we,↓reduceIte,Nat.reduceEqDiff,Int.reduceNeg,un,mr];rfl) ?_;refine nx (by simp only[we,↓reduceIte,Nat.reduceEqDiff,ih,a0];rfl) ?_;generalize hE:Env.set _ 17 _=e;have hR:wR p who l args h.code ⟨p,who,args,l,[],[],0⟩ 0 e:=by
  refine⟨?_,?_,?_,?_,?_,?_,?_,?_,?_,?_⟩<;>rw[<-hE]<;>simp[en,es,Fl,Env.ofArgs_at]
 rcases lp e hR with⟨e2,h1,h2,h3,hS⟩|⟨v,h1,rfl⟩
 ·refine nx h1 ?_;obtain⟨hs1,hs2,hs3⟩:=I.sent x.2.2 x.1 h3;have ln:bO (dS x.1.notes)=some (.int .i64 x.1.notes.length):=d9;have ad:=jo (x:=x.1.loc.sent) (y:=(x.1.notes.length:Int)) (by omega) (by omega);simp only[we,↓reduceIte,Nat.reduceEqDiff,hS.e12,hS.e14,hS.e16,ln,ad,pU,oT,h2]
 ·exact ah h1
structure Qw (M:bu) (i:SInstr) (N:bu) (d:Int):Prop where
 p:N.p=M.p
 who:N.who=M.who
 args:N.args=M.args
 sent:N.loc.sent=M.loc.sent
 regs:N.loc.regs.length=M.loc.regs.length
 down:N.loc.down=M.loc.down
 over:N.loc.over=M.loc.over
 notes:N.notes=M.notes∨∃n,N.notes=M.notes++[n]/\gW M.p n=0
 deep:d=0->(N.stack.length:Int)=M.stack.length-aD M.p i+cM i.op
 next:d=0->N.at'= -1∨(0<=N.at'/\N.at'.toNat∈bj M.at'.toNat i)
theorem Ro{M:bu}{i:SInstr}(hv:eg i.op=true)(hs:aD M.p i<=M.stack.length)(ha:i.op=22->0<=cz M.p i.a/\0<=i.a/\i.a<M.p.handlers.length)(h7:i.op=7->0<=i.a/\i.a<M.args.length)(hj:i.op=20∨i.op=21->0<=i.a)(h0:0<=M.at'):
  ∃N d,da M i=some (N,d)/\Qw M i N d:=by
 have hn:(M.at'+1).toNat=M.at'.toNat+1:=by omega
 rcases mA hv with ho|ho|ho|ho|ho|ho|ho|ho|ho|ho|ho|ho|ho|ho|ho|ho|ho|ho|ho|ho|ho|ho|ho|ho|ho
 ·exact⟨{M with at':=M.at'+1,stack:=i.a::M.stack},0,by simp[da,ho],⟨rfl,rfl,rfl,rfl,rfl,rfl,rfl,.inl rfl,λ_=>(by simp[aD,bm,cM,ho]),λ_=>.inr ⟨by simp only;omega,by simp[bj,ho,hn]⟩⟩⟩
 ·match hst:M.stack with
  |[]=>simp[hst,aD,bm,ho]at hs
  |x::t=>exact⟨{M with at':=M.at'+1,stack:=t},0,by simp[da,ho,hst],⟨rfl,rfl,rfl,rfl,rfl,rfl,rfl,.inl rfl,λ_=>(by simp[hst,aD,bm,cM,ho];try omega),λ_=>.inr ⟨by simp only;omega,by simp[bj,ho,hn]⟩⟩⟩
 ·match hst:M.stack with
  |[]=>simp[hst,aD,bm,ho]at hs
  |x::t=>exact⟨{M with at':=M.at'+1,stack:=x::x::t},0,by simp[da,ho,hst],⟨rfl,rfl,rfl,rfl,rfl,rfl,rfl,.inl rfl,λ_=>(by simp[hst,aD,bm,cM,ho];try omega),λ_=>.inr ⟨by simp only;omega,by simp[bj,ho,hn]⟩⟩⟩
 ·match hst:M.stack with
  |[]=>simp[hst,aD,bm,ho]at hs
  |[_]=>simp[hst,aD,bm,ho]at hs
  |b::a::t=>exact⟨{M with at':=M.at'+1,stack:=a::b::t},0,by simp[da,ho,hst],⟨rfl,rfl,rfl,rfl,rfl,rfl,rfl,.inl rfl,λ_=>(by simp[hst,aD,bm,cM,ho];try omega),λ_=>.inr ⟨by simp only;omega,by simp[bj,ho,hn]⟩⟩⟩
 ·exact⟨{M with at':=M.at'+1,stack:=(match M.loc.regs[i.a.toNat]? with|some x=>x|none=>0)::M.stack},0,by simp[da,yC,ho];rfl,⟨rfl,rfl,rfl,rfl,rfl,rfl,rfl,.inl rfl,λ_=>(by simp[aD,bm,cM,ho]),λ_=>.inr ⟨by simp only;omega,by simp[bj,ho,hn]⟩⟩⟩
 ·match hst:M.stack with
  |[]=>simp[hst,aD,bm,ho]at hs
  |x::t=>exact⟨{M with at':=M.at'+1,stack:=t,loc:=if i.a<M.loc.regs.length then{M.loc with regs:=M.loc.regs.set i.a.toNat x}else M.loc},0,by simp[da,yC,ho,hst],⟨rfl,rfl,rfl,by simp only;split<;>rfl,by simp only;split<;>simp,by simp only;split<;>rfl,by simp only;split<;>rfl,.inl rfl,λ_=>(by simp[hst,aD,bm,cM,ho]),λ_=>.inr ⟨by simp only;omega,by simp[bj,ho,hn]⟩⟩⟩
 ·obtain⟨a1,a2⟩:=h7 ho;have hx:∃x,M.args[i.a.toNat]?=some x:=⟨_,TD (by omega)⟩;obtain⟨x,hx⟩:=hx;exact⟨{M with at':=M.at'+1,stack:=x::M.stack},0,by simp[da,ho,hx],⟨rfl,rfl,rfl,rfl,rfl,rfl,rfl,.inl rfl,λ_=>(by simp[aD,bm,cM,ho]),λ_=>.inr ⟨by simp only;omega,by simp[bj,ho,hn]⟩⟩⟩
 ·exact⟨{M with at':=M.at'+1,stack:=M.who::M.stack},0,by simp[da,ho],⟨rfl,rfl,rfl,rfl,rfl,rfl,rfl,.inl rfl,λ_=>(by simp[aD,bm,cM,ho]),λ_=>.inr ⟨by simp only;omega,by simp[bj,ho,hn]⟩⟩⟩
 ·match hst:M.stack with
  |[]=>simp[hst,aD,bm,ho]at hs
  |[_]=>simp[hst,aD,bm,ho]at hs
  |b::a::t=>exact⟨{M with at':=M.at'+1,stack:=(cQ 9 a b).1::t},(cQ 9 a b).2,by simp[da,bg,ej,ho,hst],⟨rfl,rfl,rfl,rfl,rfl,rfl,rfl,.inl rfl,λ_=>(by simp[hst,aD,bm,cM,ho];try omega),λ_=>.inr ⟨by simp only;omega,by simp[bj,ho,hn]⟩⟩⟩
 ·match hst:M.stack with
  |[]=>simp[hst,aD,bm,ho]at hs
  |[_]=>simp[hst,aD,bm,ho]at hs
  |b::a::t=>exact⟨{M with at':=M.at'+1,stack:=(cQ 10 a b).1::t},(cQ 10 a b).2,by simp[da,bg,ej,ho,hst],⟨rfl,rfl,rfl,rfl,rfl,rfl,rfl,.inl rfl,λ_=>(by simp[hst,aD,bm,cM,ho];try omega),λ_=>.inr ⟨by simp only;omega,by simp[bj,ho,hn]⟩⟩⟩
 ·match hst:M.stack with
  |[]=>simp[hst,aD,bm,ho]at hs
  |[_]=>simp[hst,aD,bm,ho]at hs
  |b::a::t=>exact⟨{M with at':=M.at'+1,stack:=(cQ 11 a b).1::t},(cQ 11 a b).2,by simp[da,bg,ej,ho,hst],⟨rfl,rfl,rfl,rfl,rfl,rfl,rfl,.inl rfl,λ_=>(by simp[hst,aD,bm,cM,ho];try omega),λ_=>.inr ⟨by simp only;omega,by simp[bj,ho,hn]⟩⟩⟩
 ·match hst:M.stack with
  |[]=>simp[hst,aD,bm,ho]at hs
  |[_]=>simp[hst,aD,bm,ho]at hs
  |b::a::t=>exact⟨{M with at':=M.at'+1,stack:=(cQ 12 a b).1::t},(cQ 12 a b).2,by simp[da,bg,ej,ho,hst],⟨rfl,rfl,rfl,rfl,rfl,rfl,rfl,.inl rfl,λ_=>(by simp[hst,aD,bm,cM,ho];try omega),λ_=>.inr ⟨by simp only;omega,by simp[bj,ho,hn]⟩⟩⟩
 ·match hst:M.stack with
  |[]=>simp[hst,aD,bm,ho]at hs
  |[_]=>simp[hst,aD,bm,ho]at hs
  |b::a::t=>exact⟨{M with at':=M.at'+1,stack:=(cQ 13 a b).1::t},(cQ 13 a b).2,by simp[da,bg,ej,ho,hst],⟨rfl,rfl,rfl,rfl,rfl,rfl,rfl,.inl rfl,λ_=>(by simp[hst,aD,bm,cM,ho];try omega),λ_=>.inr ⟨by simp only;omega,by simp[bj,ho,hn]⟩⟩⟩
 ·match hst:M.stack with
  |[]=>simp[hst,aD,bm,ho]at hs
  |x::t=>exact⟨{M with at':=M.at'+1,stack:=(IntKind.i64.wrap (0-x))::t},0,by simp[da,bg,ej,ho,hst],⟨rfl,rfl,rfl,rfl,rfl,rfl,rfl,.inl rfl,λ_=>(by simp[hst,aD,bm,cM,ho];try omega),λ_=>.inr ⟨by simp only;omega,by simp[bj,ho,hn]⟩⟩⟩
 ·match hst:M.stack with
  |[]=>simp[hst,aD,bm,ho]at hs
  |[_]=>simp[hst,aD,bm,ho]at hs
  |b::a::t=>exact⟨{M with at':=M.at'+1,stack:=(cQ 15 a b).1::t},(cQ 15 a b).2,by simp[da,bg,ej,ho,hst],⟨rfl,rfl,rfl,rfl,rfl,rfl,rfl,.inl rfl,λ_=>(by simp[hst,aD,bm,cM,ho];try omega),λ_=>.inr ⟨by simp only;omega,by simp[bj,ho,hn]⟩⟩⟩
 ·match hst:M.stack with
  |[]=>simp[hst,aD,bm,ho]at hs
  |[_]=>simp[hst,aD,bm,ho]at hs
  |b::a::t=>exact⟨{M with at':=M.at'+1,stack:=(cQ 16 a b).1::t},(cQ 16 a b).2,by simp[da,bg,ej,ho,hst],⟨rfl,rfl,rfl,rfl,rfl,rfl,rfl,.inl rfl,λ_=>(by simp[hst,aD,bm,cM,ho];try omega),λ_=>.inr ⟨by simp only;omega,by simp[bj,ho,hn]⟩⟩⟩
 ·match hst:M.stack with
  |[]=>simp[hst,aD,bm,ho]at hs
  |[_]=>simp[hst,aD,bm,ho]at hs
  |b::a::t=>exact⟨{M with at':=M.at'+1,stack:=(cQ 17 a b).1::t},(cQ 17 a b).2,by simp[da,bg,ej,ho,hst],⟨rfl,rfl,rfl,rfl,rfl,rfl,rfl,.inl rfl,λ_=>(by simp[hst,aD,bm,cM,ho];try omega),λ_=>.inr ⟨by simp only;omega,by simp[bj,ho,hn]⟩⟩⟩
 ·match hst:M.stack with
  |[]=>simp[hst,aD,bm,ho]at hs
  |[_]=>simp[hst,aD,bm,ho]at hs
  |b::a::t=>exact⟨{M with at':=M.at'+1,stack:=(cQ 18 a b).1::t},(cQ 18 a b).2,by simp[da,bg,ej,ho,hst],⟨rfl,rfl,rfl,rfl,rfl,rfl,rfl,.inl rfl,λ_=>(by simp[hst,aD,bm,cM,ho];try omega),λ_=>.inr ⟨by simp only;omega,by simp[bj,ho,hn]⟩⟩⟩
 ·match hst:M.stack with
  |[]=>simp[hst,aD,bm,ho]at hs
  |x::t=>exact⟨{M with at':=M.at'+1,stack:=(nK (decide (x=0)))::t},0,by simp[da,bg,ej,ho,hst],⟨rfl,rfl,rfl,rfl,rfl,rfl,rfl,.inl rfl,λ_=>(by simp[hst,aD,bm,cM,ho];try omega),λ_=>.inr ⟨by simp only;omega,by simp[bj,ho,hn]⟩⟩⟩
 ·exact⟨{M with at':=i.a},0,by simp[da,ho],⟨rfl,rfl,rfl,rfl,rfl,rfl,rfl,.inl rfl,λ_=>(by simp[aD,bm,cM,ho]),λ_=>.inr ⟨hj (.inl ho),by simp[bj,ho]⟩⟩⟩
 ·match hst:M.stack with
  |[]=>simp[hst,aD,bm,ho]at hs
  |x::t=>exact⟨if x=0 then{M with stack:=t,at':=i.a}else{M with at':=M.at'+1,stack:=t},0,by simp[da,ho,hst],⟨by split<;>rfl,by split<;>rfl,by split<;>rfl,by split<;>rfl,by split<;>rfl,by split<;>rfl,by split<;>rfl,.inl (by split<;>rfl),λ_=>(by split<;>simp[hst,aD,bm,cM,ho]),λ_=>.inr (by have:=hj (.inr ho);split<;>simp[bj,ho,hn]<;>omega)⟩⟩
 ·obtain⟨g1,g2,g3⟩:=ha ho
  match hst:M.stack with
  |[]=>simp[hst,aD,bm,ho]at hs;omega
  | to::t=>
   have hk:(cz M.p i.a).toNat<=t.length:=by simp[hst,aD,bm,ho]at hs;omega
   by_cases q:to<0∨(M.p.actors.length:Int)<=to
   ·exact⟨{M with at':=M.at'+1,stack:=t},4,by simp[da,pL,ho,hst,q],⟨rfl,rfl,rfl,rfl,rfl,rfl,rfl,.inl rfl,λh=>absurd h (by decide),λh=>absurd h (by decide)⟩⟩
   ·refine⟨{M with at':=M.at'+1,stack:=t.drop (cz M.p i.a).toNat,notes:=M.notes++[⟨to,i.a,(t.take (cz M.p i.a).toNat).reverse⟩]},0,by simp only[da,pL,ho,hst,Int.reduceEq,Uv,TY,TU,TF q,TB hk],⟨rfl,rfl,rfl,rfl,rfl,rfl,rfl,.inr ⟨_,rfl,?_⟩,λ_=>?_,λ_=>.inr ⟨by simp only;omega,by simp[bj,ho,hn]⟩⟩⟩
    ·have:((t.take (cz M.p i.a).toNat).length:Int)=cz M.p i.a:=by rw[T7,Vz hk];omega
     simp only[gW,List.length_reverse,this];rw[TF (by omega),TF (by omega)]
    ·simp only[hst,aD,bm,cM,ho,Ur,TJ];simp;omega
 ·exact⟨{M with at':=M.at'+1,loc:={M.loc with armed:=M.loc.armed|| !decide (oD M= -1)}},0,by simp[da,ho],⟨rfl,rfl,rfl,rfl,rfl,rfl,rfl,.inl rfl,λ_=>(by simp[aD,bm,cM,ho]),λ_=>.inr ⟨by simp only;omega,by simp[bj,ho,hn]⟩⟩⟩
 ·exact⟨{M with at':=M.at'+1,loc:={M.loc with armed:=false}},0,by simp[da,ho],⟨rfl,rfl,rfl,rfl,rfl,rfl,rfl,.inl rfl,λ_=>(by simp[aD,bm,cM,ho]),λ_=>.inr ⟨by simp only;omega,by simp[bj,ho,hn]⟩⟩⟩
 ·exact⟨{M with at':= -1},0,by simp[da,ho],⟨rfl,rfl,rfl,rfl,rfl,rfl,rfl,.inl rfl,λ_=>(by simp[aD,bm,cM,ho]),λ_=>.inl rfl⟩⟩
structure xG (p:SProg) (who:Int) (args:List Int) (l:aT) (code:List SInstr) (D:Nat->Int) (s:Nat) (M:bu):Prop where
 prog:M.p=p
 who:M.who=who
 args:M.args=args
 few:(s:Int)<=p.fuel
 notes:M.notes.length<=s
 note:∀n∈M.notes,gW p n=0
 sent:M.loc.sent=l.sent
 regs:M.loc.regs.length=l.regs.length
 down:M.loc.down=l.down
 over:M.loc.over=l.over
 place:M.at'= -1∨(0<=M.at'/\M.at'<=code.length/\D M.at'.toNat≠ -1/\(M.stack.length:Int)=D M.at'.toNat)
section
variable{p:SProg}{who:Int}{args:List Int}{l:aT}{h:SHandler}{D:Nat->Int}
theorem Hw(ok:DL p)(hD:xQ p h.code D):xG p who args l h.code D 0 ⟨p,who,args,l,[],[],0⟩:=
 ⟨rfl,rfl,rfl,by have:=ok.fuel;omega,TN _,λ_ h=>(by cases h),rfl,rfl,rfl,rfl,.inr ⟨Int.le_refl _,(by simp),(by show D 0≠ -1;rw[hD.start];decide),by show((0:Nat):Int)=D 0;rw[hD.start];rfl⟩⟩
theorem EO(ok:DL p)(hh:h∈p.handlers)(hD:xQ p h.code D)(ha:(args.length:Int)=h.args){s:Nat}{M:bu}{i:SInstr}(R:xG p who args l h.code D s M)(h0:0<=M.at')(hi:h.code[M.at'.toNat]?=some i):
  ∃N d,da M i=some (N,d)/\Qw M i N d/\(M.stack.length:Int)<=14/\dL p.handlers.length h.code.length h.args i=0:=by
 obtain⟨_,h2,h3,h4⟩:0<=M.at'/\M.at'<=h.code.length/\D M.at'.toNat≠ -1/\(M.stack.length:Int)=D M.at'.toNat:=by
  rcases R.place with e|e
  ·omega
  ·exact e
 have him:=TC hi;have hin:=ok.instr h hh i him;have hv:=gm hin;obtain⟨d1,d2⟩:=hD.low _ i hi h3;have hg:=R.prog;have hs22:i.op=22->0<=cz p i.a/\cz p i.a<=4/\0<=i.a/\i.a<p.handlers.length:=λho=>by
  obtain⟨g1,g2⟩:=oA hin ho;obtain⟨j,x,_,hx,e⟩:=iC g1 g2;have:=ok.args x (TC hx);omega
 obtain⟨N,d,e1,e2⟩:=Ro (M:=M) (i:=i) hv (by rw[hg,h4];exact d1) (λho=>by have:=hs22 ho;rw[hg];omega)
  (λho=>by
   rw[R.args];simp[dL,bX,ho]at hin;omega)
  (λho=>by
   rcases ho with ho|ho<;>simp[dL,bX,ho]at hin<;>omega) h0
 refine⟨N,d,e1,e2,?_,hin⟩;have:=mW i.op;have ht:aD p i<=6:=by
  have:=wt i.op;unfold aD;split
  ·rename_i ho;have:=hs22 ho;omega
  ·omega
 omega
theorem Ml(ok:DL p)(hh:h∈p.handlers)(hD:xQ p h.code D)(ha:(args.length:Int)=h.args)(hw:0<=who/\who<p.actors.length)(hs: -1000000000000000000<=l.sent/\l.sent<=1000000000000000000):Js p who h.code (xG p who args l h.code D):=by
 have hcl:=ok.code h hh;have hf:=ok.fuel;refine⟨λs M R=>⟨R.prog,R.who⟩,λs M i R hlt h0 hi=>?_,λs M i N R hlt h0 hi hd=>?_,λs M R=>?_⟩
 ·obtain⟨N,d,e1,e2,e3,hin⟩:=EO ok hh hD ha R h0 hi;have hlt2:=(List.getElem?_eq_some_iff.1 hi).1;have hv:=gm hin;have:=R.notes;refine⟨hv,λho=>?_,λho=>?_,λx hx=>ok.args x (by rw[<-R.prog];exact hx),by rw[R.who,R.prog];exact hw,by omega,by omega,by omega⟩
  ·rcases ho with ho|ho|ho<;>simp[dL,bX,ho]at hin<;>omega
  ·rw[R.prog];exact oA hin ho
 ·obtain⟨N',d,e1,e2,e3,hin⟩:=EO ok hh hD ha R h0 hi;rw[e1]at hd;simp only[Ty,TH]at hd;obtain⟨rfl,rfl⟩:=hd;obtain⟨_,h2,h3,h4⟩:0<=M.at'/\M.at'<=h.code.length/\D M.at'.toNat≠ -1/\(M.stack.length:Int)=D M.at'.toNat:=by
   rcases R.place with e|e
   ·omega
   ·exact e
  have hlt2:=(List.getElem?_eq_some_iff.1 hi).1;refine⟨e2.p.trans R.prog,e2.who.trans R.who,e2.args.trans R.args,by omega,?_,?_,e2.sent.trans R.sent,e2.regs.trans R.regs,e2.down.trans R.down,e2.over.trans R.over,?_⟩
  ·have:=R.notes;rcases e2.notes with e|⟨n,e,_⟩
   ·rw[e];omega
   ·rw[e,Ud];simp;omega
  ·intro n hn;rcases e2.notes with e|⟨n',e,hn'⟩
   ·rw[e]at hn;exact R.note n hn
   ·rw[e]at hn;rcases List.mem_append.1 hn with hn|hn
    ·exact R.note n hn
    ·simp only[T1]at hn;rw[hn,<-R.prog];exact hn'
  ·rcases e2.next rfl with e|⟨g1,g2⟩
   ·exact .inl e
   ·right;have hgo:=hD.go _ i hi h3 _ g2;have hlow:=hD.low _ i hi h3;have hin2:=AA hin hlt2 _ g2;have hdp:=e2.deep rfl;rw[R.prog,h4]at hdp;have:=mW i.op;exact⟨g1,by omega,by rw[hgo];omega,by rw[hgo];exact hdp⟩
 ·have:=R.notes;have:=R.few;rw[R.sent];exact⟨hs.1,hs.2,by omega⟩
theorem Kb(ok:DL p)(hh:h∈p.handlers)(hD:xQ p h.code D)(ha:(args.length:Int)=h.args)(hw:0<=who/\who<p.actors.length)(hs: -1000000000000000000<=l.sent/\l.sent<=1000000000000000000):
  ∀(F:Nat){s:Nat}{M:bu},xG p who args l h.code D s M->(F+s:Int)<=p.fuel->∃x,vY h.code F M s=some x/\(x.2.1=0->xG p who args l h.code D x.2.2 x.1):=by
 have I:=Ml ok hh hD ha hw hs;intro F;induction F with
 |zero=>
  intro s M R _;unfold vY;split
  ·exact⟨_,rfl,λh=>absurd (show(2:Int)=0 from h) (by decide)⟩
  ·exact⟨_,rfl,λ_=>R⟩
 | succ F ih=>
  intro s M R hF;unfold vY;split
  ·rename_i hat;have hi:∃i,h.code[M.at'.toNat]?=some i:=⟨_,TD (by omega)⟩;obtain⟨i,hi⟩:=hi;obtain⟨N,d,e1,e2,_⟩:=EO ok hh hD ha R hat.1 hi;simp only[hi,e1];split
   ·rename_i hd;subst hd;exact ih (I.step s M i N R (by omega) hat.1 hi e1) (by omega)
   ·rename_i hd;exact⟨_,rfl,λh=>absurd h hd⟩
  ·exact⟨_,rfl,λ_=>R⟩
end
def fH(p:SProg)(who:Int)(l:aT)(k:Int)(args:List Int):JH:=
 match p.handlers[k.toNat]? with
 |some h=>match vY h.code p.fuel.toNat ⟨p,who,args,l,[],[],0⟩ 0 with
  |some x=>oT l x
  |none=>⟨l,[],0⟩
 |none=>⟨l,[],0⟩
theorem dW{p:SProg}(h:iY p=0):DL p/\∀x∈p.handlers,dK p x.code:=by
 unfold iY at h;split at h
 ·rename_i h0;exact absurd h h0
 ·rename_i h0;refine⟨Sr (Decidable.of_not_not h0),λx hx=>?_⟩;have:=jL.1 h x hx;unfold rQ at this;split at this
  ·assumption
  ·omega
structure IB (p:SProg) (l:aT) (r:JH):Prop where
 regs:r.loc.regs.length=l.regs.length
 over:r.loc.over=l.over
 down:r.loc.down=l.down∨(r.notes=[]/\r.loc.regs=l.regs/\r.loc.armed=l.armed/\r.loc.sent=l.sent)
 sent:r.loc.sent=l.sent+r.notes.length
 notes:(r.notes.length:Int)<=p.fuel
 note:∀n∈r.notes,gW p n=0
theorem sS{p:SProg}(hp:iY p=0){who:Int}(hw:0<=who/\who<p.actors.length){l:aT}(hs: -1000000000000000000<=l.sent/\l.sent<=1000000000000000000){k:Int}(hk:0<=k/\k<p.handlers.length){args:List Int}(ha:(args.length:Int)=cz p k):
  ∃(j:Nat)(h:SHandler)(D:Nat->Int)(x:bu×Int×Nat),k=(j:Int)/\p.handlers[j]?=some h/\h∈p.handlers/\xQ p h.code D/\(args.length:Int)=h.args/\Js p who h.code (xG p who args l h.code D)/\xG p who args l h.code D 0 ⟨p,who,args,l,[],[],0⟩/\
   vY h.code p.fuel.toNat ⟨p,who,args,l,[],[],0⟩ 0=some x/\fH p who l k args=oT l x/\IB p l (oT l x):=by
 obtain⟨ok,hf⟩:=dW hp;obtain⟨j,h,rfl,hj,e⟩:=iC hk.1 hk.2;have hh:=TC hj;obtain⟨D,hD⟩:=hf h hh;have ha2:(args.length:Int)=h.args:=by rw[ha,e]
 have R0:=Hw (who:=who) (args:=args) (l:=l) ok hD;have I:=Ml (l:=l) ok hh hD ha2 hw hs;have hfu:=ok.fuel;obtain⟨x,hx,hx2⟩:=Kb (l:=l) ok hh hD ha2 hw hs p.fuel.toNat R0 (by omega);refine⟨j,h,D,x,rfl,hj,hh,hD,ha2,I,R0,hx,by simp only[fH,TV,hj,hx],?_⟩;unfold oT;split
 ·rename_i h0;have R:=hx2 h0;have:=R.notes;have:=R.few;exact⟨R.regs,R.over,.inl R.down,by simp only[R.sent],by simp only;omega,R.note⟩
 ·exact⟨rfl,rfl,.inr ⟨rfl,rfl,rfl,rfl⟩,by simp,by simp;omega,λ_ h=>by cases h⟩
theorem PX{m:Nat}(p:SProg)(hp:iY p=0)(who:Int)(hw:0<=who/\who<p.actors.length)(l:aT)(hl:l.regs.length<100000)(hs: -1000000000000000000<=l.sent/\l.sent<=1000000000000000000)(k:Int)(hk:0<=k/\k<p.handlers.length)(args:List Int)(ha:(args.length:Int)=cz p k):
  aj aG (m+5) 149 [aA p,.int .i64 who,bl l,.int .i64 k,eI args]=some (.agg (pU (fH p who l k args)),[]):=by
 obtain⟨j,h,D,x,rfl,hj,hh,hD,ha2,I,R0,hx,hr,_⟩:=sS hp hw hs hk ha;have hf:=(dW hp).1.fuel;rw[hr];exact S4 p who l (by omega) j h hj args ⟨by omega,by omega⟩ _ I R0 x hx
theorem Od{m:Nat}(p:SProg)(hp:fL p)(who:Int)(l:aT)(hs: -1000000000000000000<=l.sent/\l.sent<=1000000000000000000)(k:Int)(args:List Int)(hm:r7 p who l k args=true):
  aj aG (m+6) 242 [aA p,.int .i64 who,bl l,.int .i64 k,eI args]=some (.agg (pU (fH p who l k args)),[]):=by
 have hm2:=hm;unfold r7 at hm2;rw[TA,TK,TK]at hm2;obtain⟨h0,h1,h2,h3,h4,h5,h6,h7⟩:=hm2;obtain⟨j,h,D,x,rfl,hj,hh,hD,ha2,I,R0,hx,hr,_⟩:=sS h0 ⟨h1,h2⟩ hs ⟨h3,h4⟩ h5;have ok:=(dW h0).1;have hf:=ok.fuel;rw[hr];refine NK p hp who l (by omega) j h hj args hm (ok.code h hh) ⟨by omega,by omega⟩ _ I (λs M R=>R.args) (λi hi ho=>?_) R0 x hx;have hin:=ok.instr h hh i hi;have hv:=gm hin;rcases ho with ho|ho<;>simp[dL,bX,ho]at hin<;>omega
theorem BQ{m:Nat}(l:aT)(hl:l.regs.length<1000000000):aj aG (m+2) 160 [bl l]=some (bl l,[]):=by
 refine am (F:=fT) rfl rfl rfl ?_ (.inl rfl);have cl:=wv (m:=m) l.regs hl;generalize aj aG (m+1)=C at*;generalize aY aG=V;simp only[bl,br,fT];simp only[wd,↓reduceIte,Nat.reduceEqDiff,Nat.reduceAdd,Tz,cl]
structure Ns (w:aq):Prop where
 as:w.actors.length<1000000
 ml:xj w.mail
 regs:∀l∈w.actors,l.regs.length<1000000000
theorem LQ{m:Nat}(w:aq)(hw:Ns w):aj aG (m+5) 142 [aE w]=some (aE w,[]):=by
 refine am (F:=lq) rfl rfl rfl ?_ (.inl rfl);have cp:=JY (m:=m) w.mail hw.ml;have cl:=λl(hl:l∈w.actors)=>BQ (m:=m+2) l (hw.regs l hl);generalize aj aG (m+4)=C at*;generalize aY aG=V;have e0:aJ []=.lst [] false:=rfl;have e1:aW []=.lst [] false:=rfl;have has:=hw.as;have ll:bO (aW w.actors)=some (.int .i64 w.actors.length):=nn;simp only[aE,ay,lq];refine nx (by simp only[wd,↓reduceIte,Nat.reduceEqDiff,Nat.reduceAdd,Tz,cp];rfl) ?_;rw[mM];refine nx (by simp only[wd,↓reduceIte,Nat.reduceEqDiff,ll];rfl) ?_;rw[pu];refine oE (qJ (n:=w.actors.length) (by omega) (λk e=>e 14=.int .i64 w.actors.length/\e 13=aW w.actors/\e 3=.lptr [aW (w.actors.take k),aJ w.mail,.int .i64 w.used.drop,.int .i64 w.used.dup,.int .i64 w.used.time,.int .i64 w.used.crash]) (λk e v h=>by simpa using h) (λk e h=>h.1) (λk e hk ⟨s14,s13,s3⟩ hv=>?_) ⟨by simp,by simp,by simp[e1]⟩ (by simp)) (λe ⟨s14,s13,s3⟩=>?_)
 ·obtain⟨l,hl,hm⟩:=aN hk;have il:=eQ hl;have cl:=cl l hm;have ap:=Ru (a:=w.actors.take k) (b:=[l]) (by simp;omega);have el:aW [l]=.lst [.agg [eI l.regs,.bool l.armed,.int .i64 l.down,.int .i64 l.sent,.int .i64 l.over]] false:=rfl;rw[el]at ap;simp only[bl,br]at cl il;refine⟨_,by simp only[wd,↓reduceIte,Nat.reduceEqDiff,Nat.reduceAdd,Tz,s3,s13,hv,il,cl,ap];rfl,?_,by simp[hv]⟩;rw[iV hl];simp[s13,s14]
 ·rw[Vq]at s3;simp only[wd,↓reduceIte,s3]
def dy(w:aq)(k:Nat)(l:aT):aq:={w with actors:=w.actors.set k l}
theorem HL{ls:List aT}{k:Nat}{l x:aT}(h:ls[k]?=some l):oB (some 5) (aW ls) (.int .i64 (k:Nat)) 0 (bl x)=some (aW (ls.set k x)):=by
 have hl:=(List.getElem?_eq_some_iff.1 h).1;have hg:(ls.map bl)[k]?=some (bl l):=by simp[h]
 simp only[oB,aW];rw[TB (by simp;omega)];simp only[TV,hg];rw[TB ⟨rfl,rfl,by simp[bl,br,PV.cells]⟩];simp[List.map_set,PV.withCells,PV.cells,bl,br]
theorem GQ{m:Nat}(p:SProg)(hp:iY p=0)(w:aq)(j:Nat)(l:aT)(hj:w.actors[j]?=some l)(hw:j<p.actors.length)(hl:l.regs.length<100000)(hs: -1000000000000000000<=l.sent/\l.sent<=1000000000000000000)(k:Int)(hk:0<=k/\k<p.handlers.length)(args:List Int)(ha:(args.length:Int)=cz p k):
  aj aG (m+6) 143 [aA p,.lptr (ay w),.int .i64 (j:Nat),.int .i64 k,eI args]=some (dS (fH p j l k args).notes,[.lptr (ay (dy w j (fH p j l k args).loc))]):=by
 refine am (F:=pi) rfl rfl rfl ?_ (.inl rfl);have go:=PX (m:=m) p hp (j:Nat) ⟨by omega,by omega⟩ l hl hs k hk args ha;generalize aj aG (m+5)=C at*;generalize aY aG=V;generalize fH p j l k args=r at*;have il:=eQ hj;have up:=HL (x:=r.loc) hj;simp only[aA,ao,bl,br,pU]at go;simp only[bl,br]at up il;simp only[aA,ao,ay,pi];simp only[we,↓reduceIte,Nat.reduceEqDiff,Nat.reduceAdd,Tz,il,go,up,dy]
def nH(w:aq)(k:Nat):aq:={w with mail:=w.mail.take k++w.mail.drop (k+1)}
def sy(p:SProg)(w:aq)(j:Nat)(h:Int)(args:List Int):aq:=
 match w.actors[j]? with
 |some l=>eU p j l.sent (fH p j l h args).notes 0 (dy w j (fH p j l h args).loc)
 |none=>w
structure WOk (p:SProg) (w:aq):Prop where
 flow:iY p=0
 as:w.actors.length=p.actors.length
 used:0<=w.used.drop/\0<=w.used.dup/\0<=w.used.time/\0<=w.used.crash
 loc:∀(j:Nat)(l:aT),w.actors[j]?=some l->∃a,p.actors[j]?=some a/\ed a l=true
 msg:∀x∈w.mail,dI p w x=true
 sorted:nc w.mail=true
theorem RI{p:SProg}{w:aq}(h:fg p w=true):WOk p w:=by
 unfold fg gf at h;simp only[TA,TK,Ut]at h;obtain⟨h0,h1,h2,h3,h4,h5⟩:=h;unfold ul at h3;unfold tD at h4;rw[TK]at h3 h4;refine⟨h0,h1,h3,λj l hl=>?_,h5,h2⟩;have hj:=(List.getElem?_eq_some_iff.1 hl).1;have:=h4 j hj;obtain⟨a,ha,_⟩:=aN (l:=p.actors) (k:=j) (by omega);rw[kY,ha,hl]at this;exact⟨a,ha,this⟩
structure RanOk (p:SProg) (w:aq):Prop where
 flow:iY p=0
 as:w.actors.length=p.actors.length
 loc:∀l∈w.actors,l.regs.length<=8/\0<=l.sent/\l.sent<=2199023255551/\0<=l.over/\l.over<=2199023255551
 ml:w.mail.length<900000000
 args:∀x∈w.mail,x.note.args.length<1000000000
theorem cK{p:SProg}{n:SNote}(h:gW p n=0):0<=n.to/\n.to<p.actors.length/\0<=n.handler/\n.handler<p.handlers.length/\(n.args.length:Int)=cz p n.handler:=by
 unfold gW at h;split at h
 ·omega
 ·split at h
  ·omega
  ·omega
theorem rk{p:SProg}(ok:DL p){k:Int}(h:0<=k/\k<p.handlers.length):0<=cz p k/\cz p k<=4:=by
 obtain⟨j,x,_,hx,e⟩:=iC h.1 h.2;have:=ok.args x (TC hx);omega
theorem K5{m:Nat}(p:SProg)(w:aq)(hw:RanOk p w)(j:Nat)(l:aT)(hj:w.actors[j]?=some l)(k:Int)(hk:0<=k/\k<p.handlers.length)(args:List Int)(ha:(args.length:Int)=cz p k):
  aj aG (m+9) 143 [aA p,.lptr (ay w),.int .i64 (j:Nat),.int .i64 k,eI args]=some (dS (fH p j l k args).notes,[.lptr (ay (dy w j (fH p j l k args).loc))])/\
  aj aG (m+9) 129 [aA p,.lptr (ay (dy w j (fH p j l k args).loc)),.int .i64 (j:Nat),dS (fH p j l k args).notes]=some (.tup [],[.lptr (ay (sy p w j k args))]):=by
 have hjl:=(List.getElem?_eq_some_iff.1 hj).1;obtain⟨l1,l2,l3,l4,l5⟩:=hw.loc l (TC hj);have has:=hw.as;obtain⟨ok,_⟩:=dW hw.flow;have hok:=ok.as;have hfu:=ok.fuel;obtain⟨_,_,_,x,_,_,_,_,_,_,_,_,hr,R⟩:=sS (l:=l) (who:=(j:Nat)) hw.flow ⟨by omega,by omega⟩ ⟨by omega,by omega⟩ hk ha;rw[<-hr]at R;have e1:=GQ (m:=m+3) p hw.flow w j l hj (by omega) (by omega) ⟨by omega,by omega⟩ k hk args ha;refine⟨e1,?_⟩;have hn:=R.notes;have hml:=hw.ml;have e2:=Oe (m:=m) p (dy w j (fH p j l k args).loc) (j:Nat) l.sent (fH p j l k args).notes (by omega)
  ⟨by simp only[dy,UX];omega,by simp only[dy];omega,hw.args,λy hy=>by
   simp only[dy]at hy;rcases Uu hy with hy|rfl
   ·have:=hw.loc y hy;omega
   ·rw[R.over];omega⟩
  (λn hn=>by
   obtain⟨_,_,h3,h4,h5⟩:=cK (R.note n hn);have:=rk ok ⟨h3,h4⟩;omega)
  (.inr ⟨j,(fH p j l k args).loc,rfl,by simp only[dy];exact Ul hjl,by rw[R.sent];omega,by rw[R.sent];omega,by rw[R.sent];omega⟩)
 rw[e2,sy,hj]
def Ch(w:aq):aq:={w with used:={w.used with drop:=w.used.drop+1}}
def nI(w:aq):aq:={w with used:={w.used with dup:=w.used.dup+1}}
def it(w:aq):aq:={w with used:={w.used with time:=w.used.time+1}}
def sJ(w:aq):aq:={w with used:={w.used with crash:=w.used.crash+1}}
def ni(p:SProg)(j:Nat):Int:=match p.actors[j]? with|some a=>a.timer|none=> -1
def cT(p:SProg)(w:aq)(e:SEvent):aq:=
 let k:=(bR w.mail e.id).toNat
 let j:=e.who.toNat
 if e.kind=1 then(match w.mail[k]? with|some x=>sy p (nH w k) x.note.to.toNat x.note.handler x.note.args|none=>w)
 else if e.kind=2 then Ch (nH w k)
 else if e.kind=3 then(match w.mail[k]? with|some x=>kS p (nI w) ⟨⟨x.id.frm,x.id.n,w.used.dup+1⟩,x.note⟩|none=>w)
 else if e.kind=4 then(match w.actors[j]? with|some l=>sy p (dy (it w) j {l with armed:=false}) j (ni p j) []|none=>w)
 else if e.kind=5 then(match w.actors[j]? with|some l=>dy (sJ w) j {l with down:=1}|none=>w)
 else w
theorem BS{ls:List aT}{k:Nat}{l:aT}{x:Bool}(h:ls[k]?=some l):oB none (aW ls) (.int .i64 (k:Nat)) 1 (.bool x)=some (aW (ls.set k {l with armed:=x})):=by
 have hl:=(List.getElem?_eq_some_iff.1 h).1;have hg:(ls.map bl)[k]?=some (bl l):=by simp[h]
 simp only[oB,aW];rw[TB (by simp;omega)];simp only[TV,hg];rw[TB ⟨rfl,rfl,by simp[bl,br,PV.cells]⟩];simp[List.map_set,PV.withCells,PV.cells,bl,br]
theorem Gi{ls:List aT}{k:Nat}{l:aT}{x:Int}(h:ls[k]?=some l):oB none (aW ls) (.int .i64 (k:Nat)) 2 (.int .i64 x)=some (aW (ls.set k {l with down:=x})):=by
 have hl:=(List.getElem?_eq_some_iff.1 h).1;have hg:(ls.map bl)[k]?=some (bl l):=by simp[h]
 simp only[oB,aW];rw[TB (by simp;omega)];simp only[TV,hg];rw[TB ⟨rfl,rfl,by simp[bl,br,PV.cells]⟩];simp[List.map_set,PV.withCells,PV.cells,bl,br]
structure MZ (w:aq) (e:SEvent):Prop where
 drop:e.kind=2->w.used.drop<1000000
 dup:e.kind=3->w.used.dup<1000000
 time:e.kind=4->w.used.time<1000000
 crash:e.kind=5->w.used.crash<1000000
theorem WOk.ran{p:SProg}{w:aq}(h:WOk p w)(hm:w.mail.length<900000000):RanOk p w:=by
 obtain⟨ok,_⟩:=dW h.flow;refine⟨h.flow,h.as,λl hl=>?_,hm,λx hx=>?_⟩
 ·obtain⟨j,hj⟩:=UP hl;obtain⟨a,ha,hl2⟩:=h.loc j l hj;unfold ed at hl2;rw[TK]at hl2;have:=ok.regs a (TC ha);omega
 ·have:=h.msg x hx;unfold dI at this;rw[TK]at this;obtain⟨_,_,h3,h4,h5⟩:=cK this.1;have:=rk ok ⟨h3,h4⟩;omega
theorem Kg{m:Nat}(p:SProg)(w:aq)(hw:WOk p w)(hm:w.mail.length<900000000)(e:SEvent)(hu:MZ w e)(he:fJ w e=true):aj aG (m+10) 130 [aA p,aE w,bD e]=some (aE (cT p w e),[]):=by
 refine am (F:=lI) rfl rfl rfl ?_ (.inl rfl);have R:=hw.ran hm;obtain⟨ok,_⟩:=dW hw.flow;have cp:=LQ (m:=m+4) w ⟨by have:=hw.as;have:=ok.as;omega,⟨by omega,R.args⟩,λl hl=>by have:=R.loc l hl;omega⟩;have fi:=A6 (m:=m+6) w.mail (by omega) e.id;have r2:=λw hw j l hj k hk args ha=>K5 (m:=m) p w hw j l hj k hk args ha;have ps:=λw n h x hx ht=>J0 (m:=m+1) p w n h x hx ht;generalize aj aG (m+9)=C at*;generalize aY aG=V;obtain⟨u1,u2,u3,u4⟩:=hu;obtain⟨v1,v2,v3,v4⟩:=hw.used;have ht:xn w:=λx hx=>by
  have:=hw.msg x hx;unfold dI at this;rw[TK]at this;have h:=cK this.1;rw[hw.as];exact⟨h.1,h.2.1⟩
 have kinds:e.kind=1∨e.kind=2∨e.kind=3∨e.kind=4∨e.kind=5:=by
  unfold fJ at he;split at he
  ·omega
  ·split at he
   ·omega
   ·cases he
 simp only[aA,ao,aE,ug,wl]at cp fi r2 ps;simp only[ay]at cp;simp only[aA,ao,aE,ay,bD,dm,lI];refine nx (by simp only[wd,↓reduceIte,Nat.reduceEqDiff,Nat.reduceAdd,Tz,cp,fi];rfl) ?_;rcases kinds with hk|hk|hk|hk|hk
 all_goals rw[mM]
 ·have hf:¬bR w.mail e.id<0:=by
   unfold fJ uE at he;rw[TB (.inl hk)]at he;simp only[TA,TZ,TX]at he;exact he.2.1
  obtain⟨k,x,j,l,f1,f2,f3,f4,f5,f6,f7⟩:=iG ht hf;have hkl:=(List.getElem?_eq_some_iff.1 f2).1;have s1:=qB (l:=w.mail) (k:=k) (by omega);have s2:=qf (l:=w.mail) (k:=k+1) (by omega);have ap:=nG (a:=w.mail.take k) (b:=w.mail.drop (k+1)) (by simp;omega);have ad:=bT (k:=k) (by omega);have im:=dR f2;have hmsg:=hw.msg x (TC f2);unfold dI at hmsg;rw[TK]at hmsg;obtain⟨n1,n2,n3,n4,n5⟩:=cK hmsg.1;obtain⟨t1,t2⟩:=r2 (nH w k) ⟨R.flow,R.as,R.loc,by simp only[nH,Ud,T7,Ur];omega,λy hy=>by
   simp only[nH]at hy;rcases List.mem_append.1 hy with hy|hy
   ·exact R.args y (UI hy)
   ·exact R.args y (UH hy)⟩ j l f5 x.note.handler ⟨n3,n4⟩ x.note.args n5
  have hA:cT p w e=sy p (nH w k) j x.note.handler x.note.args:=by
   simp only[cT,hk,TY,f1,TV,f2,f4]
  rw[hA];simp only[co]at im;rw[f4]at im;simp only[ay,nH]at t1;simp only[ay,nH]at t2;refine nx (by simp only[wd,↓reduceIte,Nat.reduceEqDiff,hk];rfl) ?_;refine nx (by simp only[wd,↓reduceIte,Nat.reduceEqDiff,Nat.reduceAdd,Int.reduceEq,Tz,f1,im,ad,s1,s2,ap,t1,t2];rfl) ?_;simp only[wd,↓reduceIte,nH]
 ·have hf:¬bR w.mail e.id<0:=by
   unfold fJ uE at he;rw[TB (by omega)]at he;simp only[TA,TZ,TX]at he;exact he.2.1
  obtain⟨k,x,j,l,f1,f2,f3,f4,f5,f6,f7⟩:=iG ht hf;have hkl:=(List.getElem?_eq_some_iff.1 f2).1;have im:=dR f2;simp only[co]at im;have s1:=qB (l:=w.mail) (k:=k) (by omega);have s2:=qf (l:=w.mail) (k:=k+1) (by omega);have ap:=nG (a:=w.mail.take k) (b:=w.mail.drop (k+1)) (by simp;omega);have ad:=bT (k:=k) (by omega);have u1:=u1 hk;have ad2:=jo (x:=w.used.drop) (y:=1) (by omega) (by omega);have hA:cT p w e=Ch (nH w k):=by
   simp only[cT,hk,Int.reduceEq,TY,TU,f1,TV]
  rw[hA];refine nx (by simp only[wd,↓reduceIte,Nat.reduceEqDiff,hk];rfl) ?_;refine nx (by simp only[wd,↓reduceIte,Nat.reduceEqDiff,Nat.reduceAdd,Int.reduceEq,Tz,f1,im,ad,s1,s2,ap,ad2];rfl) ?_;simp only[wd,↓reduceIte,nH,Ch]
 ·have hf:¬bR w.mail e.id<0:=by
   unfold fJ uE at he;rw[TB (by omega)]at he;simp only[TA,TZ,TX]at he;exact he.2.1
  obtain⟨k,x,j,l,f1,f2,f3,f4,f5,f6,f7⟩:=iG ht hf;have hkl:=(List.getElem?_eq_some_iff.1 f2).1;have im:=dR f2;simp only[co]at im;have u2:=u2 hk;have ad2:=jo (x:=w.used.dup) (y:=1) (by omega) (by omega);have hmsg:=hw.msg x (TC f2);unfold dI at hmsg;rw[TK]at hmsg;obtain⟨n1,n2,n3,n4,n5⟩:=cK hmsg.1;have has:=hw.as;have hok:=ok.as;have p1:=ps (nI w) 0 ⟨by simp only[nI];omega,by simp only[nI];omega,R.args,λy hy=>by have:=R.loc y hy;omega⟩ ⟨⟨x.id.frm,x.id.n,w.used.dup+1⟩,x.note⟩ (R.args x (TC f2)) (by simp only[nI];omega);simp only[ay,nI,dk,co]at p1;have hA:cT p w e=kS p (nI w) ⟨⟨x.id.frm,x.id.n,w.used.dup+1⟩,x.note⟩:=by
   simp only[cT,hk,Int.reduceEq,TY,TU,f1,TV,f2]
  rw[hA];refine nx (by simp only[wd,↓reduceIte,Nat.reduceEqDiff,hk];rfl) ?_;refine nx (by simp only[wd,↓reduceIte,Nat.reduceEqDiff,Nat.reduceAdd,Int.reduceEq,Tz,f1,im,ad2,p1];rfl) ?_;simp only[wd,↓reduceIte,nI]
 ·have hc:o8 w e=true:=by
   unfold fJ at he;rw[TF (by omega),TB (by omega)]at he;exact he
  unfold o8 at hc;simp only[TA,TK]at hc;obtain⟨_,c1,c2,c3,c4⟩:=hc;obtain⟨j,l,a1,a2,a3,a4⟩:=hO c1 c2;obtain⟨a,b1,b2⟩:=hw.loc j l a2;have il:=eQ a2;have ia:=gY b1;rw[hk]at c4;simp only[Uz,Uy,US]at c4;rw[a4]at c4;have b3:=b2;unfold ed at b3;rw[TK]at b3;have htm:a.timer≠ -1:=λh=>b3.2.2.2.2.2.2.2 ⟨c4,h⟩;obtain⟨g1,g2,g3⟩:=ok.timer a (TC b1) htm;have u3:=u3 hk;have ad2:=jo (x:=w.used.time) (y:=1) (by omega) (by omega);have up:=BS (x:=false) a2;have hjl:=(List.getElem?_eq_some_iff.1 a2).1;have hset:(dy (it w) j {l with armed:=false}).actors[j]?=some {l with armed:=false}:=by simp only[dy,it];exact Ul hjl
  obtain⟨t1,t2⟩:=r2 (dy (it w) j {l with armed:=false}) ⟨R.flow,by simp only[dy,it,UX];exact R.as,λy hy=>by
   simp only[dy,it]at hy;rcases Uu hy with hy|rfl
   ·exact R.loc y hy
   ·exact R.loc l (TC a2),hm,R.args⟩ j {l with armed:=false} hset a.timer ⟨g1,g2⟩ [] (by rw[g3];rfl)
  have hA:cT p w e=sy p (dy (it w) j {l with armed:=false}) j a.timer []:=by
   simp only[cT,hk,Int.reduceEq,TY,TU,a1,TV,a2,ni,b1]
  rw[hA];have ei:eI []=.lst [] false:=rfl;rw[ei]at t1;simp only[ay,dy,it]at t1 t2;refine nx (by simp only[wd,↓reduceIte,Nat.reduceEqDiff,hk];rfl) ?_;refine nx (by simp only[wd,↓reduceIte,Nat.reduceEqDiff,Nat.reduceAdd,Int.reduceEq,a1,il,ia,ad2,up,t1,t2];rfl) ?_;simp only[wd,↓reduceIte,dy,it]
 ·have hc:o8 w e=true:=by
   unfold fJ at he;rw[TF (by omega),TB (by omega)]at he;exact he
  unfold o8 at hc;simp only[TA,TK]at hc;obtain⟨_,c1,c2,c3,c4⟩:=hc;obtain⟨j,l,a1,a2,a3,a4⟩:=hO c1 c2;obtain⟨a,b1,b2⟩:=hw.loc j l a2;have il:=eQ a2;have ia:=gY b1;have u4:=u4 hk;have ad2:=jo (x:=w.used.crash) (y:=1) (by omega) (by omega);have up:=Gi (x:=1) a2;have hA:cT p w e=dy (sJ w) j {l with down:=1}:=by
   simp only[cT,hk,Int.reduceEq,TY,TU,a1,TV,a2]
  rw[hA];refine nx (by simp only[wd,↓reduceIte,Nat.reduceEqDiff,hk];rfl) ?_;refine nx (by simp only[wd,↓reduceIte,Nat.reduceEqDiff,Int.reduceEq,a1,il,ad2,up];rfl) ?_;simp only[wd,↓reduceIte,dy,sJ]
structure F6 (w:aq):Prop where
 drop:w.used.drop<=9223372036854775807
 dup:w.used.dup<=9223372036854775807
 time:w.used.time<=9223372036854775807
 crash:w.used.crash<=9223372036854775807
theorem tE{b u:Int}(h0:0<=b)(h1:b<=1000)(h2:0<=u)(h3:u<=9223372036854775807)(h:0<pN b u):u<1000000:=by
 unfold pN at h;rw[uB (by omega) (by omega)]at h;omega
theorem uC{p:SProg}{b:SBudget}{w:aq}{e:SEvent}(hu:F6 w)(h:ID p b w e=true):WOk p w/\fJ w e=true/\MZ w e:=by
 unfold ID at h;simp only[TA]at h;obtain⟨h1,h2,h3,h4⟩:=h;have hw:=RI h1;obtain⟨u1,u2,u3,u4⟩:=hw.used;unfold Bw at h2;rw[TK]at h2;obtain⟨m1,m2,m3,m4,m5,m6,m7,m8⟩:=h2;refine⟨hw,h3,?_,?_,?_,?_⟩<;>intro hk<;>simp[mG,hk,rU]at h4
 ·exact tE m1 m5 u1 hu.drop (UE h4)
 ·exact tE m2 m6 u2 hu.dup (UE h4)
 ·exact tE m3 m7 u3 hu.time (UE h4)
 ·exact tE m4 m8 u4 hu.crash (UE h4)
noncomputable def MV (p:SProg) (b:SBudget) (w:aq) (e:SEvent):aq:=if ID p b w e=true then cT p w e else zW
theorem Ji{m:Nat}(p:SProg)(hp:fL p)(b:SBudget)(w:aq)(hw:jN w)(hm:w.mail.length<900000000)(hu:F6 w)(e:SEvent):aj aG (m+11) 118 [aA p,bq b,aE w,bD e]=some (.tup [aE (MV p b w e),.int .i64 (if ID p b w e=true then 0 else 8)],[]):=by
 refine am (F:=oi) rfl rfl rfl ?_ (.inl rfl);have is:=RN (m:=m+2) p hp b w hw e;have ap:=λhw e hu he=>Kg (m:=m) p w hw hm e hu he;generalize aj aG (m+10)=C at*;generalize aY aG=V;have e0:aJ []=.lst [] false:=rfl;have e1:aW []=.lst [] false:=rfl;cases hi:ID p b w e with
 |false=>
  rw[hi]at is;simp only[aA,ao,bq,cN,aE,ay,bD,dm]at is;simp only[aA,ao,bq,cN,aE,ay,bD,dm,oi,MV,hi,T4,TU,zW,e0,e1];refine nx (by simp only[wd,↓reduceIte,Nat.reduceAdd,Tz];rfl) ?_;refine ah ?_;simp only[wd,↓reduceIte,Nat.reduceEqDiff,Int.reduceNeg,un,is]
 |true=>
  obtain⟨k1,k2,k3⟩:=uC hu hi;have ap:=ap k1 e k3 k2;rw[hi]at is;simp only[aA,ao,bq,cN,aE,ay,bD,dm]at is ap;simp only[aA,ao,bq,cN,aE,ay,bD,dm,oi,MV,hi,TY];refine nx (by simp only[wd,↓reduceIte,Nat.reduceAdd,Tz];rfl) ?_;refine nx (by simp only[wd,↓reduceIte,Nat.reduceEqDiff,Int.reduceNeg,un,is];rfl) ?_;simp only[wd,↓reduceIte,Nat.reduceEqDiff,Nat.reduceAdd,Tz,ap]
theorem BA{l:List aT}(h:l.length<1000000000):iO 5 (.lst [] false) (aW l)=some (aW l):=by
 have:=Ru (a:=[]) (b:=l) (by simp;omega);simpa[aW]using this
theorem IA(l:List aV):ak (aJ l).cells=true:=rfl
def oF(p:SProg)(w:aq)(x:aV):aq:=if 0<=x.note.to/\x.note.to<min (p.actors.length:Int) w.actors.length then kS p w x else w
theorem CG{m:Nat}(p:SProg)(w:aq)(n:Nat)(hw:PostOk w (n+1))(x:aV):aj aG (m+3) 231 [aA p,aE w,dk x]=some (aE (oF p w x),[]):=by
 refine am (F:=lE) rfl rfl rfl ?_ (.inl rfl);have to:=Rk (m:=m+1) w.mail hw.sml.1 x.note.to;have pt:=NS (m:=m) w.mail hw.sml.1 x;generalize aj aG (m+2)=C at*;generalize aY aG=V;simp only[dk,co]at pt;simp only[aA,ao,aE,ay,dk,co,lE];refine nx (by simp only[wd,↓reduceIte,Nat.reduceEqDiff,Nat.reduceAdd,Tz];rfl) ?_;have has:=hw.as;by_cases h1:x.note.to<0
 ·rw[oF,TF (by omega)];refine ah ?_;simp only[wd,↓reduceIte,Nat.reduceEqDiff,reduceCtorEq,h1]
 by_cases h2:(w.actors.length:Int)<=x.note.to
 ·rw[oF,TF (by omega)];refine ah ?_;simp only[wd,↓reduceIte,Nat.reduceEqDiff,reduceCtorEq,h1,bn,h2]
 by_cases h3:(p.actors.length:Int)<=x.note.to
 ·rw[oF,TF (by omega)];refine ah ?_;simp only[wd,↓reduceIte,Nat.reduceEqDiff,h1,bn,h2,bP,h3]
 rw[oF,TB (by omega)];refine nx (by simp only[wd,↓reduceIte,Nat.reduceEqDiff,h1,bn,h2,bP,h3];rfl) ?_;obtain⟨j,hj⟩:=Ug (show 0<=x.note.to by omega);obtain⟨a,ha,_⟩:=aN (l:=p.actors) (k:=j) (by omega);obtain⟨l,hl,hm⟩:=aN (l:=w.actors) (k:=j) (by omega);have ia:=gY ha;have il:=eQ hl;have ho:=hw.over l hm;have ad:=jo (x:=l.over) (y:=1) (by omega) (by omega);have up:=Q2 (x:=l.over+1) hl;have a0:=BA (l:=w.actors) (by omega);have hc:Ck p x.note.to.toNat=a.cap:=by rw[hj];simp[Ck,ha]
 simp only[br]at il;rw[kS,hc];have hov:rO w x.note.to.toNat={w with actors:=w.actors.set j {l with over:=l.over+1}}:=by rw[hj];simp[rO,hl]
 rw[hov];rw[hj]at to pt⊢;by_cases q1:(Et w.mail (j:Int):Int)<a.cap
 ·by_cases q2:bR w.mail x.id<0
  ·rw[TB ⟨q1,q2⟩];rw[wj,TB q2]at pt;refine ah ?_;simp only[wd,↓reduceIte,Nat.reduceEqDiff,to,ia,q1,pt,IA]
  ·rw[TF (λh=>q2 h.2)];rw[wj,TF q2]at pt;refine nx (by simp only[wd,↓reduceIte,Nat.reduceEqDiff,to,ia,q1,pt];rfl) ?_;simp only[wd,↓reduceIte,Nat.reduceEqDiff,a0,il,ad,up]
 ·rw[TF (λh=>q1 h.1)];refine nx (by simp only[wd,↓reduceIte,Nat.reduceEqDiff,to,ia,q1];rfl) ?_;simp only[wd,↓reduceIte,Nat.reduceEqDiff,a0,il,ad,up]
theorem Es(p:SProg)(frm first:Int)(n:SNote)(i:Nat)(w:aq):oF p w ⟨⟨frm,first+i,0⟩,n⟩=ig p frm first n i w:=rfl
theorem KU{m:Nat}(p:SProg)(w:aq)(frm first:Int)(l:List SNote)(hl:l.length<1000000)(hw:PostOk w (l.length+1))(hn:∀n∈l,n.args.length<1000000000)(hf:(frm= -1/\first=0)∨∃(k:Nat)(x:aT),frm=(k:Int)/\w.actors[k]?=some x/\first=x.sent-l.length/\ -1000000000000000000<=x.sent/\x.sent<=1000000000000000000):
  aj aG (m+4) 243 [aA p,aE w,.int .i64 frm,dS l]=some (aE (eU p frm first l 0 w),[]):=by
 refine am (F:=nw) rfl rfl rfl ?_ (.inl rfl);have pl:=λw n hw x=>CG (m:=m) p w n hw x;generalize aj aG (m+3)=C at*;generalize aY aG=V;have hfb: -2000000000000000000<=first/\first<=2000000000000000000:=by
  rcases hf with⟨_,h⟩|⟨k,x,_,_,h,_,_⟩<;>omega
 have hfl:¬frm< -1/\¬(w.actors.length:Int)<=frm:=by
  rcases hf with⟨h,_⟩|⟨k,x,h,hx,_⟩
  ·omega
  ·have:=(List.getElem?_eq_some_iff.1 hx).1;omega
 have hps:∀k,k<=l.length->PostOk (eU p frm first (l.take k) 0 w) (l.length-k+1):=λk hk=>by
  induction k with
  |zero=>exact hw
  |succ k ih=>
   obtain⟨n,hx,hm⟩:=aN (l:=l) (k:=k) (by omega);have ih:=ih (by omega);rw[iV hx,mK];rw[show l.length-k+1=(l.length-(k+1)+1)+1 by omega]at ih;exact ih.step (hn n hm)
 simp only[aA,ao,aE,ay,dk,co]at pl;simp only[aA,ao,aE,nw];refine nx (by simp only[wd,↓reduceIte,Nat.reduceAdd,Tz,ay];rfl) ?_;refine nx (by simp only[wd,↓reduceIte,Nat.reduceEqDiff,Int.reduceNeg,hfl.1,hfl.2,bn];rfl) ?_;refine nx (by simp only[wd,↓reduceIte];rfl) ?_;have key:∀e:Env,e 9=.int .i64 first->e 2=.int .i64 frm->e 3=dS l->e 4=.lptr [iw p.handlers,i4 p.actors,dS p.boot,.int .i64 p.fuel]->e 5=.lptr (ay w)->
   aL C V (.seq (.seq (.st [.asg [] [(10,(N 0))]]) (.block 0 (.loop mb))) (.seq (.st [.asg [] [(8,(.lp (.cn (.ld none (.v 5) 0) (.cn (.ld none (.v 5) 1) (.cn (.ld none (.v 5) 2) (.cn (.ld none (.v 5) 3) (.cn (.ld none (.v 5) 4) (.cn (.ld none (.v 5) 5) .nl))))))))]]) (.ret (.agg (.cn (.ld none (.v 8) 0) (.cn (.ld none (.v 8) 1) (.cn (.ld none (.v 8) 2) (.cn (.ld none (.v 8) 3) (.cn (.ld none (.v 8) 4) (.cn (.ld none (.v 8) 5) .nl))))))) []))) e=some (.ret (.agg (ay (eU p frm first l 0 w))) []):=λe g9 g2 g3 g4 g5=>by
  rw[mM];refine nx (by simp only[wd,↓reduceIte];rfl) ?_;rw[mb];refine oE (mB (n:=l.length) (by omega) (λk e=>e 10=.int .i64 (k:Nat)/\e 9=.int .i64 first/\e 2=.int .i64 frm/\e 3=dS l/\e 4=.lptr [iw p.handlers,i4 p.actors,dS p.boot,.int .i64 p.fuel]/\e 5=.lptr (ay (eU p frm first (l.take k) 0 w))) (λe=>e 5=.lptr (ay (eU p frm first l 0 w))) (λk e hk ⟨h10,h9,h2,h3,h4,h5⟩=>?_) (λe ⟨h10,h9,h2,h3,h4,h5⟩=>?_) ⟨by simp,by simp[g9],by simp[g2],by simp[g3],by simp[g4],by simp[g5,eU]⟩) (λe h5=>?_)
  ·obtain⟨n,hx,hm⟩:=aN hk;have inn:=yc hx;have ad:=jo (x:=first) (y:=(k:Int)) (by omega) (by omega);have ad2:=bT (k:=k) (by omega);have q:=pl (eU p frm first (l.take k) 0 w) _ (hps k (by omega)) ⟨⟨frm,first+k,0⟩,n⟩;have hg:oF p (eU p frm first (l.take k) 0 w) ⟨⟨frm,first+k,0⟩,n⟩=eU p frm first (l.take (k+1)) 0 w:=by
    rw[iV hx,mK,Es,T7,Vz (by omega),Up]
   rw[hg]at q;have hb:aI .lss .i64 (k:Int) .i64 (l.length:Int)=some (.bool true):=by rw[bA,T3 (by omega)]
   simp only[ay]at h5;refine⟨_,_,by simp only[wd,↓reduceIte,h10,h3,d9,hb];rfl,by simp only[wd,↓reduceIte,Nat.reduceEqDiff,Nat.reduceAdd,Tz,h10,h9,h2,h3,h4,h5,ad,inn,q,ad2];rfl,?_⟩;simp[h9,h2,h3,h4,ay]
  ·have hb:aI .lss .i64 (l.length:Int) .i64 (l.length:Int)=some (.bool false):=by rw[bA,TP (by omega)]
   rw[Vq]at h5;exact⟨_,by simp only[wd,↓reduceIte,h10,h3,d9,hb];rfl,by simp[h5]⟩
  ·simp only[ay]at h5;simp only[wd,↓reduceIte,h5,ay]
 rcases hf with⟨rfl,rfl⟩|⟨k,x,rfl,hx,rfl,hb1,hb2⟩
 ·refine nx (by simp only[wd,↓reduceIte,Nat.reduceEqDiff,Int.reduceNeg,show¬(0:Int)<= -1 by omega];rfl) ?_;exact key _ (by simp) (by simp[Env.ofArgs_at]) (by simp[Env.ofArgs_at]) (by simp) (by simp[ay])
 ·have ix:=eQ hx;have sb:=vr (x:=x.sent) (y:=(l.length:Int)) (by omega) (by omega);simp only[br]at ix;refine nx (by simp only[wd,↓reduceIte,Nat.reduceEqDiff,show(0:Int)<=(k:Int)by omega,ix,d9,sb];rfl) ?_;exact key _ (by simp) (by simp[Env.ofArgs_at]) (by simp[Env.ofArgs_at]) (by simp) (by simp[ay])
theorem RanOk.set{p:SProg}{w:aq}(hw:RanOk p w){j:Nat}{l:aT}(hj:w.actors[j]?=some l)(k:Int)(hk:0<=k/\k<p.handlers.length)(args:List Int)(ha:(args.length:Int)=cz p k):IB p l (fH p j l k args):=by
 have hjl:=(List.getElem?_eq_some_iff.1 hj).1;obtain⟨l1,l2,l3,l4,l5⟩:=hw.loc l (TC hj);have has:=hw.as;obtain⟨_,_,_,x,_,_,_,_,_,_,_,_,hr,R⟩:=sS (l:=l) (who:=(j:Nat)) hw.flow ⟨by omega,by omega⟩ ⟨by omega,by omega⟩ hk ha;rw[hr];exact R
theorem xk{m:Nat}(p:SProg)(hp:fL p)(w:aq)(hw:RanOk p w)(j:Nat)(l:aT)(hj:w.actors[j]?=some l)(hd:l.down=0)(k:Int)(hk:0<=k/\k<p.handlers.length)(args:List Int)(ha:(args.length:Int)=cz p k):
  aj aG (m+7) 230 [aA p,aE w,.int .i64 (j:Nat),.int .i64 k,eI args]=some (.tup [aE (sy p w j k args),dS (fH p j l k args).notes],[]):=by
 refine am (F:=jp) rfl rfl rfl ?_ (.inl rfl);have hjl:=(List.getElem?_eq_some_iff.1 hj).1;obtain⟨l1,l2,l3,l4,l5⟩:=hw.loc l (TC hj);have has:=hw.as;obtain⟨ok,_⟩:=dW hw.flow;have hok:=ok.as;have hfu:=ok.fuel;have hml:=hw.ml;have R:=hw.set hj k hk args ha;have hn:=R.notes;have hmay:r7 p (j:Nat) l k args=true:=by
  unfold r7;rw[T3 hw.flow,T3 ⟨by omega,by omega,hk.1,hk.2,ha,l1,hd⟩];rfl
 have ru:=Od (m:=m) p hp (j:Nat) l ⟨by omega,by omega⟩ k args hmay;have sn:=KU (m:=m+2) p (dy w j (fH p j l k args).loc) (j:Nat) l.sent (fH p j l k args).notes (by omega)
  ⟨by simp only[dy,UX];omega,by simp only[dy];omega,hw.args,λy hy=>by
   simp only[dy]at hy;rcases Uu hy with hy|rfl
   ·have:=hw.loc y hy;omega
   ·rw[R.over];omega⟩
  (λn hn=>by
   obtain⟨_,_,h3,h4,h5⟩:=cK (R.note n hn);have:=rk ok ⟨h3,h4⟩;omega)
  (.inr ⟨j,(fH p j l k args).loc,rfl,by simp only[dy];exact Ul hjl,by rw[R.sent];omega,by rw[R.sent];omega,by rw[R.sent];omega⟩)
 have hA:sy p w j k args=eU p j l.sent (fH p j l k args).notes 0 (dy w j (fH p j l k args).loc):=by simp only[sy,hj]
 rw[<-hA]at sn;generalize sy p w j k args=w2 at*;generalize aj aG (m+6)=C at*;generalize aY aG=V;generalize fH p j l k args=r at*;have il:=eQ hj;have up:=HL (x:=r.loc) hj;have a0:=BA (l:=w.actors) (by omega);simp only[aA,ao,bl,br,pU]at ru;simp only[bl,br]at up il;simp only[aA,ao,aE,ay,dy]at sn;simp only[aA,ao,aE,ay,jp];simp only[we,↓reduceIte,Nat.reduceEqDiff,Nat.reduceAdd,Tz,il,ru,up,a0,sn]
theorem Qu{m:Nat}(p:SProg)(hp:fL p)(w:aq)(hw:WOk p w)(hm:w.mail.length<900000000)(e:SEvent)(hu:MZ w e)(he:fJ w e=true):aj aG (m+8) 211 [aA p,aE w,bD e]=some (aE (cT p w e),[]):=by
 refine am (F:=qQ) rfl rfl rfl ?_ (.inl rfl);have R:=hw.ran hm;obtain⟨ok,_⟩:=dW hw.flow;have fi:=tZ (m:=m+6) w.mail (by omega) e.id;have tk:=KG (m:=m+5) w.mail ⟨by omega,R.args⟩ e.id;have r2:=λw hw j l hj hd k hk args ha=>xk (m:=m) p hp w hw j l hj hd k hk args ha;have ps:=λw n h x=>CG (m:=m+4) p w n h x;generalize aj aG (m+7)=C at*;generalize aY aG=V;obtain⟨u1,u2,u3,u4⟩:=hu;obtain⟨v1,v2,v3,v4⟩:=hw.used;have ht:xn w:=λx hx=>by
  have:=hw.msg x hx;unfold dI at this;rw[TK]at this;have h:=cK this.1;rw[hw.as];exact⟨h.1,h.2.1⟩
 have kinds:e.kind=1∨e.kind=2∨e.kind=3∨e.kind=4∨e.kind=5:=by
  unfold fJ at he;split at he
  ·omega
  ·split at he
   ·omega
   ·cases he
 simp only[aA,ao,aE,ug,wl]at fi tk r2 ps;simp only[aA,ao,aE,ay,bD,dm,qQ];refine nx (by simp only[wd,↓reduceIte,Nat.reduceAdd,Tz];rfl) ?_;have tk2:∀(k:Nat)(x:aV),bR w.mail e.id=(k:Int)->w.mail[k]?=some x->wx w.mail e.id (.bool true) (.bool false)=.tup [aJ (w.mail.take k++w.mail.drop (k+1)),dk x,.bool true]:=λk x h1 h2=>by
  unfold bR fM at h1;unfold wx;cases hq:w.mail.findIdx? (λx=>decide (x.id=e.id))with
  |none=>rw[hq]at h1;simp only at h1;omega
  |some k'=>
   rw[hq]at h1;simp only at h1;have:k'=k:=by omega
   subst this;simp only[h2]
 rcases kinds with hk|hk|hk|hk|hk
 all_goals rw[mM]
 ·have hf:¬bR w.mail e.id<0/\(e.kind=1->nN w (DE w (bR w.mail e.id))=0):=by
   unfold fJ uE at he;rw[TB (by omega)]at he;simp only[TA,TZ,TX,UO,TK]at he;exact⟨he.2.1,λh=>he.2.2.resolve_left (λh2=>h2 h)⟩
  obtain⟨hf,hdn⟩:=hf;obtain⟨k,x,j,l,f1,f2,f3,f4,f5,f6,f7⟩:=iG ht hf;have hkl:=(List.getElem?_eq_some_iff.1 f2).1;have im:=dR f2;rw[tk2 k x f1 f2]at tk;simp only[co]at im;simp only[dk,co]at tk;have hmsg:=hw.msg x (TC f2);unfold dI at hmsg;rw[TK]at hmsg;obtain⟨n1,n2,n3,n4,n5⟩:=cK hmsg.1;have t1:=r2 (nH w k) ⟨R.flow,R.as,R.loc,by simp only[nH,Ud,T7,Ur];omega,λy hy=>by
   simp only[nH]at hy;rcases List.mem_append.1 hy with hy|hy
   ·exact R.args y (UI hy)
   ·exact R.args y (UH hy)⟩ j l f5 (by rw[<-f7,<-f6];exact hdn hk) x.note.handler ⟨n3,n4⟩ x.note.args n5
  have hA:cT p w e=sy p (nH w k) j x.note.handler x.note.args:=by
   simp only[cT,hk,TY,f1,TV,f2,f4]
  rw[hA];rw[f4]at tk;simp only[ay,nH]at t1;refine nx (by simp only[wd,↓reduceIte,Nat.reduceEqDiff,hk];rfl) ?_;refine nx (by simp only[wd,↓reduceIte,Nat.reduceEqDiff,Nat.reduceAdd,Tz,tk,IA,t1];rfl) ?_;simp only[wd,↓reduceIte,nH]
 ·have hf:¬bR w.mail e.id<0/\(e.kind=1->nN w (DE w (bR w.mail e.id))=0):=by
   unfold fJ uE at he;rw[TB (by omega)]at he;simp only[TA,TZ,TX,UO,TK]at he;exact⟨he.2.1,λh=>he.2.2.resolve_left (λh2=>h2 h)⟩
  obtain⟨hf,hdn⟩:=hf;obtain⟨k,x,j,l,f1,f2,f3,f4,f5,f6,f7⟩:=iG ht hf;have hkl:=(List.getElem?_eq_some_iff.1 f2).1;have im:=dR f2;rw[tk2 k x f1 f2]at tk;simp only[co]at im;simp only[dk,co]at tk;have u1:=u1 hk;have ad2:=jo (x:=w.used.drop) (y:=1) (by omega) (by omega);have hA:cT p w e=Ch (nH w k):=by
   simp only[cT,hk,Int.reduceEq,TY,TU,f1,TV]
  rw[hA];refine nx (by simp only[wd,↓reduceIte,Nat.reduceEqDiff,hk];rfl) ?_;refine nx (by simp only[wd,↓reduceIte,Nat.reduceEqDiff,Int.reduceEq,tk,IA,ad2];rfl) ?_;simp only[wd,↓reduceIte,nH,Ch]
 ·have hf:¬bR w.mail e.id<0/\(e.kind=1->nN w (DE w (bR w.mail e.id))=0):=by
   unfold fJ uE at he;rw[TB (by omega)]at he;simp only[TA,TZ,TX,UO,TK]at he;exact⟨he.2.1,λh=>he.2.2.resolve_left (λh2=>h2 h)⟩
  obtain⟨hf,hdn⟩:=hf;obtain⟨k,x,j,l,f1,f2,f3,f4,f5,f6,f7⟩:=iG ht hf;have hkl:=(List.getElem?_eq_some_iff.1 f2).1;have im:=dR f2;rw[tk2 k x f1 f2]at tk;simp only[co]at im;simp only[dk,co]at tk;have u2:=u2 hk;have ad2:=jo (x:=w.used.dup) (y:=1) (by omega) (by omega);have hmsg:=hw.msg x (TC f2);unfold dI at hmsg;rw[TK]at hmsg;obtain⟨n1,n2,n3,n4,n5⟩:=cK hmsg.1;have has:=hw.as;have hok:=ok.as;have p1:=ps (nI w) 0 ⟨by simp only[nI];omega,by simp only[nI];omega,R.args,λy hy=>by have:=R.loc y hy;omega⟩ ⟨⟨x.id.frm,x.id.n,w.used.dup+1⟩,x.note⟩;have hpl:oF p (nI w) ⟨⟨x.id.frm,x.id.n,w.used.dup+1⟩,x.note⟩=kS p (nI w) ⟨⟨x.id.frm,x.id.n,w.used.dup+1⟩,x.note⟩:=by
   rw[oF,TB (by simp only[nI];omega)]
  rw[hpl]at p1;simp only[ay,nI,dk,co]at p1;have hA:cT p w e=kS p (nI w) ⟨⟨x.id.frm,x.id.n,w.used.dup+1⟩,x.note⟩:=by
   simp only[cT,hk,Int.reduceEq,TY,TU,f1,TV,f2]
  rw[hA];refine nx (by simp only[wd,↓reduceIte,Nat.reduceEqDiff,hk];rfl) ?_;refine nx (by simp only[wd,↓reduceIte,Nat.reduceEqDiff,Nat.reduceAdd,Int.reduceEq,Tz,fi,f1,im,ad2,p1];rfl) ?_;simp only[wd,↓reduceIte,nI]
 ·have hc:o8 w e=true:=by
   unfold fJ at he;rw[TF (by omega),TB (by omega)]at he;exact he
  unfold o8 at hc;simp only[TA,TK]at hc;obtain⟨_,c1,c2,c3,c4⟩:=hc;obtain⟨j,l,a1,a2,a3,a4⟩:=hO c1 c2;obtain⟨a,b1,b2⟩:=hw.loc j l a2;have il:=eQ a2;have ia:=gY b1;have has:=hw.as;have hok:=ok.as;have a0:=BA (l:=w.actors) (by omega);rw[hk]at c4;simp only[Uz,Uy,US]at c4;rw[a4]at c4;have b3:=b2;unfold ed at b3;rw[TK]at b3;have htm:a.timer≠ -1:=λh=>b3.2.2.2.2.2.2.2 ⟨c4,h⟩;obtain⟨g1,g2,g3⟩:=ok.timer a (TC b1) htm;have u3:=u3 hk;have ad2:=jo (x:=w.used.time) (y:=1) (by omega) (by omega);have up:=BS (x:=false) a2;have hjl:=(List.getElem?_eq_some_iff.1 a2).1;have hset:(dy (it w) j {l with armed:=false}).actors[j]?=some {l with armed:=false}:=by simp only[dy,it];exact Ul hjl
  have t1:=r2 (dy (it w) j {l with armed:=false}) ⟨R.flow,by simp only[dy,it,UX];exact R.as,λy hy=>by
   simp only[dy,it]at hy;rcases Uu hy with hy|rfl
   ·exact R.loc y hy
   ·exact R.loc l (TC a2),hm,R.args⟩ j {l with armed:=false} hset (by rw[a3]at c3;exact c3) a.timer ⟨g1,g2⟩ [] (by rw[g3];rfl)
  have hA:cT p w e=sy p (dy (it w) j {l with armed:=false}) j a.timer []:=by
   simp only[cT,hk,Int.reduceEq,TY,TU,a1,TV,a2,ni,b1]
  rw[hA];have ei:eI []=.lst [] false:=rfl;rw[ei]at t1;simp only[ay,dy,it]at t1;refine nx (by simp only[wd,↓reduceIte,Nat.reduceEqDiff,hk];rfl) ?_;refine nx (by simp only[wd,↓reduceIte,Nat.reduceEqDiff,Nat.reduceAdd,Int.reduceEq,Tz,a1,il,ia,ad2,a0,up,t1];rfl) ?_;simp only[wd,↓reduceIte,dy,it]
 ·have hc:o8 w e=true:=by
   unfold fJ at he;rw[TF (by omega),TB (by omega)]at he;exact he
  unfold o8 at hc;simp only[TA,TK]at hc;obtain⟨_,c1,c2,c3,c4⟩:=hc;obtain⟨j,l,a1,a2,a3,a4⟩:=hO c1 c2;obtain⟨a,b1,b2⟩:=hw.loc j l a2;have il:=eQ a2;have ia:=gY b1;have has:=hw.as;have hok:=ok.as;have a0:=BA (l:=w.actors) (by omega);have u4:=u4 hk;have ad2:=jo (x:=w.used.crash) (y:=1) (by omega) (by omega);have up:=Gi (x:=1) a2;have hA:cT p w e=dy (sJ w) j {l with down:=1}:=by
   simp only[cT,hk,Int.reduceEq,TY,TU,a1,TV,a2]
  rw[hA];refine nx (by simp only[wd,↓reduceIte,Nat.reduceEqDiff,hk];rfl) ?_;refine nx (by simp only[wd,↓reduceIte,Nat.reduceEqDiff,Int.reduceEq,a1,il,ad2,a0,up];rfl) ?_;simp only[wd,↓reduceIte,dy,sJ]
def dx(p:SProg)(w:aq)(e:SEvent):List SNote:=
 if fJ w e=false then[]
 else if e.kind=1 then(match w.mail[(bR w.mail e.id).toNat]? with
  |some x=>(match w.actors[x.note.to.toNat]? with|some l=>(fH p x.note.to l x.note.handler x.note.args).notes|none=>[])
  |none=>[])
 else if e.kind=4 then(match w.actors[e.who.toNat]? with|some l=>(fH p e.who {l with armed:=false} (ni p e.who.toNat) []).notes|none=>[])
 else[]
theorem Ks{m:Nat}(p:SProg)(w:aq)(hw:WOk p w)(hs:jN w)(hm:w.mail.length<900000000)(e:SEvent):aj aG (m+6) 138 [aA p,aE w,bD e]=some (dS (dx p w e),[]):=by
 refine am (F:=lR) rfl rfl rfl ?_ (.inl rfl);have R:=hw.ran hm;obtain⟨ok,_⟩:=dW hw.flow;have has:=hw.as;have hok:=ok.as;have ht:xn w:=λx hx=>by
  have:=hw.msg x hx;unfold dI at this;rw[TK]at this;have h:=cK this.1;rw[hw.as];exact⟨h.1,h.2.1⟩
 have cn:=L3 (m:=m+1) w hs ht e;have fi:=A6 (m:=m+2) w.mail (by omega) e.id;have go:=λwho hw' l hl hs' k hk args ha=>PX (m:=m) p hw.flow who hw' l hl hs' k hk args ha;generalize aj aG (m+5)=C at*;generalize aY aG=V;have en:dS []=.lst [] false:=rfl;simp only[aA,ao,bl,br,pU]at go;simp only[aE,ay,bD,dm]at cn;simp only[ug,wl]at fi;simp only[aA,ao,aE,ay,bD,dm,lR];refine nx (by simp only[wd,↓reduceIte,Nat.reduceAdd,Tz];rfl) ?_;cases hc:fJ w e with
 |false=>
  rw[hc]at cn;rw[dx,TB hc];refine ah ?_;simp only[wd,↓reduceIte,Nat.reduceEqDiff,Int.reduceNeg,un,cn,en]
 | true=>
  rw[hc]at cn;refine nx (by simp only[wd,↓reduceIte,Nat.reduceEqDiff,Int.reduceNeg,un,cn];rfl) ?_;rw[mM];refine nx (by simp only[wd,↓reduceIte,Nat.reduceEqDiff];rfl) ?_;by_cases k1:e.kind=1
  ·have hf:¬bR w.mail e.id<0:=by
    unfold fJ uE at hc;rw[TB (by omega)]at hc;simp only[TA,TZ,TX]at hc;exact hc.2.1
   obtain⟨k,x,j,l,f1,f2,f3,f4,f5,f6,f7⟩:=iG ht hf;have im:=dR f2;have il:=eQ f5;have hmsg:=hw.msg x (TC f2);unfold dI at hmsg;rw[TK]at hmsg;obtain⟨n1,n2,n3,n4,n5⟩:=cK hmsg.1;have hl:=R.loc l (TC f5);have g:=go (j:Nat) ⟨by omega,by omega⟩ l (by omega) ⟨by omega,by omega⟩ x.note.handler ⟨n3,n4⟩ x.note.args n5;have hA:dx p w e=(fH p (j:Nat) l x.note.handler x.note.args).notes:=by
    rw[dx,TF (by rw[hc];decide),TB k1,f1,TV];simp only[f2,f4,TV,f5]
   rw[hA];simp only[co]at im;rw[f4]at im;simp only[br]at il;refine ah ?_;simp only[we,↓reduceIte,Nat.reduceEqDiff,Nat.reduceAdd,Tz,k1,fi,f1,im,il,g]
  ·by_cases k4:e.kind=4
   ·have hc2:o8 w e=true:=by
     unfold fJ at hc;rw[TF (by omega),TB (by omega)]at hc;exact hc
    unfold o8 at hc2;simp only[TA,TK]at hc2;obtain⟨_,c1,c2,c3,c4⟩:=hc2;obtain⟨j,l,a1,a2,a3,a4⟩:=hO c1 c2;obtain⟨a,b1,b2⟩:=hw.loc j l a2;have il:=eQ a2;have ia:=gY b1;rw[k4]at c4;simp only[Uz,Uy,US]at c4;rw[a4]at c4;have b3:=b2;unfold ed at b3;rw[TK]at b3;have htm:a.timer≠ -1:=λh=>b3.2.2.2.2.2.2.2 ⟨c4,h⟩;obtain⟨g1,g2,g3⟩:=ok.timer a (TC b1) htm;have hl:=R.loc l (TC a2);have g:=go (j:Nat) ⟨by omega,by omega⟩ {l with armed:=false} (by show l.regs.length<100000;omega) ⟨by show _<=l.sent;omega,by show l.sent<=_;omega⟩ a.timer ⟨g1,g2⟩ [] (by rw[g3];rfl);have hA:dx p w e=(fH p (j:Nat) {l with armed:=false} a.timer []).notes:=by
     rw[dx,TF (by rw[hc];decide),TF k1,TB k4,a1];simp only[TV,a2,ni,b1]
    rw[hA];have ei:eI []=.lst [] false:=rfl;rw[ei]at g;simp only[br]at il;refine ah ?_;simp only[we,↓reduceIte,Nat.reduceEqDiff,Nat.reduceAdd,Int.reduceEq,Tz,k4,a1,il,ia,g]
   ·have hA:dx p w e=[]:=by rw[dx,TF (by rw[hc];decide),TF k1,TF k4]
    rw[hA];refine nx (by simp only[wd,↓reduceIte,k1,k4];rfl) ?_;simp only[wd,↓reduceIte,en]
theorem CA{m:Nat}(p:SProg)(hp:fL p)(w:aq)(hs:jN w)(hm:w.mail.length<900000000)(e:SEvent):aj aG (m+8) 127 [aA p,aE w,bD e]=some (dS (if fg p w=true then dx p w e else[]),[]):=by
 refine am (F:=lH) rfl rfl rfl ?_ (.inl rfl);have ck:=BR (m:=m) p hp w hs;have wuu:=λhw=>Ks (m:=m+1) p w hw hs hm e;generalize aj aG (m+7)=C at*;generalize aY aG=V;have en:dS []=.lst [] false:=rfl;simp only[aA,ao,aE,ay,bD,dm]at ck wuu;simp only[aA,ao,aE,ay,bD,dm,lH];refine nx (by simp only[wd,↓reduceIte,Nat.reduceAdd,Tz];rfl) ?_;cases hc:fg p w with
 |false=>
  rw[hc]at ck;refine ah ?_;simp only[wd,↓reduceIte,Nat.reduceEqDiff,Int.reduceNeg,un,ck,en]
 |true=>
  rw[hc]at ck;have wuu:=wuu (RI hc);refine nx (by simp only[wd,↓reduceIte,Nat.reduceEqDiff,Int.reduceNeg,un,ck];rfl) ?_;simp only[wd,↓reduceIte,Nat.reduceEqDiff,wuu]
def vl(M:bu):bu:={M with loc:={M.loc with armed:=false}}
def yH(x:bu×Int):bu×Int:=(vl x.1,x.2)
def Oi(x:bu×Int×Nat):bu×Int×Nat:=(vl x.1,x.2)
theorem Ip(M:bu)(i:SInstr):(da M i).map yH=(da (vl M) i).map yH:=by
 unfold da;by_cases h1:i.op=1
 ·simp[h1,yH,vl]
 by_cases h2:i.op=2
 ·cases h:M.stack<;>simp[h2,yH,vl,h]
 by_cases h3:i.op=3
 ·cases h:M.stack<;>simp[h3,yH,vl,h]
 by_cases h4:i.op=4
 ·rcases h:M.stack with _|⟨b,_|⟨a,t⟩⟩<;>simp[h4,yH,vl,h]
 by_cases h5:i.op=5
 ·simp[h5,yC,yH,vl]
 by_cases h6:i.op=6
 ·cases h:M.stack with
  |nil=>simp[h6,yC,vl,h]
  |cons x t=>
   by_cases hl:i.a<M.loc.regs.length<;>simp[h6,yC,yH,vl,h,hl]
 by_cases h7:i.op=7
 ·cases h:M.args[i.a.toNat]?<;>simp[h7,yH,vl,h]
 by_cases h8:i.op=8
 ·simp[h8,yH,vl]
 by_cases h20:i.op=20
 ·simp[h20,yH,vl]
 by_cases h21:i.op=21
 ·cases h:M.stack with
  |nil=>simp[h21,vl,h]
  |cons x t=>by_cases hx:x=0<;>simp[h21,yH,vl,h,hx]
 by_cases h22:i.op=22
 ·cases h:M.stack with
  |nil=>simp[h22,pL,vl,h]
  |cons x t=>
   by_cases hx:x<0∨(M.p.actors.length:Int)<=x
   ·simp[h22,pL,yH,vl,h,hx]
   ·by_cases hk:(cz M.p i.a).toNat<=t.length<;>simp[h22,pL,yH,vl,h,hx,hk]
 by_cases h23:i.op=23
 ·simp[h23,yH,vl,oD]
 by_cases h24:i.op=24
 ·simp[h24,yH,vl]
 by_cases h25:i.op=25
 ·simp[h25,yH,vl]
 rcases h:M.stack with _|⟨b,_|⟨a,t⟩⟩
 ·simp[h1,h2,h3,h4,h5,h6,h7,h8,h20,h21,h22,h23,h24,h25,bg,vl,h]
 ·cases ho:ej i.op b<;>simp[h1,h2,h3,h4,h5,h6,h7,h8,h20,h21,h22,h23,h24,h25,bg,yH,vl,h,ho]
 ·cases ho:ej i.op b<;>simp[h1,h2,h3,h4,h5,h6,h7,h8,h20,h21,h22,h23,h24,h25,bg,yH,vl,h,ho]
theorem ME(code:List SInstr):∀(f:Nat)(M M':bu)(s:Nat),vl M=vl M'->(vY code f M s).map Oi=(vY code f M' s).map Oi:=by
 intro f;induction f with
 |zero=>
  intro M M' s h;have hat:M.at'=M'.at':=by have:=congrArg bu.at' h;exact this
  unfold vY;rw[hat];split<;>simp[Oi,h]
 | succ f ih=>
  intro M M' s h;have hat:M.at'=M'.at':=by have:=congrArg bu.at' h;exact this
  unfold vY;rw[hat];split
  ·cases hi:code[M'.at'.toNat]? with
   |none=>rfl
   | some i=>
    have hd:(da M i).map yH=(da M' i).map yH:=by rw[Ip M i,h,<-Ip M' i]
    simp only;cases h1:da M i with
    |none=>
     cases h2:da M' i with
     |none=>rfl
     |some y=>rw[h1,h2]at hd;simp at hd
    | some x=>
     cases h2:da M' i with
     |none=>rw[h1,h2]at hd;simp at hd
     |some y=>
      rw[h1,h2]at hd;simp only[TT,Ty,yH,TH]at hd;obtain⟨N,d⟩:=x;obtain⟨N',d'⟩:=y;simp only at hd;obtain⟨e1,rfl⟩:=hd;simp only;split
      ·exact ih N N' (s+1) e1
      ·simp[Oi,e1]
  ·simp[Oi,h]
theorem xf(p:SProg)(who:Int)(l:aT)(k:Int)(args:List Int)(b:Bool):(fH p who {l with armed:=b} k args).notes=(fH p who l k args).notes:=by
 unfold fH;cases hk:p.handlers[k.toNat]? with
 |none=>rfl
 | some h=>
  simp only;have:=ME h.code p.fuel.toNat ⟨p,who,args,{l with armed:=b},[],[],0⟩ ⟨p,who,args,l,[],[],0⟩ 0 rfl;cases h1:vY h.code p.fuel.toNat ⟨p,who,args,{l with armed:=b},[],[],0⟩ 0 with
  |none=>
   cases h2:vY h.code p.fuel.toNat ⟨p,who,args,l,[],[],0⟩ 0 with
   |none=>rfl
   |some y=>rw[h1,h2]at this;simp at this
  | some x=>
   cases h2:vY h.code p.fuel.toNat ⟨p,who,args,l,[],[],0⟩ 0 with
   |none=>rw[h1,h2]at this;simp at this
   |some y=>
    rw[h1,h2]at this;simp only[TT,Ty,Oi,TH]at this;obtain⟨e1,e2⟩:=this;have e3:x.1.notes=y.1.notes:=by have:=congrArg bu.notes e1;exact this
    simp only[oT,e2,e3];split<;>rfl
def Mo(w:aq):aq:={w with used:=⟨0,0,0,0⟩}
theorem K8(w:aq)(k:Int):mG (rU ⟨1000,1000,1000,1000⟩ (Mo w)) k=true:=by
 have:pN 1000 0=1000:=by unfold pN;rw[uB (by omega) (by omega)];rfl
 simp[mG,rU,Mo,this]
theorem IR{m:Nat}(p:SProg)(hp:fL p)(w:aq)(hw:WOk p w)(hs:jN w)(hm:w.mail.length<900000000)(e:SEvent):aj aG (m+8) 227 [aA p,aE w,bD e]=some (dS (dx p w e),[]):=by
 refine am (F:=lx) rfl rfl rfl ?_ (.inl rfl);have R:=hw.ran hm;obtain⟨ok,_⟩:=dW hw.flow;have has:=hw.as;have hok:=ok.as;have ht:xn w:=λx hx=>by
  have:=hw.msg x hx;unfold dI at this;rw[TK]at this;have h:=cK this.1;rw[hw.as];exact⟨h.1,h.2.1⟩
 have cn:=Ma (m:=m+4) ⟨1000,1000,1000,1000⟩ (Mo w) ⟨hs.as,hs.mail,hs.regs⟩ ht e;have hcan:fJ (Mo w) e=fJ w e:=rfl;rw[K8,Us,hcan]at cn;have fi:=tZ (m:=m+6) w.mail (by omega) e.id;have R0:RanOk p (Mo w):=⟨R.flow,R.as,R.loc,R.ml,R.args⟩;have go:=λj l hj hd k hk args ha=>xk (m:=m) p hp (Mo w) R0 j l hj hd k hk args ha;generalize aj aG (m+7)=C at*;generalize aY aG=V;have en:dS []=.lst [] false:=rfl;simp only[aA,ao,aE,ay,Mo]at go;simp only[aE,ay,bD,dm,bq,cN,Mo]at cn;simp only[ug,wl]at fi;simp only[aA,ao,aE,ay,bD,dm,lx];refine nx (by simp only[wd,↓reduceIte,Nat.reduceEqDiff,Nat.reduceAdd,Tz];rfl) ?_;cases hc:fJ w e with
 |false=>
  rw[hc]at cn;rw[dx,TB hc];refine ah ?_;simp only[wd,↓reduceIte,Nat.reduceEqDiff,Int.reduceNeg,un,cn,en]
 | true=>
  rw[hc]at cn;refine nx (by simp only[wd,↓reduceIte,Nat.reduceEqDiff,Int.reduceNeg,un,cn];rfl) ?_;rw[mM];refine nx (by simp only[wd,↓reduceIte,Nat.reduceEqDiff];rfl) ?_;by_cases k1:e.kind=1
  ·have hf:¬bR w.mail e.id<0/\(e.kind=1->nN w (DE w (bR w.mail e.id))=0):=by
    unfold fJ uE at hc;rw[TB (by omega)]at hc;simp only[TA,TZ,TX,UO,TK]at hc;exact⟨hc.2.1,λh=>hc.2.2.resolve_left (λh2=>h2 h)⟩
   obtain⟨hf,hdn⟩:=hf;obtain⟨k,x,j,l,f1,f2,f3,f4,f5,f6,f7⟩:=iG ht hf;have im:=dR f2;have hmsg:=hw.msg x (TC f2);unfold dI at hmsg;rw[TK]at hmsg;obtain⟨n1,n2,n3,n4,n5⟩:=cK hmsg.1;have g:=go j l f5 (by rw[<-f7,<-f6];exact hdn k1) x.note.handler ⟨n3,n4⟩ x.note.args n5;have hA:dx p w e=(fH p (j:Nat) l x.note.handler x.note.args).notes:=by
    rw[dx,TF (by rw[hc];decide),TB k1,f1,TV];simp only[f2,f4,TV,f5]
   rw[hA];simp only[co]at im;rw[f4]at im;refine ah ?_;simp only[we,↓reduceIte,Nat.reduceEqDiff,Nat.reduceAdd,Tz,k1,fi,f1,im,g]
  ·by_cases k4:e.kind=4
   ·have hc2:o8 w e=true:=by
     unfold fJ at hc;rw[TF (by omega),TB (by omega)]at hc;exact hc
    unfold o8 at hc2;simp only[TA,TK]at hc2;obtain⟨_,c1,c2,c3,c4⟩:=hc2;obtain⟨j,l,a1,a2,a3,a4⟩:=hO c1 c2;obtain⟨a,b1,b2⟩:=hw.loc j l a2;have ia:=gY b1;rw[k4]at c4;simp only[Uz,Uy,US]at c4;rw[a4]at c4;have b3:=b2;unfold ed at b3;rw[TK]at b3;have htm:a.timer≠ -1:=λh=>b3.2.2.2.2.2.2.2 ⟨c4,h⟩;obtain⟨g1,g2,g3⟩:=ok.timer a (TC b1) htm;have g:=go j l a2 (by rw[a3]at c3;exact c3) a.timer ⟨g1,g2⟩ [] (by rw[g3];rfl);have hA:dx p w e=(fH p (j:Nat) l a.timer []).notes:=by
     rw[dx,TF (by rw[hc];decide),TF k1,TB k4,a1];simp only[TV,a2,ni,b1];exact xf p (j:Nat) l a.timer [] false
    rw[hA];have ei:eI []=.lst [] false:=rfl;rw[ei]at g;refine ah ?_;simp only[we,↓reduceIte,Nat.reduceEqDiff,Nat.reduceAdd,Int.reduceEq,Tz,k4,a1,ia,g]
   ·have hA:dx p w e=[]:=by rw[dx,TF (by rw[hc];decide),TF k1,TF k4]
    rw[hA];refine nx (by simp only[wd,↓reduceIte,k1,k4];rfl) ?_;simp only[wd,↓reduceIte,en]
theorem IG{m:Nat}(p:SProg)(hp:fL p)(w:aq)(hs:jN w)(hm:w.mail.length<900000000)(e:SEvent):aj aG (m+9) 208 [aA p,aE w,bD e]=some (dS (if fg p w=true then dx p w e else[]),[]):=by
 refine am (F:=kV) rfl rfl rfl ?_ (.inl rfl);have ck:=zq (m:=m+3) p hp w hs;have wuu:=λhw=>IR (m:=m) p hp w hw hs hm e;generalize aj aG (m+8)=C at*;generalize aY aG=V;have en:dS []=.lst [] false:=rfl;simp only[aA,ao,aE,ay,bD,dm]at ck wuu;simp only[aA,ao,aE,ay,bD,dm,kV];refine nx (by simp only[wd,↓reduceIte,Nat.reduceAdd,Tz];rfl) ?_;cases hc:fg p w with
 |false=>
  rw[hc]at ck;refine ah ?_;simp only[wd,↓reduceIte,Nat.reduceEqDiff,Int.reduceNeg,un,ck,en]
 |true=>
  rw[hc]at ck;have wuu:=wuu (RI hc);refine nx (by simp only[wd,↓reduceIte,Nat.reduceEqDiff,Int.reduceNeg,un,ck];rfl) ?_;simp only[wd,↓reduceIte,Nat.reduceEqDiff,wuu]
theorem H6(b:Bool):Gv.eqb false (.bool b) (.bool b)=some (.bool true):=by cases b<;>rfl
theorem vK{m:Nat}(l:aT)(hl:l.regs.length<1000000000):aj aG (m+2) 229 [bl l,bl l]=some (.bool true,[]):=by
 refine am (F:=gy) rfl rfl rfl ?_ (.inr rfl);have ri:=FU (m:=m) l.regs l.regs hl;generalize aj aG (m+1)=C at*;generalize aY aG=V;rw[T3 rfl]at ri;simp only[bl,br,gy];simp only[we,↓reduceIte,Nat.reduceEqDiff,Nat.reduceAdd,Tz,ri,H6]
theorem pK{m:Nat}(l:List SNote)(hl:l.length<1000000)(ha:∀n∈l,n.args.length<1000000000):aj aG (m+3) 89 [dS l,dS l]=some (.bool true,[]):=by
 refine am (F:=gO) rfl rfl rfl ?_ (.inr rfl);have sn:=λn(hn:n∈l)=>u6 (m:=m) n n (ha n hn);generalize aj aG (m+2)=C at*;generalize aY aG=V;simp only[eK,Uz]at sn;simp only[gO];refine nx (by simp only[wd];rfl) ?_;refine nx (by simp only[wd,↓reduceIte,d9];rfl) ?_;rw[mM];refine nx (by simp only[wd,↓reduceIte];rfl) ?_;rw[kR];refine oE (mB (n:=l.length) (by omega) (λk e=>e 5=.int .i64 (k:Nat)/\e 0=dS l/\e 1=dS l) (λe=>True) (λk e hk ⟨h5,h0,h1⟩=>?_) (λe ⟨h5,h0,h1⟩=>?_) ⟨by simp,by simp[Env.ofArgs_at],by simp[Env.ofArgs_at]⟩) (λe _=>?_)
 ·obtain⟨n,hx,hm⟩:=aN hk;have inn:=yc hx;have ad2:=bT (k:=k) (by omega);have q:=sn n hm;have hb:aI .lss .i64 (k:Int) .i64 (l.length:Int)=some (.bool true):=by rw[bA,T3 (by omega)]
  refine⟨_,_,by simp only[wd,↓reduceIte,h5,h0,d9,hb];rfl,by simp only[we,↓reduceIte,Nat.reduceEqDiff,Nat.reduceAdd,Int.reduceNeg,Tz,un,h5,h0,h1,inn,q,ad2];rfl,?_⟩;simp[h0,h1]
 ·have hb:aI .lss .i64 (l.length:Int) .i64 (l.length:Int)=some (.bool false):=by rw[bA,TP (by omega)]
  exact⟨_,by simp only[wd,↓reduceIte,h5,h0,d9,hb];rfl,trivial⟩
 ·simp only[wd,↓reduceIte]
theorem wT{m:Nat}(w:aq)(has:w.actors.length<1000000)(hml:xj w.mail)(hr:∀l∈w.actors,l.regs.length<1000000000):aj aG (m+4) 210 [aE w,aE w]=some (.bool true,[]):=by
 refine am (F:=m9) rfl rfl rfl ?_ (.inr rfl);have sl:=λl(h:l∈w.actors)=>vK (m:=m+1) l (hr l h);have sm:=KM (m:=m) w.mail w.mail hml;generalize aj aG (m+3)=C at*;generalize aY aG=V;rw[T3 rfl]at sm;have e4:rD true [false,false,false,false] (.agg [.int .i64 w.used.drop,.int .i64 w.used.dup,.int .i64 w.used.time,.int .i64 w.used.crash]) (.agg [.int .i64 w.used.drop,.int .i64 w.used.dup,.int .i64 w.used.time,.int .i64 w.used.crash])=some (.bool false):=by
  simp[rD,aQ]
 simp only[bl,br]at sl;simp only[aE,ay,m9];refine nx (by simp only[wd,↓reduceIte,Nat.reduceAdd,Tz];rfl) ?_;refine nx (by simp only[wd,↓reduceIte,Nat.reduceEqDiff,Int.reduceNeg,Tz,un,bn,e4,sm];rfl) ?_;rw[mM];refine nx (by simp only[wd,↓reduceIte];rfl) ?_;rw[qx];refine oE (mB (n:=w.actors.length) (by omega) (λk e=>e 5=.int .i64 (k:Nat)/\e 2=.lptr (ay w)/\e 3=.lptr (ay w)) (λe=>True) (λk e hk ⟨h5,h0,h1⟩=>?_) (λe ⟨h5,h0,h1⟩=>?_) ⟨by simp,by simp[ay],by simp[ay]⟩) (λe _=>?_)
 ·obtain⟨l,hx,hm⟩:=aN hk;have il:=eQ hx;have ad2:=bT (k:=k) (by omega);have q:=sl l hm;have hb:aI .lss .i64 (k:Int) .i64 (w.actors.length:Int)=some (.bool true):=by rw[bA,T3 (by omega)]
  simp only[ay]at h0 h1;simp only[br]at il;refine⟨_,_,by simp only[wd,↓reduceIte,h5,h0,bn,hb];rfl,by simp only[we,↓reduceIte,Nat.reduceEqDiff,Nat.reduceAdd,Int.reduceNeg,Tz,un,h5,h0,h1,il,q,ad2];rfl,?_⟩;simp[h0,h1,ay]
 ·have hb:aI .lss .i64 (w.actors.length:Int) .i64 (w.actors.length:Int)=some (.bool false):=by rw[bA,TP (by omega)]
  simp only[ay]at h0;exact⟨_,by simp only[wd,↓reduceIte,h5,h0,bn,hb];rfl,trivial⟩
 ·simp only[wd,↓reduceIte]
theorem wh{α:Type}{l:List α}{q:α->Bool}:(∀k,k<l.length->(l[k]?).all q=true)↔∀x∈l,q x=true:=by
 constructor
 ·intro h x hx;obtain⟨k,hk,rfl⟩:=List.mem_iff_getElem.1 hx;have:=h k hk;rw[TD hk]at this;simpa using this
 ·intro h k hk;rw[TD hk];simpa using h _ (List.getElem_mem hk)
def J1(p:SProg):Bool:=decide (p.handlers.length<=18/\p.actors.length<=10/\p.boot.length<=18)&&(decide (∀x∈p.handlers,decide (x.code.length<=70)=true)&&(decide (∀x∈p.actors,decide (x.regs.length<=10)=true)&&decide (∀x∈p.boot,decide (x.args.length<=6)=true)))
theorem HN{m:Nat}{p:SProg}:aj aG (m+1) 46 [aA p]=some (.bool (J1 p),[]):=by
 refine am (F:=jS) rfl rfl rfl ?_ (.inr rfl);generalize aj aG m=C;generalize aY aG=V;obtain⟨hs,as,ns,fuel⟩:=p;have hlen:bO (iw hs)=some (.int .i64 hs.length):=bK;have alen:bO (i4 as)=some (.int .i64 as.length):=bP;have nlen:bO (dS ns)=some (.int .i64 ns.length):=d9;simp only[aA,ao,jS,n9,oq,ou];refine nx (by simp only[wc,↓reduceIte,Nat.reduceAdd,Tz];rfl) ?_;by_cases hc:hs.length<=18/\as.length<=10/\ns.length<=18
 ·obtain⟨c1,c2,c3⟩:=hc;refine nx (by simp only[wc,↓reduceIte,hlen,alen,nlen,show¬(18:Int)<hs.length by omega,show¬(10:Int)<as.length by omega,show¬(18:Int)<ns.length by omega];rfl) ?_;have hr:J1 ⟨hs,as,ns,fuel⟩=(decide (∀x∈hs,decide (x.code.length<=70)=true)&&(decide (∀x∈as,decide (x.regs.length<=10)=true)&&decide (∀x∈ns,decide (x.args.length<=6)=true))):=by
   simp only[J1,c1,c2,c3,and_self,Uz,Uj]
  rw[hr];rw[mM];refine nx (by simp only[wc,↓reduceIte];rfl) ?_
  let St:Nat->Env->Prop:=λ_ e=>e 1=.lptr [iw hs,i4 as,dS ns,.int .i64 fuel]
  refine rf (n:=hs.length) (by omega) (λk=>(hs[k]?).all λx=>decide (x.code.length<=70)) (.bool false) St _ (λk e v h=>by simpa[St]using h)
   (λk e hk h hv=>by
              have h:e 1=_:=h;have hz:decide ((k:Int)<(hs.length:Int))=decide (k<hs.length):=by simp
              by_cases hkn:k<hs.length<;>simp only[wc,↓reduceIte,hz,h,hv,hlen,hkn])
   (λk e hk h hv=>by
    obtain⟨x,hx,_⟩:=aN hk;have h:e 1=_:=h;have hi:az 2 (iw hs) (.int .i64 (k:Nat))=some (.lptr [.int .i64 x.args,cw x.code]):=Mn hx;by_cases hxy:x.code.length<=70
    ·refine⟨_,by simp only[wc,↓reduceIte,h,hv,hi,fG,show¬(70:Int)<x.code.length by omega];rfl,?_⟩;simp[hx,hxy,h,hv,St]
    ·refine⟨_,by simp only[wc,↓reduceIte,h,hv,hi,fG,show(70:Int)<x.code.length by omega];rfl,?_⟩;simp[hx,hxy]) wh (λhP e h=>?_) (λhP=>by rw[TP hP,Un]) (by simp[St]) (by simp)
  have h:e 1=_:=h;rw[T3 hP,Uj];rw[mM];refine nx (by simp only[wc,↓reduceIte];rfl) ?_;refine rf (n:=as.length) (by omega) (λk=>(as[k]?).all λx=>decide (x.regs.length<=10)) (.bool false) St _ (λk e v h=>by simpa[St]using h)
   (λk e hk h hv=>by
              have h:e 1=_:=h;have hz:decide ((k:Int)<(as.length:Int))=decide (k<as.length):=by simp
              by_cases hkn:k<as.length<;>simp only[wc,↓reduceIte,hz,h,hv,alen,hkn])
   (λk e hk h hv=>by
    obtain⟨x,hx,_⟩:=aN hk;have h:e 1=_:=h;have hi:az 4 (i4 as) (.int .i64 (k:Nat))=some (.lptr [eI x.regs,.int .i64 x.cap,.int .i64 x.timer,.bool x.armed]):=L0 hx;by_cases hxy:x.regs.length<=10
    ·refine⟨_,by simp only[wc,↓reduceIte,h,hv,hi,cE,show¬(10:Int)<x.regs.length by omega];rfl,?_⟩;simp[hx,hxy,h,hv,St]
    ·refine⟨_,by simp only[wc,↓reduceIte,h,hv,hi,cE,show(10:Int)<x.regs.length by omega];rfl,?_⟩;simp[hx,hxy]) wh (λhP e h=>?_) (λhP=>by rw[TP hP,Un]) (by simp[St,h]) (by simp)
  have h:e 1=_:=h;rw[T3 hP,Uj];rw[mM];refine nx (by simp only[wc,↓reduceIte];rfl) ?_;refine rf (n:=ns.length) (by omega) (λk=>(ns[k]?).all λx=>decide (x.args.length<=6)) (.bool false) St _ (λk e v h=>by simpa[St]using h)
   (λk e hk h hv=>by
              have h:e 1=_:=h;have hz:decide ((k:Int)<(ns.length:Int))=decide (k<ns.length):=by simp
              by_cases hkn:k<ns.length<;>simp only[wc,↓reduceIte,hz,h,hv,nlen,hkn])
   (λk e hk h hv=>by
    obtain⟨x,hx,_⟩:=aN hk;have h:e 1=_:=h;have hi:az 3 (dS ns) (.int .i64 (k:Nat))=some (.lptr [.int .i64 x.to,.int .i64 x.handler,eI x.args]):=Mu hx;by_cases hxy:x.args.length<=6
    ·refine⟨_,by simp only[wc,↓reduceIte,h,hv,hi,cE,show¬(6:Int)<x.args.length by omega];rfl,?_⟩;simp[hx,hxy,h,hv,St]
    ·refine⟨_,by simp only[wc,↓reduceIte,h,hv,hi,cE,show(6:Int)<x.args.length by omega];rfl,?_⟩;simp[hx,hxy]) wh (λhP e h=>?_) (λhP=>by rw[TP hP]) (by simp[St,h]) (by simp)
  rw[T3 hP];simp only[wc,↓reduceIte]
 ·have hr:J1 ⟨hs,as,ns,fuel⟩=false:=by
   simp only[J1,TP hc,Un]
  rw[hr];refine ah ?_;by_cases c1:(18:Int)<hs.length
  ·simp only[wc,↓reduceIte,reduceCtorEq,hlen,alen,nlen,c1]
  ·by_cases c2:(10:Int)<as.length
   ·simp only[wc,↓reduceIte,reduceCtorEq,hlen,alen,nlen,c1,c2]
   ·have c3:(18:Int)<ns.length:=by omega
    simp only[wc,↓reduceIte,hlen,alen,nlen,c1,c2,c3]
def sf(w:aq):Bool:=decide (w.actors.length<=10)&&(rK w.mail&&decide (∀x∈w.actors,decide (x.regs.length<=10)=true))
theorem Iu{m:Nat}(w:aq):aj aG (m+2) 207 [aE w]=some (.bool (sf w),[]):=by
 refine am (F:=jP) rfl rfl rfl ?_ (.inr rfl);have ma:=KI (m:=m) w.mail;generalize aj aG (m+1)=C at*;generalize aY aG=V;simp only[aE,ay,jP,sf];refine nx (by simp only[wd,↓reduceIte,Nat.reduceAdd,Tz];rfl) ?_;by_cases h1:w.actors.length<=10
 rotate_left
 ·rw[TP h1,Un];refine ah ?_;simp only[wd,↓reduceIte,Nat.reduceEqDiff,reduceCtorEq,Int.reduceNeg,un,bn,show(10:Int)<w.actors.length by omega]
 have h1':¬(10:Int)<w.actors.length:=by omega
 rw[T3 h1,Uj];cases h2:rK w.mail with
 |false=>
  rw[h2]at ma;refine ah ?_;simp only[wd,↓reduceIte,Nat.reduceEqDiff,Int.reduceNeg,Tz,un,bn,h1',ma]
 | true=>
  rw[h2]at ma;rw[Uj];refine nx (by simp only[wd,↓reduceIte,Nat.reduceEqDiff,Int.reduceNeg,Tz,un,bn,h1',ma];rfl) ?_;rw[mM];refine nx (by simp only[wd,↓reduceIte];rfl) ?_;rw[n8];refine rf (n:=w.actors.length) (by omega) (λk=>(w.actors[k]?).all λx=>decide (x.regs.length<=10)) (.bool false) (λ_ e=>e 1=.lptr (ay w)) _ (λk e v h=>by simpa using h)
   (λk e hk h hv=>by
    have hz:decide ((k:Int)<(w.actors.length:Int))=decide (k<w.actors.length):=by simp
    simp only[ay]at h;by_cases hkn:k<w.actors.length<;>simp only[wd,↓reduceIte,hz,h,hv,bn,hkn])
   (λk e hk h hv=>by
    obtain⟨x,hx,_⟩:=aN hk;have hi:=eQ hx;simp only[br]at hi;have h':=h;simp only[ay]at h;by_cases hxy:x.regs.length<=10
    ·refine⟨_,by simp only[wd,↓reduceIte,h,hv,hi,cE,show¬(10:Int)<x.regs.length by omega];rfl,?_⟩;simp[hx,hxy,h',hv]
    ·refine⟨_,by simp only[wd,↓reduceIte,h,hv,hi,cE,show(10:Int)<x.regs.length by omega];rfl,?_⟩;simp[hx,hxy]) wh (λhP e h=>?_) (λhP=>by rw[TP hP]) (by simp[ay]) (by simp)
  rw[T3 hP];simp only[wd,↓reduceIte]
theorem oX{w:aq}(h:sf w=true):w.actors.length<=10/\w.mail.length<=50/\(∀x∈w.mail,x.note.args.length<=6)/\∀x∈w.actors,x.regs.length<=10:=by
 unfold sf rK at h;simp only[TA,TK]at h;obtain⟨h1,⟨h2,h3⟩,h4⟩:=h;refine⟨h1,h2,λx hx=>?_,h4⟩;obtain⟨k,hk⟩:=UP hx;have:=h3 k (List.getElem?_eq_some_iff.1 hk).1;unfold ta at this;rw[hk]at this;simpa using this
theorem G5{p:SProg}(h:J1 p=true):fL p:=by
 unfold J1 at h;simp only[TA,TK]at h;obtain⟨⟨a1,a2,a3⟩,a4,a5,a6⟩:=h;exact⟨by omega,by omega,by omega,λx hx=>by have:=a4 x hx;omega,λx hx=>by have:=a5 x hx;omega,λx hx=>by have:=a6 x hx;omega⟩
theorem Dw{m:Nat}(aw:aj aG (m+11) 115 []=some (.bool true,[]))(p:SProg)(b:SBudget)(w:aq)(hu:F6 w)(e:SEvent)(hsw:∀x,ID p b w e=true->J1 p=true->sf w=true->x=cT p w e->x.actors.length<1000000/\xj x.mail/\∀l∈x.actors,l.regs.length<1000000000)(hnn:fg p w=true->J1 p=true->sf w=true->(dx p w e).length<1000000/\∀n∈dx p w e,n.args.length<1000000000):
  aj aG (m+12) 198 [aA p,bq b,aE w,bD e]=some (.bool true,[]):=by
 refine am (F:=cB) rfl rfl rfl ?_ (.inr rfl);have sp:=HN (m:=m+10) (p:=p);have sw:=Iu (m:=m+9) w;cases h1:J1 p with
 |false=>
  rw[h1]at sp;generalize aj aG (m+11)=C at*;generalize aY aG=V;simp only[aA,ao]at sp;simp only[aA,ao,bq,cN,aE,ay,bD,dm,cB];refine nx (by simp only[wd,↓reduceIte,Nat.reduceAdd,Tz];rfl) ?_;refine ah ?_;simp only[wd,↓reduceIte,Nat.reduceEqDiff,reduceCtorEq,Int.reduceNeg,un,sp,aw]
 | true=>
  cases h2:sf w with
  |false=>
   rw[h1]at sp;rw[h2]at sw;generalize aj aG (m+11)=C at*;generalize aY aG=V;simp only[aA,ao]at sp;simp only[aE,ay]at sw;simp only[aA,ao,bq,cN,aE,ay,bD,dm,cB];refine nx (by simp only[wd,↓reduceIte,Nat.reduceAdd,Tz];rfl) ?_;refine ah ?_;simp only[wd,↓reduceIte,Nat.reduceEqDiff,Int.reduceNeg,Tz,un,sp,sw,aw]
  | true=>
   have hp:=G5 h1;obtain⟨w1,w2,w3,w4⟩:=oX h2;have hs:jN w:=⟨by omega,⟨by omega,λx hx=>by have:=w3 x hx;omega⟩,λx hx=>by have:=w4 x hx;omega⟩;have d1:=Ji (m:=m) p hp b w hs (by omega) hu e;have n1:=CA (m:=m+3) p hp w hs (by omega) e;have n2:=IG (m:=m+2) p hp w hs (by omega) e;have is:=Ot (m:=m+5) p hp b w hs e;have sn:aj aG (m+11) 89 [dS (if fg p w=true then dx p w e else[]),dS (if fg p w=true then dx p w e else[])]=some (.bool true,[]):=by
    split
    ·rename_i hc;obtain⟨g1,g2⟩:=hnn hc h1 h2;exact pK (m:=m+8) _ g1 g2
    ·exact pK (m:=m+8) [] (by simp) (λn hn=>by cases hn)
   generalize hN:(if fg p w=true then dx p w e else[])=N at*;cases h3:ID p b w e with
   |false=>
    have sz:=wT (m:=m+7) zW (by simp[zW]) ⟨by simp[zW],λx hx=>by cases hx⟩ (λl hl=>by cases hl);rw[h1]at sp;rw[h2]at sw;rw[h3]at d1 is;have hd:MV p b w e=zW:=by rw[MV,h3];rfl
    rw[hd]at d1;generalize aj aG (m+11)=C at*;generalize aY aG=V;have e0:aJ []=.lst [] false:=rfl;have e1:aW []=.lst [] false:=rfl;simp only[aA,ao,bq,cN,aE,ay,bD,dm,zW,e0,e1]at sp sw d1 n1 n2 is sz;simp only[aA,ao,bq,cN,aE,ay,bD,dm,cB];refine nx (by simp only[wd,↓reduceIte,Nat.reduceAdd,Tz];rfl) ?_;refine nx (by simp only[wd,↓reduceIte,Nat.reduceEqDiff,Int.reduceNeg,Tz,un,sp,sw];rfl) ?_;refine nx (by simp only[wd,↓reduceIte,Nat.reduceEqDiff,Nat.reduceAdd,Tz,d1];rfl) ?_;refine nx (by simp only[wd,↓reduceIte,Nat.reduceEqDiff,Int.reduceNeg,un,n1,n2,sn];rfl) ?_;refine ah ?_;simp only[wd,↓reduceIte,Nat.reduceEqDiff,Int.reduceNeg,Tz,un,is,sz,aw]
   |true=>
    obtain⟨k1,k2,k3⟩:=uC hu h3;have d2:=Qu (m:=m+3) p hp w k1 (by omega) e k3 k2;obtain⟨g1,g2,g3⟩:=hsw _ h3 h1 h2 rfl;have sz:=wT (m:=m+7) (cT p w e) g1 g2 g3;rw[h1]at sp;rw[h2]at sw;rw[h3]at d1 is;have hd:MV p b w e=cT p w e:=by rw[MV,h3];rfl
    rw[hd]at d1;generalize cT p w e=w' at*;generalize aj aG (m+11)=C at*;generalize aY aG=V;simp only[aA,ao,bq,cN,aE,ay,bD,dm]at sp sw d1 n1 n2 is sz d2;simp only[aA,ao,bq,cN,aE,ay,bD,dm,cB];refine nx (by simp only[wd,↓reduceIte,Nat.reduceAdd,Tz];rfl) ?_;refine nx (by simp only[wd,↓reduceIte,Nat.reduceEqDiff,Int.reduceNeg,Tz,un,sp,sw];rfl) ?_;refine nx (by simp only[wd,↓reduceIte,Nat.reduceEqDiff,Nat.reduceAdd,Tz,d1];rfl) ?_;refine nx (by simp only[wd,↓reduceIte,Nat.reduceEqDiff,Int.reduceNeg,un,n1,n2,sn];rfl) ?_;refine nx (by simp only[wd,↓reduceIte,Nat.reduceEqDiff,Int.reduceNeg,un,is];rfl) ?_;simp only[wd,↓reduceIte,Nat.reduceEqDiff,Tz,d2,sz,aw]
theorem uT{p:SProg}(ok:DL p){l:aT}{r:JH}(R:IB p l r):r.notes.length<=256/\∀n∈r.notes,n.args.length<=4:=by
 have hf:=ok.fuel;have:=R.notes;refine⟨by omega,λn hn=>?_⟩;obtain⟨_,_,h3,h4,h5⟩:=cK (R.note n hn);have:=rk ok ⟨h3,h4⟩;omega
theorem Mk{p:SProg}{w:aq}(hw:WOk p w):xn w:=λx hx=>by
 have:=hw.msg x hx;unfold dI at this;rw[TK]at this;have h:=cK this.1;rw[hw.as];exact⟨h.1,h.2.1⟩
theorem B6{p:SProg}{w:aq}(hw:WOk p w)(hm:w.mail.length<900000000)(e:SEvent):(dx p w e).length<=256/\∀n∈dx p w e,n.args.length<=4:=by
 have R:=hw.ran hm;obtain⟨ok,_⟩:=dW hw.flow;have ht:=Mk hw;have nil:([]:List SNote).length<=256/\∀n∈([]:List SNote),n.args.length<=4:=⟨by simp,λn hn=>by cases hn⟩;unfold dx;split
 ·exact nil
 ·rename_i hc;rw[Bool.not_eq_false]at hc;split
  ·rename_i k1;have hf:¬bR w.mail e.id<0:=by
    unfold fJ uE at hc;rw[TB (by omega)]at hc;simp only[TA,TZ,TX]at hc;exact hc.2.1
   obtain⟨k,x,j,l,f1,f2,f3,f4,f5,f6,f7⟩:=iG ht hf;have hmsg:=hw.msg x (TC f2);unfold dI at hmsg;rw[TK]at hmsg;obtain⟨n1,n2,n3,n4,n5⟩:=cK hmsg.1;rw[f1,TV];simp only[f2,f4,TV,f5];exact uT ok (R.set f5 x.note.handler ⟨n3,n4⟩ x.note.args n5)
  ·split
   ·rename_i k1 k4;have hc2:o8 w e=true:=by
     unfold fJ at hc;rw[TF (by omega),TB (by omega)]at hc;exact hc
    unfold o8 at hc2;simp only[TA,TK]at hc2;obtain⟨_,c1,c2,c3,c4⟩:=hc2;obtain⟨j,l,a1,a2,a3,a4⟩:=hO c1 c2;obtain⟨a,b1,b2⟩:=hw.loc j l a2;rw[k4]at c4;simp only[Uz,Uy,US]at c4;rw[a4]at c4;have b3:=b2;unfold ed at b3;rw[TK]at b3;have htm:a.timer≠ -1:=λh=>b3.2.2.2.2.2.2.2 ⟨c4,h⟩;obtain⟨g1,g2,g3⟩:=ok.timer a (TC b1) htm;rw[a1];simp only[TV,a2,ni,b1];rw[xf];exact uT ok (R.set a2 a.timer ⟨g1,g2⟩ [] (by rw[g3];rfl))
   ·exact nil
structure MX (w:aq):Prop where
 as:w.actors.length<1000000
 ml:xj w.mail
 regs:∀l∈w.actors,l.regs.length<1000000000
def Ai(w:aq):Prop:=∀l∈w.actors,l.regs.length<1000000000
theorem EB{w:aq}(h:Ai w)(k:Nat):Ai (rO w k):=by
 unfold rO;split
 ·rename_i l hl;intro y hy;simp only at hy;rcases Uu hy with hy|rfl
  ·exact h y hy
  ·exact h l (TC hl)
 ·exact h
theorem x9{p:SProg}{w:aq}(h:Ai w)(x:aV):Ai (kS p w x):=by
 unfold kS;split
 ·exact h
 ·exact EB h _
theorem xr{p:SProg}{frm first:Int}:∀(l:List SNote)(i:Nat){w:aq},Ai w->Ai (eU p frm first l i w)
 |[],_,_,h=>h
 |n::l,i,w,h=>by
  unfold eU;refine xr l (i+1) ?_;split
  ·exact x9 h _
  ·exact h
theorem Dm{p:SProg}{w:aq}(hw:RanOk p w){j:Nat}{l:aT}(hj:w.actors[j]?=some l)(k:Int)(hk:0<=k/\k<p.handlers.length)(args:List Int)(ha:(args.length:Int)=cz p k):MX (sy p w j k args):=by
 obtain⟨ok,_⟩:=dW hw.flow;have R:=hw.set hj k hk args ha;obtain⟨r1,r2⟩:=uT ok R;have has:=hw.as;have hok:=ok.as;have hml:=hw.ml;have hA:sy p w j k args=eU p j l.sent (fH p j l k args).notes 0 (dy w j (fH p j l k args).loc):=by simp only[sy,hj]
 rw[hA];have P0:PostOk (dy w j (fH p j l k args).loc) (fH p j l k args).notes.length:=⟨by simp only[dy,UX];omega,by simp only[dy];omega,hw.args,λy hy=>by
   simp only[dy]at hy;rcases Uu hy with hy|rfl
   ·have:=hw.loc y hy;omega
   ·have:=hw.loc l (TC hj);rw[R.over];omega⟩
 have P1:=PostOk.take (p:=p) (frm:=(j:Nat)) (first:=l.sent) P0 (λn hn=>by have:=r2 n hn;omega) _ (TN _);rw[Vq]at P1;refine⟨by rw[uu];simp only[dy,UX];omega,P1.sml,xr _ _ λy hy=>?_⟩;simp only[dy]at hy;rcases Uu hy with hy|rfl
 ·have:=hw.loc y hy;omega
 ·have:=hw.loc l (TC hj);have:=R.regs;omega
theorem Eg{p:SProg}{w:aq}(hw:WOk p w)(hm:w.mail.length<900000000)(e:SEvent)(he:fJ w e=true):MX (cT p w e):=by
 have R:=hw.ran hm;obtain⟨ok,_⟩:=dW hw.flow;have ht:=Mk hw;have has:=hw.as;have hok:=ok.as;have F0:MX w:=⟨by omega,⟨by omega,R.args⟩,λl hl=>by have:=R.loc l hl;omega⟩;have del:∀k,xj (w.mail.take k++w.mail.drop (k+1)):=λk=>⟨by simp only[Ud,T7,Ur];omega,λy hy=>by
  rcases List.mem_append.1 hy with hy|hy
  ·exact R.args y (UI hy)
  ·exact R.args y (UH hy)⟩
 have msg:(e.kind=1∨e.kind=2∨e.kind=3)->∃(k:Nat)(x:aV)(j:Nat)(l:aT),bR w.mail e.id=k/\w.mail[k]?=some x/\x.note.to=(j:Int)/\w.actors[j]?=some l/\gW p x.note=0:=λhk=>by
  have hf:¬bR w.mail e.id<0:=by
   unfold fJ uE at he;rw[TB hk]at he;simp only[TA,TZ,TX]at he;exact he.2.1
  obtain⟨k,x,j,l,f1,f2,f3,f4,f5,f6,f7⟩:=iG ht hf;have hmsg:=hw.msg x (TC f2);unfold dI at hmsg;rw[TK]at hmsg;exact⟨k,x,j,l,f1,f2,f4,f5,hmsg.1⟩
 unfold cT;simp only;split
 ·rename_i hk;obtain⟨k,x,j,l,f1,f2,f4,f5,n⟩:=msg (.inl hk);obtain⟨n1,n2,n3,n4,n5⟩:=cK n;rw[f1,TV];simp only[f2,f4,TV];exact Dm (w:=nH w k) ⟨R.flow,R.as,R.loc,by simp only[nH,Ud,T7,Ur];omega,(del k).2⟩ f5 x.note.handler ⟨n3,n4⟩ x.note.args n5
 ·split
  ·exact⟨F0.as,del _,F0.regs⟩
  ·split
   ·rename_i hk;obtain⟨k,x,j,l,f1,f2,f4,f5,n⟩:=msg (.inr (.inr hk));rw[f1,TV];simp only[f2];have P0:PostOk (nI w) (0+1):=⟨by simp only[nI];omega,by simp only[nI];omega,R.args,λy hy=>by have:=R.loc y hy;omega⟩;exact⟨by rw[Ae];exact F0.as,(PostOk.post (p:=p) (x:=⟨⟨x.id.frm,x.id.n,w.used.dup+1⟩,x.note⟩) P0 (R.args x (TC f2))).sml,x9 (w:=nI w) F0.regs _⟩
   ·split
    ·rename_i hk;have hc:o8 w e=true:=by
      unfold fJ at he;rw[TF (by omega),TB (by omega)]at he;exact he
     unfold o8 at hc;simp only[TA,TK]at hc;obtain⟨_,c1,c2,c3,c4⟩:=hc;obtain⟨j,l,a1,a2,a3,a4⟩:=hO c1 c2;obtain⟨a,b1,b2⟩:=hw.loc j l a2;rw[hk]at c4;simp only[Uz,Uy,US]at c4;rw[a4]at c4;have b3:=b2;unfold ed at b3;rw[TK]at b3;have htm:a.timer≠ -1:=λh=>b3.2.2.2.2.2.2.2 ⟨c4,h⟩;obtain⟨g1,g2,g3⟩:=ok.timer a (TC b1) htm;rw[a1];simp only[TV,a2,ni,b1];have hjl:=(List.getElem?_eq_some_iff.1 a2).1;exact Dm (w:=dy (it w) j {l with armed:=false}) ⟨R.flow,by simp only[dy,it,UX];exact R.as,λy hy=>by
      simp only[dy,it]at hy;rcases Uu hy with hy|rfl
      ·exact R.loc y hy
      ·exact R.loc l (TC a2),hm,R.args⟩ (by simp only[dy,it];exact Ul hjl) a.timer ⟨g1,g2⟩ [] (by rw[g3];rfl)
    ·split
     ·split
      ·rename_i l hl;exact⟨by simp only[dy,sJ,UX];exact F0.as,F0.ml,λy hy=>by
        simp only[dy,sJ]at hy;rcases Uu hy with hy|rfl
        ·exact F0.regs y hy
        ·exact F0.regs l (TC hl)⟩
      ·exact F0
     ·exact F0
theorem zd{m:Nat}(aw:aj aG (m+11) 115 []=some (.bool true,[]))(p:SProg)(b:SBudget)(w:aq)(hu:F6 w)(e:SEvent):aj aG (m+12) 198 [aA p,bq b,aE w,bD e]=some (.bool true,[]):=by
 refine Dw aw p b w hu e (λx h1 _ h3 hx=>?_) (λhc _ h3=>?_)
 ·obtain⟨k1,k2,_⟩:=uC hu h1;obtain⟨_,w2,_,_⟩:=oX h3;have F:=Eg k1 (by omega) e k2;rw[hx];exact⟨F.as,F.ml,F.regs⟩
 ·obtain⟨_,w2,_,_⟩:=oX h3;obtain⟨a,b⟩:=B6 (RI hc) (by omega) e;exact⟨by omega,λn hn=>by have:=b n hn;omega⟩
theorem G8(m:Nat):aj aG (m+16) 115 []=some (.bool true,[]):=by kernel_rfl
end Gv
