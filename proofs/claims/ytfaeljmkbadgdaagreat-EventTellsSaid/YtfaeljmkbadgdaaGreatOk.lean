/- A part of the proof that the law is true of all its inputs, by an interpreter that is proved sound. -/
import Derived.Test.YtfaeljmkbadgdaaGreatOa
import Derived.Test.YtfaeljmkbadgdaaGreatVw
import Derived.KernelRfl
import Derived.Test.YtfaeljmkbadgdaaGreatRep
import Derived.Test.YtfaeljmkbadgdaaGreatVn
namespace Gv
open Go
theorem ML:az cw dy 105 rY:=Ke (by kernel_rfl)
theorem lcz0:MC cw 174 0:=by unfold MC;kernel_rfl
theorem lcz1:MC cw 174 1:=by unfold MC;kernel_rfl
theorem lcz2:MC cw 174 2:=by unfold MC;kernel_rfl
theorem lcz3:MC cw 174 3:=by unfold MC;kernel_rfl
theorem lcz4:MC cw 174 4:=by unfold MC;kernel_rfl
theorem lcz5:MC cw 174 5:=by unfold MC;kernel_rfl
theorem lcz6:MC cw 174 6:=by unfold MC;kernel_rfl
theorem lcz7:MC cw 174 7:=by unfold MC;kernel_rfl
theorem LL:az cw dy 174 zj:=G4 (B8 λj hj=>match j,hj with|0,_=>lcz0|1,_=>lcz1|2,_=>lcz2|3,_=>lcz3|4,_=>lcz4|5,_=>lcz5|6,_=>lcz6|7,_=>lcz7)
theorem Ov:az cw dy 30 kg:=.inl ⟨_,rfl,by kernel_rfl⟩
theorem Od:az cw dy 37 jq:=.inl ⟨_,rfl,by kernel_rfl⟩
theorem N3:az cw dy 39 l9:=.inl ⟨_,rfl,by kernel_rfl⟩
theorem Ok:az cw dy 41 w7:=.inl ⟨_,rfl,by kernel_rfl⟩
theorem N9:az cw dy 46 jp:=.inl ⟨_,rfl,by kernel_rfl⟩
theorem NS:az cw dy 74 qP:=.inl ⟨_,rfl,by kernel_rfl⟩
theorem On:az cw dy 77 vh:=.inl ⟨_,rfl,by kernel_rfl⟩
theorem Oo:az cw dy 81 jf:=.inl ⟨_,rfl,by kernel_rfl⟩
theorem NR:az cw dy 99 oa:=.inl ⟨_,rfl,by kernel_rfl⟩
theorem M3:az cw dy 103 eP:=.inl ⟨_,rfl,by kernel_rfl⟩
theorem KQ:az cw dy 117 p6:=.inl ⟨_,rfl,by kernel_rfl⟩
theorem Nj:az cw dy 121 gC:=.inl ⟨_,rfl,by kernel_rfl⟩
theorem Nk:az cw dy 124 lX:=.inl ⟨_,rfl,by kernel_rfl⟩
theorem Lh:az cw dy 128 kn:=.inl ⟨_,rfl,by kernel_rfl⟩
theorem K2:az cw dy 131 kh:=.inl ⟨_,rfl,by kernel_rfl⟩
theorem Lw:az cw dy 133 lT:=.inl ⟨_,rfl,by kernel_rfl⟩
theorem MZ:az cw dy 135 jo:=.inl ⟨_,rfl,by kernel_rfl⟩
theorem Mt:az cw dy 137 jZ:=.inl ⟨_,rfl,by kernel_rfl⟩
theorem L3:az cw dy 140 jH:=.inl ⟨_,rfl,by kernel_rfl⟩
theorem NE:az cw dy 144 ka:=.inl ⟨_,rfl,by kernel_rfl⟩
theorem Lr:az cw dy 146 jh:=.inl ⟨_,rfl,by kernel_rfl⟩
theorem LG:az cw dy 148 gz:=.inl ⟨_,rfl,by kernel_rfl⟩
theorem Np:az cw dy 151 gW:=.inl ⟨_,rfl,by kernel_rfl⟩
theorem La:az cw dy 153 kf:=.inl ⟨_,rfl,by kernel_rfl⟩
theorem Md:az cw dy 155 mo:=.inl ⟨_,rfl,by kernel_rfl⟩
theorem LY:az cw dy 158 u4:=.inl ⟨_,rfl,by kernel_rfl⟩
theorem K8:az cw dy 161 jr:=.inl ⟨_,rfl,by kernel_rfl⟩
theorem KI:az cw dy 163 iK:=.inl ⟨_,rfl,by kernel_rfl⟩
theorem LV:az cw dy 165 bj:=.inl ⟨_,rfl,by kernel_rfl⟩
theorem Lx:az cw dy 167 cQ:=.inl ⟨_,rfl,by kernel_rfl⟩
theorem KO:az cw dy 169 cS:=.inl ⟨_,rfl,by kernel_rfl⟩
theorem KU:az cw dy 171 cL:=.inl ⟨_,rfl,by kernel_rfl⟩
theorem Mx:az cw dy 173 l8:=.inl ⟨_,rfl,by kernel_rfl⟩
theorem Mj:az cw dy 178 uT:=.inl ⟨_,rfl,by kernel_rfl⟩
theorem MH:az cw dy 180 gS:=.inl ⟨_,rfl,by kernel_rfl⟩
theorem Lf:az cw dy 182 bg:=.inl ⟨_,rfl,by kernel_rfl⟩
theorem Lj:az cw dy 189 jl:=.inl ⟨_,rfl,by kernel_rfl⟩
theorem Mi:az cw dy 193 bI:=.inl ⟨_,rfl,by kernel_rfl⟩
theorem LJ:az cw dy 207 ji:=.inl ⟨_,rfl,by kernel_rfl⟩
theorem L9:az cw dy 213 kj:=.inl ⟨_,rfl,by kernel_rfl⟩
theorem M7:az cw dy 215 lQ:=.inl ⟨_,rfl,by kernel_rfl⟩
theorem Ls:az cw dy 226 eM:=.inl ⟨_,rfl,by kernel_rfl⟩
theorem Lt:az cw dy 233 hO:=.inl ⟨_,rfl,by kernel_rfl⟩
theorem NC:az cw dy 240 fG:=.inl ⟨_,rfl,by kernel_rfl⟩
theorem LD:az cw dy 250 fu:=.inl ⟨_,rfl,by kernel_rfl⟩
theorem Mw:az cw dy 259 bv:=.inl ⟨_,rfl,by kernel_rfl⟩
theorem LO:az cw dy 261 sQ:=.inl ⟨_,rfl,by kernel_rfl⟩
theorem M5:az cw dy 272 hU:=.inl ⟨_,rfl,by kernel_rfl⟩
theorem Kk:Di cw aI:=Im ⟨⟨rfl,Om⟩,⟨⟨rfl,Ov⟩,⟨⟨rfl,Oa⟩,⟨⟨rfl,Od⟩,⟨⟨rfl,OE⟩,⟨⟨rfl,N3⟩,⟨⟨rfl,OG⟩,⟨⟨rfl,Ok⟩,⟨⟨rfl,OF⟩,⟨⟨rfl,N9⟩,⟨⟨rfl,N8⟩,⟨⟨rfl,NS⟩,⟨⟨rfl,NV⟩,⟨⟨rfl,Ir⟩,⟨⟨rfl,On⟩,⟨⟨rfl,NU⟩,⟨⟨rfl,Oo⟩,⟨⟨rfl,NW⟩,⟨⟨rfl,NR⟩,⟨⟨rfl,LQ⟩,⟨⟨rfl,M3⟩,⟨⟨rfl,ML⟩,⟨⟨rfl,Lq⟩,⟨⟨rfl,KQ⟩,⟨⟨rfl,KM⟩,⟨⟨rfl,Nj⟩,⟨⟨rfl,K4⟩,⟨⟨rfl,Nk⟩,⟨⟨rfl,Mo⟩,⟨⟨rfl,Lh⟩,⟨⟨rfl,MO⟩,⟨⟨rfl,K2⟩,⟨⟨rfl,Mu⟩,⟨⟨rfl,Lw⟩,⟨⟨rfl,Mc⟩,⟨⟨rfl,MZ⟩,⟨⟨rfl,My⟩,⟨⟨rfl,Mt⟩,⟨⟨rfl,Nb⟩,⟨⟨rfl,L3⟩,⟨⟨rfl,KX⟩,⟨⟨rfl,NE⟩,⟨⟨rfl,LU⟩,⟨⟨rfl,Lr⟩,⟨⟨rfl,LF⟩,⟨⟨rfl,LG⟩,⟨⟨rfl,MY⟩,⟨⟨rfl,Np⟩,⟨⟨rfl,MF⟩,⟨⟨rfl,La⟩,⟨⟨rfl,LC⟩,⟨⟨rfl,Md⟩,⟨⟨rfl,KW⟩,⟨⟨rfl,MP⟩,⟨⟨rfl,LY⟩,⟨⟨rfl,Lz⟩,⟨⟨rfl,K8⟩,⟨⟨rfl,Mz⟩,⟨⟨rfl,KI⟩,⟨⟨rfl,KV⟩,⟨⟨rfl,LV⟩,⟨⟨rfl,LK⟩,⟨⟨rfl,Lx⟩,⟨⟨rfl,ND⟩,⟨⟨rfl,KO⟩,⟨⟨rfl,Lp⟩,⟨⟨rfl,KU⟩,⟨⟨rfl,MA⟩,⟨⟨rfl,Mx⟩,⟨⟨rfl,LL⟩,⟨⟨rfl,Lk⟩,⟨⟨rfl,Mj⟩,⟨⟨rfl,Nd⟩,⟨⟨rfl,MH⟩,⟨⟨rfl,Nr⟩,⟨⟨rfl,Lf⟩,⟨⟨rfl,LM⟩,⟨⟨rfl,Lj⟩,⟨⟨rfl,LN⟩,⟨⟨rfl,Mi⟩,⟨⟨rfl,KS⟩,⟨⟨rfl,LJ⟩,⟨⟨rfl,LP⟩,⟨⟨rfl,L9⟩,⟨⟨rfl,Ns⟩,⟨⟨rfl,M7⟩,⟨⟨rfl,Ly⟩,⟨⟨rfl,Ls⟩,⟨⟨rfl,Lg⟩,⟨⟨rfl,Lt⟩,⟨⟨rfl,L6⟩,⟨⟨rfl,NC⟩,⟨⟨rfl,MQ⟩,⟨⟨rfl,LD⟩,⟨⟨rfl,Nh⟩,⟨⟨rfl,Mw⟩,⟨⟨rfl,Ms⟩,⟨⟨rfl,LO⟩,⟨⟨rfl,Mn⟩,⟨⟨rfl,M5⟩,trivial⟩⟩⟩⟩⟩⟩⟩⟩⟩⟩⟩⟩⟩⟩⟩⟩⟩⟩⟩⟩⟩⟩⟩⟩⟩⟩⟩⟩⟩⟩⟩⟩⟩⟩⟩⟩⟩⟩⟩⟩⟩⟩⟩⟩⟩⟩⟩⟩⟩⟩⟩⟩⟩⟩⟩⟩⟩⟩⟩⟩⟩⟩⟩⟩⟩⟩⟩⟩⟩⟩⟩⟩⟩⟩⟩⟩⟩⟩⟩⟩⟩⟩⟩⟩⟩⟩⟩⟩⟩⟩⟩⟩⟩⟩⟩⟩⟩⟩⟩⟩
end Gv
