/- A part of the proof that the law is true of all its inputs, by an interpreter that is proved sound. -/
import Derived.Test.YtfaeljmkbadgdaaOa
import Derived.Test.YtfaeljmkbadgdaaVw
import Derived.KernelRfl
import Derived.Test.YtfaeljmkbadgdaaRep
import Derived.Test.YtfaeljmkbadgdaaVn
namespace Gv
open Go
theorem Kq:aF cV d9 105 pL:=Ja (by kernel_rfl)
theorem lcz0:KO cV 174 0:=by unfold KO;kernel_rfl
theorem lcz1:KO cV 174 1:=by unfold KO;kernel_rfl
theorem lcz2:KO cV 174 2:=by unfold KO;kernel_rfl
theorem lcz3:KO cV 174 3:=by unfold KO;kernel_rfl
theorem lcz4:KO cV 174 4:=by unfold KO;kernel_rfl
theorem lcz5:KO cV 174 5:=by unfold KO;kernel_rfl
theorem lcz6:KO cV 174 6:=by unfold KO;kernel_rfl
theorem lcz7:KO cV 174 7:=by unfold KO;kernel_rfl
theorem K0:aF cV d9 174 yo:=Gx (AU λj hj=>match j,hj with|0,_=>lcz0|1,_=>lcz1|2,_=>lcz2|3,_=>lcz3|4,_=>lcz4|5,_=>lcz5|6,_=>lcz6|7,_=>lcz7)
theorem Mw:aF cV d9 37 iM:=.inl ⟨_,rfl,by kernel_rfl⟩
theorem Mz:aF cV d9 41 oC:=.inl ⟨_,rfl,by kernel_rfl⟩
theorem MM:aF cV d9 46 iN:=.inl ⟨_,rfl,by kernel_rfl⟩
theorem MJ:aF cV d9 74 jI:=.inl ⟨_,rfl,by kernel_rfl⟩
theorem Md:aF cV d9 77 mI:=.inl ⟨_,rfl,by kernel_rfl⟩
theorem MB:aF cV d9 81 iU:=.inl ⟨_,rfl,by kernel_rfl⟩
theorem Mk:aF cV d9 99 fR:=.inl ⟨_,rfl,by kernel_rfl⟩
theorem JB:aF cV d9 103 ew:=.inl ⟨_,rfl,by kernel_rfl⟩
theorem LR:aF cV d9 111 bF:=.inl ⟨_,rfl,by kernel_rfl⟩
theorem Ke:aF cV d9 120 o6:=.inl ⟨_,rfl,by kernel_rfl⟩
theorem KI:aF cV d9 122 mV:=.inl ⟨_,rfl,by kernel_rfl⟩
theorem Ls:aF cV d9 124 lq:=.inl ⟨_,rfl,by kernel_rfl⟩
theorem Ld:aF cV d9 128 jx:=.inl ⟨_,rfl,by kernel_rfl⟩
theorem KD:aF cV d9 131 jJ:=.inl ⟨_,rfl,by kernel_rfl⟩
theorem LG:aF cV d9 133 kH:=.inl ⟨_,rfl,by kernel_rfl⟩
theorem Kz:aF cV d9 135 iY:=.inl ⟨_,rfl,by kernel_rfl⟩
theorem Lm:aF cV d9 137 jC:=.inl ⟨_,rfl,by kernel_rfl⟩
theorem KN:aF cV d9 140 i9:=.inl ⟨_,rfl,by kernel_rfl⟩
theorem LP:aF cV d9 144 jB:=.inl ⟨_,rfl,by kernel_rfl⟩
theorem KG:aF cV d9 146 iW:=.inl ⟨_,rfl,by kernel_rfl⟩
theorem LA:aF cV d9 148 fS:=.inl ⟨_,rfl,by kernel_rfl⟩
theorem J1:aF cV d9 151 gV:=.inl ⟨_,rfl,by kernel_rfl⟩
theorem KH:aF cV d9 153 jA:=.inl ⟨_,rfl,by kernel_rfl⟩
theorem KS:aF cV d9 155 kR:=.inl ⟨_,rfl,by kernel_rfl⟩
theorem JL:aF cV d9 158 ur:=.inl ⟨_,rfl,by kernel_rfl⟩
theorem Jx:aF cV d9 161 iQ:=.inl ⟨_,rfl,by kernel_rfl⟩
theorem Kp:aF cV d9 163 gH:=.inl ⟨_,rfl,by kernel_rfl⟩
theorem Kt:aF cV d9 165 a8:=.inl ⟨_,rfl,by kernel_rfl⟩
theorem Kb:aF cV d9 167 cC:=.inl ⟨_,rfl,by kernel_rfl⟩
theorem LX:aF cV d9 169 cH:=.inl ⟨_,rfl,by kernel_rfl⟩
theorem LO:aF cV d9 171 cz:=.inl ⟨_,rfl,by kernel_rfl⟩
theorem Lc:aF cV d9 173 lk:=.inl ⟨_,rfl,by kernel_rfl⟩
theorem Ly:aF cV d9 178 uH:=.inl ⟨_,rfl,by kernel_rfl⟩
theorem Ki:aF cV d9 180 gi:=.inl ⟨_,rfl,by kernel_rfl⟩
theorem JC:aF cV d9 182 aW:=.inl ⟨_,rfl,by kernel_rfl⟩
theorem LF:aF cV d9 189 iV:=.inl ⟨_,rfl,by kernel_rfl⟩
theorem Ko:aF cV d9 193 bD:=.inl ⟨_,rfl,by kernel_rfl⟩
theorem II:Ba cV aK:=FJ ⟨⟨rfl,Mn⟩,⟨⟨rfl,Mw⟩,⟨⟨rfl,Mv⟩,⟨⟨rfl,Mz⟩,⟨⟨rfl,MI⟩,⟨⟨rfl,MM⟩,⟨⟨rfl,MU⟩,⟨⟨rfl,MJ⟩,⟨⟨rfl,Mg⟩,⟨⟨rfl,Gw⟩,⟨⟨rfl,Md⟩,⟨⟨rfl,Mh⟩,⟨⟨rfl,MB⟩,⟨⟨rfl,MS⟩,⟨⟨rfl,Mk⟩,⟨⟨rfl,Lk⟩,⟨⟨rfl,JB⟩,⟨⟨rfl,Kq⟩,⟨⟨rfl,Kd⟩,⟨⟨rfl,LR⟩,⟨⟨rfl,KJ⟩,⟨⟨rfl,Ke⟩,⟨⟨rfl,Kl⟩,⟨⟨rfl,KI⟩,⟨⟨rfl,Lh⟩,⟨⟨rfl,Ls⟩,⟨⟨rfl,Kk⟩,⟨⟨rfl,Ld⟩,⟨⟨rfl,JT⟩,⟨⟨rfl,KD⟩,⟨⟨rfl,J3⟩,⟨⟨rfl,LG⟩,⟨⟨rfl,K5⟩,⟨⟨rfl,Kz⟩,⟨⟨rfl,JM⟩,⟨⟨rfl,Lm⟩,⟨⟨rfl,Kc⟩,⟨⟨rfl,KN⟩,⟨⟨rfl,KX⟩,⟨⟨rfl,LP⟩,⟨⟨rfl,JU⟩,⟨⟨rfl,KG⟩,⟨⟨rfl,LQ⟩,⟨⟨rfl,LA⟩,⟨⟨rfl,Kj⟩,⟨⟨rfl,J1⟩,⟨⟨rfl,Lp⟩,⟨⟨rfl,KH⟩,⟨⟨rfl,JF⟩,⟨⟨rfl,KS⟩,⟨⟨rfl,KW⟩,⟨⟨rfl,Lx⟩,⟨⟨rfl,JL⟩,⟨⟨rfl,LH⟩,⟨⟨rfl,Jx⟩,⟨⟨rfl,K6⟩,⟨⟨rfl,Kp⟩,⟨⟨rfl,KY⟩,⟨⟨rfl,Kt⟩,⟨⟨rfl,JQ⟩,⟨⟨rfl,Kb⟩,⟨⟨rfl,Ky⟩,⟨⟨rfl,LX⟩,⟨⟨rfl,LU⟩,⟨⟨rfl,LO⟩,⟨⟨rfl,K8⟩,⟨⟨rfl,Lc⟩,⟨⟨rfl,K0⟩,⟨⟨rfl,Lv⟩,⟨⟨rfl,Ly⟩,⟨⟨rfl,KF⟩,⟨⟨rfl,Ki⟩,⟨⟨rfl,Kw⟩,⟨⟨rfl,JC⟩,⟨⟨rfl,K7⟩,⟨⟨rfl,LF⟩,⟨⟨rfl,LJ⟩,⟨⟨rfl,Ko⟩,trivial⟩⟩⟩⟩⟩⟩⟩⟩⟩⟩⟩⟩⟩⟩⟩⟩⟩⟩⟩⟩⟩⟩⟩⟩⟩⟩⟩⟩⟩⟩⟩⟩⟩⟩⟩⟩⟩⟩⟩⟩⟩⟩⟩⟩⟩⟩⟩⟩⟩⟩⟩⟩⟩⟩⟩⟩⟩⟩⟩⟩⟩⟩⟩⟩⟩⟩⟩⟩⟩⟩⟩⟩⟩⟩⟩⟩⟩⟩
end Gv
