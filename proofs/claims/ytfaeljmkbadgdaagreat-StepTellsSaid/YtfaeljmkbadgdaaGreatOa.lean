/- A part of the proof that the law is true of all its inputs, by an interpreter that is proved sound. -/
import Derived.Test.YtfaeljmkbadgdaaGreatVw
import Derived.KernelRfl
namespace Gv
open Go
theorem SP:aC cA dj 30 lD:=.inl ⟨_,rfl,by kernel_rfl⟩
theorem Sv:aC cA dj 33 ph:=.inl ⟨_,rfl,by kernel_rfl⟩
theorem Sq:aC cA dj 36 iz:=.inl ⟨_,rfl,by kernel_rfl⟩
theorem RX:aC cA dj 38 jX:=.inl ⟨_,rfl,by kernel_rfl⟩
theorem SB:aC cA dj 40 jQ:=.inl ⟨_,rfl,by kernel_rfl⟩
theorem Su:aC cA dj 42 rq:=.inl ⟨_,rfl,by kernel_rfl⟩
theorem SI:aC cA dj 46 jS:=.inl ⟨_,rfl,by kernel_rfl⟩
theorem Sd:aC cA dj 73 bh:=.inl ⟨_,rfl,by kernel_rfl⟩
theorem S5:aC cA dj 75 lu:=.inl ⟨_,rfl,by kernel_rfl⟩
theorem SM:aC cA dj 78 mR:=.inl ⟨_,rfl,by kernel_rfl⟩
theorem Sg:aC cA dj 81 j9:=.inl ⟨_,rfl,by kernel_rfl⟩
theorem Sa:aC cA dj 90 nk:=.inl ⟨_,rfl,by kernel_rfl⟩
theorem R5:aC cA dj 99 iu:=.inl ⟨_,rfl,by kernel_rfl⟩
theorem OA:aC cA dj 103 fP:=.inl ⟨_,rfl,by kernel_rfl⟩
theorem OO:aC cA dj 115 rW:=.inl ⟨_,rfl,by kernel_rfl⟩
theorem OC:aC cA dj 117 rV:=.inl ⟨_,rfl,by kernel_rfl⟩
theorem PG:aC cA dj 119 tU:=.inl ⟨_,rfl,by kernel_rfl⟩
theorem O5:aC cA dj 124 mY:=.inl ⟨_,rfl,by kernel_rfl⟩
theorem Ox:aC cA dj 127 lH:=.inl ⟨_,rfl,by kernel_rfl⟩
theorem Po:aC cA dj 129 lk:=.inl ⟨_,rfl,by kernel_rfl⟩
theorem QV:aC cA dj 131 ly:=.inl ⟨_,rfl,by kernel_rfl⟩
theorem PA:aC cA dj 136 mV:=.inl ⟨_,rfl,by kernel_rfl⟩
theorem Rs:aC cA dj 138 lR:=.inl ⟨_,rfl,by kernel_rfl⟩
theorem PY:aC cA dj 140 kC:=.inl ⟨_,rfl,by kernel_rfl⟩
theorem Pa:aC cA dj 142 lq:=.inl ⟨_,rfl,by kernel_rfl⟩
theorem QX:aC cA dj 144 kU:=.inl ⟨_,rfl,by kernel_rfl⟩
theorem O2:aC cA dj 149 wG:=.inl ⟨_,rfl,by kernel_rfl⟩
theorem PI:aC cA dj 151 jc:=.inl ⟨_,rfl,by kernel_rfl⟩
theorem QO:aC cA dj 153 kX:=.inl ⟨_,rfl,by kernel_rfl⟩
theorem Rn:aC cA dj 155 nh:=.inl ⟨_,rfl,by kernel_rfl⟩
theorem Rx:aC cA dj 158 xq:=.inl ⟨_,rfl,by kernel_rfl⟩
theorem OP:aC cA dj 160 fT:=.inl ⟨_,rfl,by kernel_rfl⟩
theorem PL:aC cA dj 162 aX:=.inl ⟨_,rfl,by kernel_rfl⟩
theorem QN:aC cA dj 164 iB:=.inl ⟨_,rfl,by kernel_rfl⟩
theorem Pu:aC cA dj 176 dn:=.inl ⟨_,rfl,by kernel_rfl⟩
theorem PH:aC cA dj 184 fQ:=.inl ⟨_,rfl,by kernel_rfl⟩
theorem PE:aC cA dj 187 fO:=.inl ⟨_,rfl,by kernel_rfl⟩
theorem PU:aC cA dj 189 jV:=.inl ⟨_,rfl,by kernel_rfl⟩
theorem OJ:aC cA dj 194 oQ:=.inl ⟨_,rfl,by kernel_rfl⟩
theorem OS:aC cA dj 196 lN:=.inl ⟨_,rfl,by kernel_rfl⟩
theorem Qc:aC cA dj 198 cB:=.inl ⟨_,rfl,by kernel_rfl⟩
theorem Qi:aC cA dj 208 kV:=.inl ⟨_,rfl,by kernel_rfl⟩
theorem Ri:aC cA dj 210 m9:=.inl ⟨_,rfl,by kernel_rfl⟩
theorem OD:aC cA dj 215 mT:=.inl ⟨_,rfl,by kernel_rfl⟩
theorem Qb:aC cA dj 226 fU:=.inl ⟨_,rfl,by kernel_rfl⟩
theorem Rc:aC cA dj 228 qL:=.inl ⟨_,rfl,by kernel_rfl⟩
theorem PD:aC cA dj 230 jp:=.inl ⟨_,rfl,by kernel_rfl⟩
theorem O1:aC cA dj 234 mZ:=.inl ⟨_,rfl,by kernel_rfl⟩
theorem OQ:aC cA dj 241 gJ:=.inl ⟨_,rfl,by kernel_rfl⟩
theorem Rl:aC cA dj 243 nw:=.inl ⟨_,rfl,by kernel_rfl⟩
theorem Rd:aC cA dj 251 iq:=.inl ⟨_,rfl,by kernel_rfl⟩
theorem Oq:aC cA dj 253 oR:=.inl ⟨_,rfl,by kernel_rfl⟩
theorem Qh:aC cA dj 259 bJ:=.inl ⟨_,rfl,by kernel_rfl⟩
theorem Qz:aC cA dj 261 vB:=.inl ⟨_,rfl,by kernel_rfl⟩
theorem PC:aC cA dj 272 jj:=.inl ⟨_,rfl,by kernel_rfl⟩
end Gv
