/- A part of the proof that the law is true of all its inputs, by an interpreter that is proved sound. -/
import Derived.Test.YtfaeljmkbadgdaaGreatVw
import Derived.KernelRfl
namespace Gv
open Go
theorem Om:az cw dy 28 iN:=.inl ⟨_,rfl,by kernel_rfl⟩
theorem Oa:az cw dy 32 uB:=.inl ⟨_,rfl,by kernel_rfl⟩
theorem OE:az cw dy 38 jk:=.inl ⟨_,rfl,by kernel_rfl⟩
theorem OG:az cw dy 40 jn:=.inl ⟨_,rfl,by kernel_rfl⟩
theorem OF:az cw dy 44 sU:=.inl ⟨_,rfl,by kernel_rfl⟩
theorem N8:az cw dy 73 aZ:=.inl ⟨_,rfl,by kernel_rfl⟩
theorem NV:az cw dy 75 ky:=.inl ⟨_,rfl,by kernel_rfl⟩
theorem NU:az cw dy 78 lO:=.inl ⟨_,rfl,by kernel_rfl⟩
theorem NW:az cw dy 96 jj:=.inl ⟨_,rfl,by kernel_rfl⟩
theorem LQ:az cw dy 102 kk:=.inl ⟨_,rfl,by kernel_rfl⟩
theorem Lq:az cw dy 106 gD:=.inl ⟨_,rfl,by kernel_rfl⟩
theorem KM:az cw dy 120 p9:=.inl ⟨_,rfl,by kernel_rfl⟩
theorem K4:az cw dy 122 nj:=.inl ⟨_,rfl,by kernel_rfl⟩
theorem Mo:az cw dy 125 sX:=.inl ⟨_,rfl,by kernel_rfl⟩
theorem MO:az cw dy 129 rI:=.inl ⟨_,rfl,by kernel_rfl⟩
theorem Mu:az cw dy 132 jg:=.inl ⟨_,rfl,by kernel_rfl⟩
theorem Mc:az cw dy 134 bn:=.inl ⟨_,rfl,by kernel_rfl⟩
theorem My:az cw dy 136 mh:=.inl ⟨_,rfl,by kernel_rfl⟩
theorem Nb:az cw dy 139 km:=.inl ⟨_,rfl,by kernel_rfl⟩
theorem KX:az cw dy 141 rS:=.inl ⟨_,rfl,by kernel_rfl⟩
theorem LU:az cw dy 145 kw:=.inl ⟨_,rfl,by kernel_rfl⟩
theorem LF:az cw dy 147 bE:=.inl ⟨_,rfl,by kernel_rfl⟩
theorem MY:az cw dy 150 dd:=.inl ⟨_,rfl,by kernel_rfl⟩
theorem MF:az cw dy 152 dO:=.inl ⟨_,rfl,by kernel_rfl⟩
theorem LC:az cw dy 154 dU:=.inl ⟨_,rfl,by kernel_rfl⟩
theorem MP:az cw dy 157 kv:=.inl ⟨_,rfl,by kernel_rfl⟩
theorem Lz:az cw dy 159 lL:=.inl ⟨_,rfl,by kernel_rfl⟩
theorem Mz:az cw dy 162 aS:=.inl ⟨_,rfl,by kernel_rfl⟩
theorem KV:az cw dy 164 gE:=.inl ⟨_,rfl,by kernel_rfl⟩
theorem LK:az cw dy 166 dL:=.inl ⟨_,rfl,by kernel_rfl⟩
theorem ND:az cw dy 168 bo:=.inl ⟨_,rfl,by kernel_rfl⟩
theorem Lp:az cw dy 170 aN:=.inl ⟨_,rfl,by kernel_rfl⟩
theorem MA:az cw dy 172 dF:=.inl ⟨_,rfl,by kernel_rfl⟩
theorem Lk:az cw dy 176 cR:=.inl ⟨_,rfl,by kernel_rfl⟩
theorem Nd:az cw dy 179 dK:=.inl ⟨_,rfl,by kernel_rfl⟩
theorem Nr:az cw dy 181 ii:=.inl ⟨_,rfl,by kernel_rfl⟩
theorem LM:az cw dy 183 bJ:=.inl ⟨_,rfl,by kernel_rfl⟩
theorem LN:az cw dy 190 lP:=.inl ⟨_,rfl,by kernel_rfl⟩
theorem KS:az cw dy 200 bZ:=.inl ⟨_,rfl,by kernel_rfl⟩
theorem LP:az cw dy 209 pP:=.inl ⟨_,rfl,by kernel_rfl⟩
theorem Ns:az cw dy 214 iE:=.inl ⟨_,rfl,by kernel_rfl⟩
theorem Ly:az cw dy 216 fJ:=.inl ⟨_,rfl,by kernel_rfl⟩
theorem Lg:az cw dy 228 pg:=.inl ⟨_,rfl,by kernel_rfl⟩
theorem L6:az cw dy 234 mp:=.inl ⟨_,rfl,by kernel_rfl⟩
theorem MQ:az cw dy 241 fq:=.inl ⟨_,rfl,by kernel_rfl⟩
theorem Nh:az cw dy 251 gj:=.inl ⟨_,rfl,by kernel_rfl⟩
theorem Ms:az cw dy 260 tx:=.inl ⟨_,rfl,by kernel_rfl⟩
theorem Mn:az cw dy 271 kc:=.inl ⟨_,rfl,by kernel_rfl⟩
end Gv
