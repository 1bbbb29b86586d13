/- A part of the proof that the law is true of all its inputs, by an interpreter that is proved sound. -/
import Derived.Test.YtfaeljmkbadgdaaVw
import Derived.KernelRfl
namespace Gv
open Go
theorem Mn:aF cV d9 32 mO:=.inl ⟨_,rfl,by kernel_rfl⟩
theorem Mv:aF cV d9 39 kM:=.inl ⟨_,rfl,by kernel_rfl⟩
theorem MI:aF cV d9 44 kP:=.inl ⟨_,rfl,by kernel_rfl⟩
theorem MU:aF cV d9 73 aT:=.inl ⟨_,rfl,by kernel_rfl⟩
theorem Mg:aF cV d9 75 ju:=.inl ⟨_,rfl,by kernel_rfl⟩
theorem Mh:aF cV d9 78 lg:=.inl ⟨_,rfl,by kernel_rfl⟩
theorem MS:aF cV d9 96 iO:=.inl ⟨_,rfl,by kernel_rfl⟩
theorem Lk:aF cV d9 102 jv:=.inl ⟨_,rfl,by kernel_rfl⟩
theorem Kd:aF cV d9 106 fT:=.inl ⟨_,rfl,by kernel_rfl⟩
theorem KJ:aF cV d9 117 iT:=.inl ⟨_,rfl,by kernel_rfl⟩
theorem Kl:aF cV d9 121 fP:=.inl ⟨_,rfl,by kernel_rfl⟩
theorem Lh:aF cV d9 123 iR:=.inl ⟨_,rfl,by kernel_rfl⟩
theorem Kk:aF cV d9 125 rQ:=.inl ⟨_,rfl,by kernel_rfl⟩
theorem JT:aF cV d9 129 jG:=.inl ⟨_,rfl,by kernel_rfl⟩
theorem J3:aF cV d9 132 iX:=.inl ⟨_,rfl,by kernel_rfl⟩
theorem K5:aF cV d9 134 bh:=.inl ⟨_,rfl,by kernel_rfl⟩
theorem JM:aF cV d9 136 kX:=.inl ⟨_,rfl,by kernel_rfl⟩
theorem Kc:aF cV d9 139 jF:=.inl ⟨_,rfl,by kernel_rfl⟩
theorem KX:aF cV d9 141 jK:=.inl ⟨_,rfl,by kernel_rfl⟩
theorem JU:aF cV d9 145 jD:=.inl ⟨_,rfl,by kernel_rfl⟩
theorem LQ:aF cV d9 147 bz:=.inl ⟨_,rfl,by kernel_rfl⟩
theorem Kj:aF cV d9 150 cN:=.inl ⟨_,rfl,by kernel_rfl⟩
theorem Lp:aF cV d9 152 dq:=.inl ⟨_,rfl,by kernel_rfl⟩
theorem JF:aF cV d9 154 dw:=.inl ⟨_,rfl,by kernel_rfl⟩
theorem Lx:aF cV d9 157 jL:=.inl ⟨_,rfl,by kernel_rfl⟩
theorem LH:aF cV d9 159 kO:=.inl ⟨_,rfl,by kernel_rfl⟩
theorem K6:aF cV d9 162 aO:=.inl ⟨_,rfl,by kernel_rfl⟩
theorem KY:aF cV d9 164 fO:=.inl ⟨_,rfl,by kernel_rfl⟩
theorem JQ:aF cV d9 166 de:=.inl ⟨_,rfl,by kernel_rfl⟩
theorem Ky:aF cV d9 168 bg:=.inl ⟨_,rfl,by kernel_rfl⟩
theorem LU:aF cV d9 170 aL:=.inl ⟨_,rfl,by kernel_rfl⟩
theorem K8:aF cV d9 172 dd:=.inl ⟨_,rfl,by kernel_rfl⟩
theorem Lv:aF cV d9 176 cD:=.inl ⟨_,rfl,by kernel_rfl⟩
theorem KF:aF cV d9 179 dn:=.inl ⟨_,rfl,by kernel_rfl⟩
theorem Kw:aF cV d9 181 gG:=.inl ⟨_,rfl,by kernel_rfl⟩
theorem K7:aF cV d9 183 bE:=.inl ⟨_,rfl,by kernel_rfl⟩
theorem LJ:aF cV d9 190 ly:=.inl ⟨_,rfl,by kernel_rfl⟩
end Gv
