/- A part of the proof that the law is true of all its inputs, by an interpreter that is proved sound. -/
import Derived.Test.YtfaeljmkbadgdaaGreatOa
import Derived.Test.YtfaeljmkbadgdaaGreatVw
import Derived.KernelRfl
import Derived.Test.YtfaeljmkbadgdaaGreatRep
import Derived.Test.YtfaeljmkbadgdaaGreatVn
namespace Gv
open Go
theorem OE:aC cA dj 105 r9:=NV (by kernel_rfl)
theorem QE:aC cA dj 186 yN:=J7 (by kernel_rfl) (by kernel_rfl) (by kernel_rfl)
theorem RP:aC cA dj 32 pc:=.inl ⟨_,rfl,by kernel_rfl⟩
theorem RT:aC cA dj 35 nA:=.inl ⟨_,rfl,by kernel_rfl⟩
theorem Sj:aC cA dj 37 jU:=.inl ⟨_,rfl,by kernel_rfl⟩
theorem RM:aC cA dj 39 ny:=.inl ⟨_,rfl,by kernel_rfl⟩
theorem R8:aC cA dj 41 qV:=.inl ⟨_,rfl,by kernel_rfl⟩
theorem SD:aC cA dj 44 np:=.inl ⟨_,rfl,by kernel_rfl⟩
theorem SH:aC cA dj 53 lK:=.inl ⟨_,rfl,by kernel_rfl⟩
theorem Sw:aC cA dj 74 lP:=.inl ⟨_,rfl,by kernel_rfl⟩
theorem SL:aC cA dj 77 oC:=.inl ⟨_,rfl,by kernel_rfl⟩
theorem R7:aC cA dj 80 iD:=.inl ⟨_,rfl,by kernel_rfl⟩
theorem SC:aC cA dj 89 gO:=.inl ⟨_,rfl,by kernel_rfl⟩
theorem RR:aC cA dj 96 jT:=.inl ⟨_,rfl,by kernel_rfl⟩
theorem Ou:aC cA dj 102 kW:=.inl ⟨_,rfl,by kernel_rfl⟩
theorem Q9:aC cA dj 106 iH:=.inl ⟨_,rfl,by kernel_rfl⟩
theorem Py:aC cA dj 116 uf:=.inl ⟨_,rfl,by kernel_rfl⟩
theorem Pv:aC cA dj 118 oi:=.inl ⟨_,rfl,by kernel_rfl⟩
theorem Qo:aC cA dj 122 pg:=.inl ⟨_,rfl,by kernel_rfl⟩
theorem Qj:aC cA dj 126 yj:=.inl ⟨_,rfl,by kernel_rfl⟩
theorem Rt:aC cA dj 128 lJ:=.inl ⟨_,rfl,by kernel_rfl⟩
theorem Q6:aC cA dj 130 lI:=.inl ⟨_,rfl,by kernel_rfl⟩
theorem Q0:aC cA dj 132 jO:=.inl ⟨_,rfl,by kernel_rfl⟩
theorem Qr:aC cA dj 137 lA:=.inl ⟨_,rfl,by kernel_rfl⟩
theorem OF:aC cA dj 139 kZ:=.inl ⟨_,rfl,by kernel_rfl⟩
theorem Pl:aC cA dj 141 lG:=.inl ⟨_,rfl,by kernel_rfl⟩
theorem OR:aC cA dj 143 pi:=.inl ⟨_,rfl,by kernel_rfl⟩
theorem O4:aC cA dj 145 lL:=.inl ⟨_,rfl,by kernel_rfl⟩
theorem P8:aC cA dj 150 dG:=.inl ⟨_,rfl,by kernel_rfl⟩
theorem Rh:aC cA dj 152 ee:=.inl ⟨_,rfl,by kernel_rfl⟩
theorem Rz:aC cA dj 154 eo:=.inl ⟨_,rfl,by kernel_rfl⟩
theorem QI:aC cA dj 157 lC:=.inl ⟨_,rfl,by kernel_rfl⟩
theorem P6:aC cA dj 159 mO:=.inl ⟨_,rfl,by kernel_rfl⟩
theorem Pq:aC cA dj 161 jY:=.inl ⟨_,rfl,by kernel_rfl⟩
theorem Qq:aC cA dj 163 jm:=.inl ⟨_,rfl,by kernel_rfl⟩
theorem Qa:aC cA dj 175 iE:=.inl ⟨_,rfl,by kernel_rfl⟩
theorem Rv:aC cA dj 178 xY:=.inl ⟨_,rfl,by kernel_rfl⟩
theorem Ph:aC cA dj 185 gx:=.inl ⟨_,rfl,by kernel_rfl⟩
theorem O8:aC cA dj 188 ec:=.inl ⟨_,rfl,by kernel_rfl⟩
theorem PF:aC cA dj 190 mN:=.inl ⟨_,rfl,by kernel_rfl⟩
theorem OY:aC cA dj 195 oS:=.inl ⟨_,rfl,by kernel_rfl⟩
theorem QR:aC cA dj 197 lz:=.inl ⟨_,rfl,by kernel_rfl⟩
theorem OT:aC cA dj 207 jP:=.inl ⟨_,rfl,by kernel_rfl⟩
theorem OH:aC cA dj 209 qW:=.inl ⟨_,rfl,by kernel_rfl⟩
theorem Q5:aC cA dj 211 qQ:=.inl ⟨_,rfl,by kernel_rfl⟩
theorem Pc:aC cA dj 216 gz:=.inl ⟨_,rfl,by kernel_rfl⟩
theorem Pg:aC cA dj 227 lx:=.inl ⟨_,rfl,by kernel_rfl⟩
theorem QQ:aC cA dj 229 gy:=.inl ⟨_,rfl,by kernel_rfl⟩
theorem Pi:aC cA dj 231 lE:=.inl ⟨_,rfl,by kernel_rfl⟩
theorem Ow:aC cA dj 240 gK:=.inl ⟨_,rfl,by kernel_rfl⟩
theorem Rj:aC cA dj 242 pf:=.inl ⟨_,rfl,by kernel_rfl⟩
theorem O0:aC cA dj 250 gS:=.inl ⟨_,rfl,by kernel_rfl⟩
theorem QA:aC cA dj 252 oN:=.inl ⟨_,rfl,by kernel_rfl⟩
theorem Rq:aC cA dj 254 oM:=.inl ⟨_,rfl,by kernel_rfl⟩
theorem Rw:aC cA dj 260 vj:=.inl ⟨_,rfl,by kernel_rfl⟩
theorem OU:aC cA dj 271 lO:=.inl ⟨_,rfl,by kernel_rfl⟩
theorem N4:FA cA aG:=J6 ⟨⟨rfl,SP⟩,⟨⟨rfl,RP⟩,⟨⟨rfl,Sv⟩,⟨⟨rfl,RT⟩,⟨⟨rfl,Sq⟩,⟨⟨rfl,Sj⟩,⟨⟨rfl,RX⟩,⟨⟨rfl,RM⟩,⟨⟨rfl,SB⟩,⟨⟨rfl,R8⟩,⟨⟨rfl,Su⟩,⟨⟨rfl,SD⟩,⟨⟨rfl,SI⟩,⟨⟨rfl,SH⟩,⟨⟨rfl,Sd⟩,⟨⟨rfl,Sw⟩,⟨⟨rfl,S5⟩,⟨⟨rfl,LI⟩,⟨⟨rfl,SL⟩,⟨⟨rfl,SM⟩,⟨⟨rfl,R7⟩,⟨⟨rfl,Sg⟩,⟨⟨rfl,SC⟩,⟨⟨rfl,Sa⟩,⟨⟨rfl,RR⟩,⟨⟨rfl,R5⟩,⟨⟨rfl,Ou⟩,⟨⟨rfl,OA⟩,⟨⟨rfl,OE⟩,⟨⟨rfl,Q9⟩,⟨⟨rfl,OO⟩,⟨⟨rfl,Py⟩,⟨⟨rfl,OC⟩,⟨⟨rfl,Pv⟩,⟨⟨rfl,PG⟩,⟨⟨rfl,Qo⟩,⟨⟨rfl,O5⟩,⟨⟨rfl,Qj⟩,⟨⟨rfl,Ox⟩,⟨⟨rfl,Rt⟩,⟨⟨rfl,Po⟩,⟨⟨rfl,Q6⟩,⟨⟨rfl,QV⟩,⟨⟨rfl,Q0⟩,⟨⟨rfl,PA⟩,⟨⟨rfl,Qr⟩,⟨⟨rfl,Rs⟩,⟨⟨rfl,OF⟩,⟨⟨rfl,PY⟩,⟨⟨rfl,Pl⟩,⟨⟨rfl,Pa⟩,⟨⟨rfl,OR⟩,⟨⟨rfl,QX⟩,⟨⟨rfl,O4⟩,⟨⟨rfl,O2⟩,⟨⟨rfl,P8⟩,⟨⟨rfl,PI⟩,⟨⟨rfl,Rh⟩,⟨⟨rfl,QO⟩,⟨⟨rfl,Rz⟩,⟨⟨rfl,Rn⟩,⟨⟨rfl,QF⟩,⟨⟨rfl,QI⟩,⟨⟨rfl,Rx⟩,⟨⟨rfl,P6⟩,⟨⟨rfl,OP⟩,⟨⟨rfl,Pq⟩,⟨⟨rfl,PL⟩,⟨⟨rfl,Qq⟩,⟨⟨rfl,QN⟩,⟨⟨rfl,Qa⟩,⟨⟨rfl,Pu⟩,⟨⟨rfl,Rv⟩,⟨⟨rfl,PH⟩,⟨⟨rfl,Ph⟩,⟨⟨rfl,QE⟩,⟨⟨rfl,PE⟩,⟨⟨rfl,O8⟩,⟨⟨rfl,PU⟩,⟨⟨rfl,PF⟩,⟨⟨rfl,OJ⟩,⟨⟨rfl,OY⟩,⟨⟨rfl,OS⟩,⟨⟨rfl,QR⟩,⟨⟨rfl,Qc⟩,⟨⟨rfl,OT⟩,⟨⟨rfl,Qi⟩,⟨⟨rfl,OH⟩,⟨⟨rfl,Ri⟩,⟨⟨rfl,Q5⟩,⟨⟨rfl,OD⟩,⟨⟨rfl,Pc⟩,⟨⟨rfl,Qb⟩,⟨⟨rfl,Pg⟩,⟨⟨rfl,Rc⟩,⟨⟨rfl,QQ⟩,⟨⟨rfl,PD⟩,⟨⟨rfl,Pi⟩,⟨⟨rfl,O1⟩,⟨⟨rfl,Ow⟩,⟨⟨rfl,OQ⟩,⟨⟨rfl,Rj⟩,⟨⟨rfl,Rl⟩,⟨⟨rfl,O0⟩,⟨⟨rfl,Rd⟩,⟨⟨rfl,QA⟩,⟨⟨rfl,Oq⟩,⟨⟨rfl,Rq⟩,⟨⟨rfl,Qh⟩,⟨⟨rfl,Rw⟩,⟨⟨rfl,Qz⟩,⟨⟨rfl,OU⟩,⟨⟨rfl,PC⟩,trivial⟩⟩⟩⟩⟩⟩⟩⟩⟩⟩⟩⟩⟩⟩⟩⟩⟩⟩⟩⟩⟩⟩⟩⟩⟩⟩⟩⟩⟩⟩⟩⟩⟩⟩⟩⟩⟩⟩⟩⟩⟩⟩⟩⟩⟩⟩⟩⟩⟩⟩⟩⟩⟩⟩⟩⟩⟩⟩⟩⟩⟩⟩⟩⟩⟩⟩⟩⟩⟩⟩⟩⟩⟩⟩⟩⟩⟩⟩⟩⟩⟩⟩⟩⟩⟩⟩⟩⟩⟩⟩⟩⟩⟩⟩⟩⟩⟩⟩⟩⟩⟩⟩⟩⟩⟩⟩⟩⟩⟩⟩⟩⟩⟩
end Gv
