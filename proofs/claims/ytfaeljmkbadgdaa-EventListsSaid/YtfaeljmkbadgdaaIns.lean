/- A part of the proof that the law is true of all its inputs, by an interpreter that is proved sound. -/
import Derived.Test.YtfaeljmkbadgdaaVn
import Derived.Test.YtfaeljmkbadgdaaProg
import Derived.WalkKit
import Derived.Lib.Walk
import Derived.Lib.SliceRun
import Derived.Lib.AppendZeros
import Derived.Lib.Overlaps
import Derived.Laws.Externs
import Derived.Shelf.RegionOpenPlain
import Derived.Test.YtfaeljmkbadgdaaVw
import Derived.Test.YtfaeljmkbadgdaaIr
import Derived.KernelRfl
namespace Go.Proofs
open Go.RowKit Go.Lib Gv
set_option maxHeartbeats 4000000 in
set_option maxRecDepth 100000 in
theorem ins_room:Bz Try.prog 89 105 30:=by
  intro b off n c i vb voff m vc w w1 w2 hi hm hroom hc63 hov hcp1 hcp2;have hz1:¬((m:Int)=0):=by omega
  have hz2:¬((i:Int)=(n:Int)):=by omega
  have mixed:Try.prog.follows .mixedOrders=true:=by kernel_rfl
  have hw1:IntKind.i64.wrap ((i:Int)+(m:Int))=(i:Int)+(m:Int):=by rw[IntKind.wrap_i64];omega
  have hb1:(0:Int)<=(i:Int)+(m:Int):=by omega
  have hin:i<=n:=by omega
  have htn:((i:Int)+(m:Int)).toNat=i+m:=by omega
  have hb2:¬(c=i+m):=by omega
  have hb3:(i:Int)<=(n:Int)+(m:Int):=by omega
  have hb4:¬(c=i):=by omega
  go_enter Try.func89,Try.f89
  go_wp2_with (simp only[hov])
  go_region_law_o (refine nP rfl _ _ 30 30 rfl _ _ (by simp[Act.eval,Act.put]) (by simp[Act.eval,Act.put]) (hcp1 _ _ _) ?_)
  go_wp2_with (at_builtin;refine wpList_copy_runI _ rfl _ _ 30 30 rfl _ _ rfl rfl (hcp2 _ _) ?_)
  go_ret
  exact⟨rfl,rfl⟩
set_option maxHeartbeats 4000000 in
set_option maxRecDepth 100000 in
theorem ins_grow:B1 Try.prog 89 30 3:=by
  intro b off n c i vb voff m vc N G w w1 w2 w3 hi hm hnc hroom hn31 hG hG63 hap hcpA hcpB;have hz1:¬((m:Int)=0):=by omega
  have hz2:¬((i:Int)=(n:Int)):=by omega
  have mixed:Try.prog.follows .mixedOrders=true:=by kernel_rfl
  have hw1:IntKind.i64.wrap ((i:Int)+(m:Int))=(i:Int)+(m:Int):=by rw[IntKind.wrap_i64];omega
  have hb1:(0:Int)<=(i:Int)+(m:Int):=by omega
  have hin:i<=n:=by omega
  have htn:((i:Int)+(m:Int)).toNat=i+m:=by omega
  have hGi:¬(G=i):=by omega
  have hGim:¬(G=i+m):=by omega
  have hci:¬(c=i):=by omega
  have hb3:(i:Int)<=(n:Int):=by omega
  go_enter Try.func89,Try.f89
  go_wp2_with (first
    |(at_builtin;refine Lib.wpList_append_run _ rfl _ _ _ _ rfl _ _ rfl rfl _ _ (hap _) ?_)
    |(at_builtin;refine wpList_copy_runI _ rfl _ _ 30 30 rfl _ _ rfl rfl (hcpA _ _) ?_))
  go_region_law_o (refine nP rfl _ _ 30 30 rfl (.slice (some ⟨N,(i+m)*6,none⟩) (n+m-(i+m)) (G-(i+m))) (.slice (some ⟨b,off+i*6,none⟩) (n-i) (c-i)) (by simp[Act.eval,Act.put]) (by simp[Act.eval,Act.put]) (hcpB _ _ _) ?_)
  go_wp2
  go_ret
  exact⟨rfl,rfl⟩
end Go.Proofs
namespace Gv
open Go
theorem Hw:TabOk Go.Proofs.Try.prog ah (xG M6):=TabOk.of_list (by kernel_rfl) (by kernel_rfl)
theorem Nn(w:World)(a b:Addr)(la ca lb cb:Nat)(hne:a.block≠b.block)(hA:∃tA kA,w.shape? a.block=some (tA,kA)/\w.frozen? {block:=a.block,off:=kA}=false)(hB:∃tB kB,w.shape? b.block=some (tB,kB)/\kB≠0)(hf:w.frozen? a=false):
    (callFunc 105 #[.slice (some a) la ca,.slice (some b) lb cb]).run Go.Proofs.Try.prog w=.ok (.value (.bool false)) w:=by
  obtain⟨tA,kA,hsa,hfe⟩:=hA;obtain⟨tB,kB,hsb,hkB⟩:=hB;rw[Go.run_callFunc_extern Go.Proofs.Try.func105 (by kernel_rfl) (by kernel_rfl) (by kernel_rfl) (e:=Extern.SlicesOverlaps.overlaps #[30,30] #[4]) (by kernel_rfl),
    Go.Lib.run_overlaps_apart w 30 4 45 (by kernel_rfl) 6 (λw=>iF (P:=Go.Proofs.Try.prog) (t:=45) (sz:=some 6) (by kernel_rfl)) a b la ca lb cb hne tA tB kA kB hsa hsb hkB hf hfe]
  rfl
def HE(o:Option TypeInfo):Bool:=match o with
  |some i=>i.size==6&&(match i.zero with|some z=>z.cells.size==6|none=>false)&&i.bytes !=0&&decide (i.bytes<=32768)
  |none=>false
theorem DZ{o:Option TypeInfo}(h:HE o=true):∃i z,o=some i/\i.size=6/\i.zero=some z/\z.cells.size=6/\i.bytes≠0/\i.bytes<=32768:=by
  cases o with
  |none=>cases h
  | some i=>
    simp only[HE,Np,NX,bne_iff_ne,ne_eq,NU]at h;obtain⟨⟨⟨h1,h2⟩,h3⟩,h4⟩:=h;cases hz:i.zero with
    |none=>rw[hz]at h2;cases h2
    |some z=>rw[hz]at h2;exact⟨i,z,rfl,h1,hz,by simpa using h2,h3,h4⟩
theorem Gg:iw Go.Proofs.Try.prog ah (λk args G=>if k=76 then lH args G else none):=by
  obtain⟨i,z,h1,h2,h3,h4,h5,h6⟩:=DZ (o:=Go.Proofs.Try.prog.info? 45) (by kernel_rfl);exact CW (g:=89) (ov:=105) (T:=30) (I:=3) (e:=45) (kI:=.i64) (by kernel_rfl) (by kernel_rfl) (by kernel_rfl) h1 h2 h3 h4 h5 h6 Go.Proofs.ins_room Go.Proofs.ins_grow (λw a b la ca lb cb h1 h2 h3 h4=>Nn w a b la ca lb cb h1 h2 h3 h4)
theorem yl:mp Go.Proofs.Try.prog ah 76 yD=true:=by kernel_rfl
theorem MX:TabOk Go.Proofs.Try.prog ah cV:=
  TabOk.set Hw (g:=Js 76 yD lH) rfl (Ig rfl yl Hw.mixed Gg) (oT yl)
end Gv
