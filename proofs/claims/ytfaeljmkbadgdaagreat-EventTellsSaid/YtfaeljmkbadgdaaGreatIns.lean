/- A part of the proof that the law is true of all its inputs, by an interpreter that is proved sound. -/
import Derived.Test.YtfaeljmkbadgdaaGreatVn
import Derived.Test.YtfaeljmkbadgdaaGreatProg
import Derived.WalkKit
import Derived.Lib.Walk
import Derived.Lib.SliceRun
import Derived.Lib.AppendZeros
import Derived.Lib.Overlaps
import Derived.Laws.Externs
import Derived.Shelf.RegionOpenPlain
import Derived.Test.YtfaeljmkbadgdaaGreatVw
import Derived.Test.YtfaeljmkbadgdaaGreatIr
import Derived.KernelRfl
namespace Go.Proofs
open Go.RowKit Go.Lib Gv
set_option maxHeartbeats 4000000 in
set_option maxRecDepth 100000 in
theorem ins_room:CB Tryz.prog 156 183 30:=by
  intro b off n c i vb voff m vc w w1 w2 hi hm hroom hc63 hov hcp1 hcp2;have hz1:¬((m:Int)=0):=by omega
  have hz2:¬((i:Int)=(n:Int)):=by omega
  have mixed:Tryz.prog.follows .mixedOrders=true:=by kernel_rfl
  have hw1:IntKind.i64.wrap ((i:Int)+(m:Int))=(i:Int)+(m:Int):=by rw[IntKind.wrap_i64];omega
  have hb1:(0:Int)<=(i:Int)+(m:Int):=by omega
  have hin:i<=n:=by omega
  have htn:((i:Int)+(m:Int)).toNat=i+m:=by omega
  have hb2:¬(c=i+m):=by omega
  have hb3:(i:Int)<=(n:Int)+(m:Int):=by omega
  have hb4:¬(c=i):=by omega
  go_enter Tryz.func156,Tryz.f156
  go_wp2_with (simp only[hov])
  go_region_law_o (refine o9 rfl _ _ 30 30 rfl _ _ (by simp[Act.eval,Act.put]) (by simp[Act.eval,Act.put]) (hcp1 _ _ _) ?_)
  go_wp2_with (at_builtin;refine wpList_copy_runI _ rfl _ _ 30 30 rfl _ _ rfl rfl (hcp2 _ _) ?_)
  go_ret
  exact⟨rfl,rfl⟩
set_option maxHeartbeats 4000000 in
set_option maxRecDepth 100000 in
theorem ins_grow:Co Tryz.prog 156 30 3:=by
  intro b off n c i vb voff m vc N G w w1 w2 w3 hi hm hnc hroom hn31 hG hG63 hap hcpA hcpB;have hz1:¬((m:Int)=0):=by omega
  have hz2:¬((i:Int)=(n:Int)):=by omega
  have mixed:Tryz.prog.follows .mixedOrders=true:=by kernel_rfl
  have hw1:IntKind.i64.wrap ((i:Int)+(m:Int))=(i:Int)+(m:Int):=by rw[IntKind.wrap_i64];omega
  have hb1:(0:Int)<=(i:Int)+(m:Int):=by omega
  have hin:i<=n:=by omega
  have htn:((i:Int)+(m:Int)).toNat=i+m:=by omega
  have hGi:¬(G=i):=by omega
  have hGim:¬(G=i+m):=by omega
  have hci:¬(c=i):=by omega
  have hb3:(i:Int)<=(n:Int):=by omega
  go_enter Tryz.func156,Tryz.f156
  go_wp2_with (first
    |(at_builtin;refine Lib.wpList_append_run _ rfl _ _ _ _ rfl _ _ rfl rfl _ _ (hap _) ?_)
    |(at_builtin;refine wpList_copy_runI _ rfl _ _ 30 30 rfl _ _ rfl rfl (hcpA _ _) ?_))
  go_region_law_o (refine o9 rfl _ _ 30 30 rfl (.slice (some ⟨N,(i+m)*6,none⟩) (n+m-(i+m)) (G-(i+m))) (.slice (some ⟨b,off+i*6,none⟩) (n-i) (c-i)) (by simp[Act.eval,Act.put]) (by simp[Act.eval,Act.put]) (hcpB _ _ _) ?_)
  go_wp2
  go_ret
  exact⟨rfl,rfl⟩
end Go.Proofs
namespace Gv
open Go
theorem IX:TabOk Go.Proofs.Tryz.prog ah (Ai OP):=TabOk.of_list (by kernel_rfl) (by kernel_rfl)
theorem OU(w:World)(a b:Addr)(la ca lb cb:Nat)(hne:a.block≠b.block)(hA:∃tA kA,w.shape? a.block=some (tA,kA)/\w.frozen? {block:=a.block,off:=kA}=false)(hB:∃tB kB,w.shape? b.block=some (tB,kB)/\kB≠0)(hf:w.frozen? a=false):
    (callFunc 183 #[.slice (some a) la ca,.slice (some b) lb cb]).run Go.Proofs.Tryz.prog w=.ok (.value (.bool false)) w:=by
  obtain⟨tA,kA,hsa,hfe⟩:=hA;obtain⟨tB,kB,hsb,hkB⟩:=hB;rw[Go.run_callFunc_extern Go.Proofs.Tryz.func183 (by kernel_rfl) (by kernel_rfl) (by kernel_rfl) (e:=Extern.SlicesOverlaps.overlaps #[30,30] #[4]) (by kernel_rfl),
    Go.Lib.run_overlaps_apart w 30 4 88 (by kernel_rfl) 6 (λw=>i6 (P:=Go.Proofs.Tryz.prog) (t:=88) (sz:=some 6) (by kernel_rfl)) a b la ca lb cb hne tA tB kA kB hsa hsb hkB hf hfe]
  rfl
def IQ(o:Option TypeInfo):Bool:=match o with
  |some i=>i.size==6&&(match i.zero with|some z=>z.cells.size==6|none=>false)&&i.bytes !=0&&decide (i.bytes<=32768)
  |none=>false
theorem FK{o:Option TypeInfo}(h:IQ o=true):∃i z,o=some i/\i.size=6/\i.zero=some z/\z.cells.size=6/\i.bytes≠0/\i.bytes<=32768:=by
  cases o with
  |none=>cases h
  | some i=>
    simp only[IQ,O6,PF,bne_iff_ne,ne_eq,PG]at h;obtain⟨⟨⟨h1,h2⟩,h3⟩,h4⟩:=h;cases hz:i.zero with
    |none=>rw[hz]at h2;cases h2
    |some z=>rw[hz]at h2;exact⟨i,z,rfl,h1,hz,by simpa using h2,h3,h4⟩
theorem HC:iX Go.Proofs.Tryz.prog ah (λk args G=>if k=76 then mz args G else none):=by
  obtain⟨i,z,h1,h2,h3,h4,h5,h6⟩:=FK (o:=Go.Proofs.Tryz.prog.info? 88) (by kernel_rfl);exact Dp (g:=156) (ov:=183) (T:=30) (I:=3) (e:=88) (kI:=.i64) (by kernel_rfl) (by kernel_rfl) (by kernel_rfl) h1 h2 h3 h4 h5 h6 Go.Proofs.ins_room Go.Proofs.ins_grow (λw a b la ca lb cb h1 h2 h3 h4=>OU w a b la ca lb cb h1 h2 h3 h4)
theorem Ao:nr Go.Proofs.Tryz.prog ah 76 Aq=true:=by kernel_rfl
theorem OB:TabOk Go.Proofs.Tryz.prog ah cw:=
  TabOk.set IX (g:=KF 76 Aq mz) rfl (JI rfl Ao IX.mixed HC) (p4 Ao)
end Gv
