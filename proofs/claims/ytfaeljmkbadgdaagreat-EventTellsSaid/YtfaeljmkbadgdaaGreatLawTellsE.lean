/- A part of the proof that the law is true of all its inputs, by an interpreter that is proved sound. -/
import Derived.Test.YtfaeljmkbadgdaaGreatIns
import Derived.Test.YtfaeljmkbadgdaaGreatLn
import Derived.Test.YtfaeljmkbadgdaaGreatRows
import Derived.WalkKit
import Derived.ProofKit
import Derived.OpenShut
import Derived.ShutString
import Derived.ChangeOld
import Derived.Below
import Derived.SizedLaws
namespace Go.Proofs.YtfaeljmkbadgdaaGreat.eventTells
open Go.ChangeShapes Go.WideShapes Go.ChangeAt Go.RowKit
open Go.ChangeMaps (open_string shut_string)
theorem own:ownKnob Tryz.prog.godebug=none:=by kernel_rfl
theorem uw:laidOutB Tryz.prog=true:=by kernel_rfl
theorem J2(x0 x1 x2 x3:Gv.PV)(h0:Gv.VT true [.slice true [.int .i64,.slice true [.int .i64,.int .i64]],.slice true [.slice false [.int .i64],.int .i64,.int .i64,.bool],.slice true [.int .i64,.int .i64,.slice false [.int .i64]],.int .i64] x0)(h1:Gv.VT true [.int .i64,.int .i64,.int .i64,.int .i64] x1)(h2:Gv.VT true [.slice true [.slice false [.int .i64],.bool,.int .i64,.int .i64,.int .i64],.slice true [.int .i64,.int .i64,.int .i64,.int .i64,.int .i64,.slice false [.int .i64]],.int .i64,.int .i64,.int .i64,.int .i64] x2)(h3:Gv.VT true [.int .i64,.int .i64,.int .i64,.int .i64,.int .i64] x3):∃n,Gv.bf Gv.cw n 200 [x0,x1,x2,x3] []=some (.bool true,[]):=Gv.tP h0 h1 h2 h3
theorem O4:Gv.Ey Tryz.prog 21 26=some (true,[.slice true [.int .i64,.slice true [.int .i64,.int .i64]],.slice true [.slice false [.int .i64],.int .i64,.int .i64,.bool],.slice true [.int .i64,.int .i64,.slice false [.int .i64]],.int .i64]):=by kernel_rfl
theorem OY:Gv.Ey Tryz.prog 21 28=some (true,[.int .i64,.int .i64,.int .i64,.int .i64]):=by kernel_rfl
theorem Lm:Gv.Ey Tryz.prog 21 32=some (true,[.slice true [.slice false [.int .i64],.bool,.int .i64,.int .i64,.int .i64],.slice true [.int .i64,.int .i64,.int .i64,.int .i64,.int .i64,.slice false [.int .i64]],.int .i64,.int .i64,.int .i64,.int .i64]):=by kernel_rfl
theorem O2:Gv.Ey Tryz.prog 21 36=some (true,[.int .i64,.int .i64,.int .i64,.int .i64,.int .i64]):=by kernel_rfl
set_option maxRecDepth 100000 in
theorem JY(os:Os)(started:os.Started)(H:Type)(enc:TypeId×Value->H):
    ReturnsInHanded {} Tryz.checked os 5 .any (Rows.eventTellsSpec.pre6 enc Tryz.prog Tryz.f5 Rows.eventTellsRow.domain false) (Rows.eventTellsSpec.post enc Tryz.prog Tryz.f5 false true false false):=by
  refine returnsInHanded_of_change_sized (C:=Tryz.checked) own started (by kernel_rfl) Tryz.func5
    (ChangeSpec.witness6 (enc:=enc) (C:=Tryz.checked) false ⟨#[],#[.agg #[.slice none 0 0,.slice none 0 0,.slice none 0 0,.int .i64 0],.agg #[.int .i64 0,.int .i64 0,.int .i64 0,.int .i64 0],.agg #[.slice none 0 0,.slice none 0 0,.int .i64 0,.int .i64 0,.int .i64 0,.int .i64 0],.agg #[.int .i64 0,.int .i64 0,.int .i64 0,.int .i64 0,.int .i64 0]],[]⟩ 8 (by kernel_rfl) (by kernel_rfl) (by kernel_rfl) (by kernel_rfl)) ?_
  intro W base args ds gs before hval0 hW hcnd hsz0 _;have hval:∀(j:Nat) t v,Tryz.f5.params[j]?=some t->args[j]?=some v->Value.okWide Tryz.prog W .any base t v:=hval0;have hW':=hW;obtain⟨p,q,hA0,hV,rfl,hfz,hnd⟩:=hW;have hA:DataW.TrodAll enc Tryz.prog W 0 (λ_=>true) true Tryz.f5.params.toList args.toList ds p:=hA0;rw[Tryz.params5]at hA hval;obtain⟨v0,vs0,d0,ds0,p0,q0,hargs,rfl,rfl,h0,r0⟩:=trodAll_cons hA;obtain⟨v1,vs1,d1,ds1,p1,q1,rfl,rfl,rfl,h1,r1⟩:=trodAll_cons r0;obtain⟨v2,vs2,d2,ds2,p2,q2,rfl,rfl,rfl,h2,r2⟩:=trodAll_cons r1;obtain⟨v3,vs3,d3,ds3,p3,q3,rfl,rfl,rfl,h3,r3⟩:=trodAll_cons r2;obtain⟨rfl,rfl,rfl⟩:=trodAll_nil r3;obtain rfl:args= #[v0,v1,v2,v3]:=by cases args;simp_all
  obtain⟨rfl,rfl⟩:=trodVars_none hV;have lt0:∀x∈p0,x.block<W.heap.size:=by obtain⟨m,hm⟩:=h0;exact DataW.trod_lt m _ _ _ hm
  have lt1:∀x∈p1,x.block<W.heap.size:=by obtain⟨m,hm⟩:=h1;exact DataW.trod_lt m _ _ _ hm
  have lt2:∀x∈p2,x.block<W.heap.size:=by obtain⟨m,hm⟩:=h2;exact DataW.trod_lt m _ _ _ hm
  have lt3:∀x∈p3,x.block<W.heap.size:=by obtain⟨m,hm⟩:=h3;exact DataW.trod_lt m _ _ _ hm
  obtain⟨x0,V0,F0⟩:=Gv.rb (ah:=Gv.ah) (n:=20) h0 (hval 0 _ v0 rfl rfl) O4;obtain⟨x1,V1,F1⟩:=Gv.rb (ah:=Gv.ah) (n:=20) h1 (hval 1 _ v1 rfl rfl) OY;obtain⟨x2,V2,F2⟩:=Gv.rb (ah:=Gv.ah) (n:=20) h2 (hval 2 _ v2 rfl rfl) Lm;obtain⟨x3,V3,F3⟩:=Gv.rb (ah:=Gv.ah) (n:=20) h3 (hval 3 _ v3 rfl rfl) O2;clear hA0 hval0 hsz0;refine(Gv.DK (ah:=Gv.ah) (w:=W) Gv.OB (g:=5) rfl (J2 x0 x1 x2 x3 V0 V1 V2 V3) (.cons F0 (.cons F1 (.cons F2 (.cons F3 .nil))))).mono λe W' ⟨he,bel⟩=>?_;subst he;exact⟨_,rfl,_,_,_,[],_,[],hW',trodAll_mk1 (shut_bool Tryz.underlying4 _),trodAll_cons_mk (Below.trod uw (by kernel_rfl) (of_decide_eq_true (by kernel_rfl)) h0 bel lt0) (trodAll_cons_mk (Below.trod uw (by kernel_rfl) (of_decide_eq_true (by kernel_rfl)) h1 bel lt1) (trodAll_cons_mk (Below.trod uw (by kernel_rfl) (of_decide_eq_true (by kernel_rfl)) h2 bel lt2) (trodAll_cons_mk (Below.trod uw (by kernel_rfl) (of_decide_eq_true (by kernel_rfl)) h3 bel lt3) trodAll_mk0))),rfl,bel.frame _,λh=>by cases h⟩
theorem over:Rows.eventTellsRow.holds Tryz.pinned (OpenSpec.ofChange Rows.eventTellsSpec):=
  OpenClaim.holds_of_wide 5 Tryz.f5 rfl rfl rfl rfl rfl rfl rfl ⟨rfl,rfl,rfl,rfl,rfl⟩ rfl rfl rfl rfl rfl (by kernel_rfl) Tryz.func5 (by kernel_rfl)
    (of_decide_eq_true (by kernel_rfl)) (by unfold Func.isWrapper;first|(rw[if_pos (by decide+kernel)];kernel_rfl)|(rw[if_neg (by decide+kernel)];exact⟨rfl,rfl⟩))
    (λos started H enc _=>JY os started H enc)
theorem proved:Rows.EventTellsSaid:=over
end Go.Proofs.YtfaeljmkbadgdaaGreat.eventTells
namespace Go.Proofs.YtfaeljmkbadgdaaGreat
theorem eventTells_holds : Rows.EventTellsSaid := eventTells.proved
end Go.Proofs.YtfaeljmkbadgdaaGreat
