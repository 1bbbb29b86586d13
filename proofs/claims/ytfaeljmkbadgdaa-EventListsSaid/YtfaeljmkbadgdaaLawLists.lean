/- A part of the proof that the law is true of all its inputs, by an interpreter that is proved sound. -/
import Derived.Test.YtfaeljmkbadgdaaIns
import Derived.Test.YtfaeljmkbadgdaaLn
import Derived.Test.YtfaeljmkbadgdaaRows
import Derived.WalkKit
import Derived.ProofKit
import Derived.OpenShut
import Derived.ShutString
import Derived.ChangeOld
import Derived.Below
import Derived.SizedLaws
namespace Go.Proofs.Ytfaeljmkbadgdaa.eventLists
open Go.ChangeShapes Go.WideShapes Go.ChangeAt Go.RowKit
open Go.ChangeMaps (open_string shut_string)
theorem own:ownKnob Try.prog.godebug=none:=by kernel_rfl
theorem wD:laidOutB Try.prog=true:=by kernel_rfl
theorem Ik(x0 x1 x2:Gv.PV)(h0:Gv.VT true [.slice true [.int .i64,.slice true [.int .i64,.int .i64]],.slice true [.slice false [.int .i64],.int .i64,.int .i64,.bool],.slice true [.int .i64,.int .i64,.slice false [.int .i64]],.int .i64] x0)(h1:Gv.VT true [.int .i64,.int .i64,.int .i64,.int .i64] x1)(h2:Gv.VT false [.slice true [.int .i64,.int .i64,.int .i64,.int .i64,.int .i64]] x2):∃n,Gv.aV Gv.cV n 111 [x0,x1,x2] []=some (.bool true,[]):=Gv.sj h0 h1 h2
theorem Nj:Gv.Fo Try.prog 21 27=some (true,[.slice true [.int .i64,.slice true [.int .i64,.int .i64]],.slice true [.slice false [.int .i64],.int .i64,.int .i64,.bool],.slice true [.int .i64,.int .i64,.slice false [.int .i64]],.int .i64]):=by kernel_rfl
theorem Ng:Gv.Fo Try.prog 21 32=some (true,[.int .i64,.int .i64,.int .i64,.int .i64]):=by kernel_rfl
theorem KU:Gv.Fo Try.prog 21 61=some (false,[.slice true [.int .i64,.int .i64,.int .i64,.int .i64,.int .i64]]):=by kernel_rfl
set_option maxRecDepth 100000 in
theorem IB(os:Os)(started:os.Started)(H:Type)(enc:TypeId×Value->H):
    ReturnsInHanded {} Try.checked os 5 .any (Rows.eventListsSpec.pre6 enc Try.prog Try.f5 Rows.eventListsRow.domain false) (Rows.eventListsSpec.post enc Try.prog Try.f5 false true false false):=by
  refine returnsInHanded_of_change_sized (C:=Try.checked) own started (by kernel_rfl) Try.func5
    (ChangeSpec.witness6 (enc:=enc) (C:=Try.checked) false ⟨#[],#[.agg #[.slice none 0 0,.slice none 0 0,.slice none 0 0,.int .i64 0],.agg #[.int .i64 0,.int .i64 0,.int .i64 0,.int .i64 0],.slice none 0 0],[]⟩ 8 (by kernel_rfl) (by kernel_rfl) (by kernel_rfl) (by kernel_rfl)) ?_
  intro W base args ds gs before hval0 hW hcnd hsz0 _;have hval:∀(j:Nat) t v,Try.f5.params[j]?=some t->args[j]?=some v->Value.okWide Try.prog W .any base t v:=hval0;have hW':=hW;obtain⟨p,q,hA0,hV,rfl,hfz,hnd⟩:=hW;have hA:DataW.TrodAll enc Try.prog W 0 (λ_=>true) true Try.f5.params.toList args.toList ds p:=hA0;rw[Try.params5]at hA hval;obtain⟨v0,vs0,d0,ds0,p0,q0,hargs,rfl,rfl,h0,r0⟩:=trodAll_cons hA;obtain⟨v1,vs1,d1,ds1,p1,q1,rfl,rfl,rfl,h1,r1⟩:=trodAll_cons r0;obtain⟨v2,vs2,d2,ds2,p2,q2,rfl,rfl,rfl,h2,r2⟩:=trodAll_cons r1;obtain⟨rfl,rfl,rfl⟩:=trodAll_nil r2;obtain rfl:args= #[v0,v1,v2]:=by cases args;simp_all
  obtain⟨rfl,rfl⟩:=trodVars_none hV;have lt0:∀x∈p0,x.block<W.heap.size:=by obtain⟨m,hm⟩:=h0;exact DataW.trod_lt m _ _ _ hm
  have lt1:∀x∈p1,x.block<W.heap.size:=by obtain⟨m,hm⟩:=h1;exact DataW.trod_lt m _ _ _ hm
  have lt2:∀x∈p2,x.block<W.heap.size:=by obtain⟨m,hm⟩:=h2;exact DataW.trod_lt m _ _ _ hm
  obtain⟨x0,V0,F0⟩:=Gv.tQ (ah:=Gv.ah) (n:=20) h0 (hval 0 _ v0 rfl rfl) Nj;obtain⟨x1,V1,F1⟩:=Gv.tQ (ah:=Gv.ah) (n:=20) h1 (hval 1 _ v1 rfl rfl) Ng;obtain⟨x2,V2,F2⟩:=Gv.tQ (ah:=Gv.ah) (n:=20) h2 (hval 2 _ v2 rfl rfl) KU;clear hA0 hval0 hsz0;refine(Gv.CF (ah:=Gv.ah) (w:=W) Gv.MX (g:=5) rfl (Ik x0 x1 x2 V0 V1 V2) (.cons F0 (.cons F1 (.cons F2 .nil)))).mono λe W' ⟨he,bel⟩=>?_;subst he;exact⟨_,rfl,_,_,_,[],_,[],hW',trodAll_mk1 (shut_bool Try.underlying4 _),trodAll_cons_mk (Below.trod wD (by kernel_rfl) (of_decide_eq_true (by kernel_rfl)) h0 bel lt0) (trodAll_cons_mk (Below.trod wD (by kernel_rfl) (of_decide_eq_true (by kernel_rfl)) h1 bel lt1) (trodAll_cons_mk (Below.trod wD (by kernel_rfl) (of_decide_eq_true (by kernel_rfl)) h2 bel lt2) trodAll_mk0)),rfl,bel.frame _,λh=>by cases h⟩
theorem over:Rows.eventListsRow.holds Try.pinned (OpenSpec.ofChange Rows.eventListsSpec):=
  OpenClaim.holds_of_wide 5 Try.f5 rfl rfl rfl rfl rfl rfl rfl ⟨rfl,rfl,rfl,rfl,rfl⟩ rfl rfl rfl rfl rfl (by kernel_rfl) Try.func5 (by kernel_rfl)
    (of_decide_eq_true (by kernel_rfl)) (by unfold Func.isWrapper;first|(rw[if_pos (by decide+kernel)];kernel_rfl)|(rw[if_neg (by decide+kernel)];exact⟨rfl,rfl⟩))
    (λos started H enc _=>IB os started H enc)
theorem proved:Rows.EventListsSaid:=over
end Go.Proofs.Ytfaeljmkbadgdaa.eventLists
namespace Go.Proofs.Ytfaeljmkbadgdaa
theorem eventLists_holds : Rows.EventListsSaid := eventLists.proved
end Go.Proofs.Ytfaeljmkbadgdaa
