/- TopRewritten: for any pool, list of digests and act the law returns true. The arguments read afterwards as before. No condition. -/
import Derived.Test.YtichfhpgdhdiaaaGreatJ47
import Derived.Test.YtichfhpgdhdiaaaGreatRows
import Derived.Test.YtichfhpgdhdiaaaGreatKTw1
import Derived.Test.YtichfhpgdhdiaaaGreatJ3
import Derived.Test.YtichfhpgdhdiaaaGreatKSJw
import Derived.Test.YtichfhpgdhdiaaaGreatKSOp
import Derived.Test.YtichfhpgdhdiaaaGreatKSJoD
import Derived.Test.YtichfhpgdhdiaaaGreatKSTpO
set_option maxRecDepth 100000
set_option maxHeartbeats 8000000
set_option linter.unusedVariables false
set_option linter.unusedSimpArgs false
open Go.Proofs.Tryz
namespace Go.Proofs.YtichfhpgdhdiaaaGreat
open Go.ChangeShapes Go.WideShapes Go.ChangeAt Go.RowKit
open Go.ChangeMaps (open_string)
theorem topRewritten_lifted(os:Os)(started:os.Started)(H:Type)(enc:TypeId×Value→H):
  ReturnsInHanded {} Tryz.checked os 6 .any (Rows.topRewrittenSpec.pre6 enc prog Tryz.f6 Rows.topRewrittenRow.domain false) (Rows.topRewrittenSpec.post enc prog Tryz.f6 false true false false):=by
 refine returnsInHanded_of_change (C:=Tryz.checked) Z0 started gB func6
  (ChangeSpec.witness6 (enc:=enc) (C:=Tryz.checked) false ⟨#[],#[.slice none 0 0,.slice none 0 0,.agg #[.int .i64 0,.slice none 0 0,.int .i64 0,.slice none 0 0]],[]⟩ 8 gB gB gB gB ) ?_
 intro W base args ds gs before hval0 hW hcnd _;have hval:∀(j:Nat) t v,Tryz.f6.params[j]?=some t→args[j]?=some v→Value.okWide prog W .any base t v:=hval0;have hW':=hW;obtain⟨p,q,hA0,hV,rfl,hfz,hnd⟩:=hW;have hA:DataW.TrodAll enc prog W 0 (fun _=>true) true Tryz.f6.params.toList args.toList ds p:=hA0;rw[Tryz.params6]at hA hval;obtain⟨v0,vs0,d0,ds0,p0,q0,hargs,rfl,rfl,h0,r0⟩:=trodAll_cons hA;obtain⟨v1,vs1,d1,ds1,p1,q1,rfl,rfl,rfl,h1,r1⟩:=trodAll_cons r0;obtain⟨v2,vs2,d2,ds2,p2,q2,rfl,rfl,rfl,h2,r2⟩:=trodAll_cons r1
 obtain⟨rfl,rfl,rfl⟩:=trodAll_nil r2;obtain rfl:args=#[v0,v1,v2]:=by cases args;simp_all
 obtain⟨rfl,rfl⟩:=trodVars_none hV;have lt0:∀x∈p0,x.block<W.heap.size:=by obtain⟨m,hm⟩:=h0;exact DataW.trod_lt m _ _ _ hm
 have lt1:∀x∈p1,x.block<W.heap.size:=by obtain⟨m,hm⟩:=h1;exact DataW.trod_lt m _ _ _ hm
 have lt2:∀x∈p2,x.block<W.heap.size:=by obtain⟨m,hm⟩:=h2;exact DataW.trod_lt m _ _ _ hm
 obtain⟨x0,s0⟩:=LH (hval 0 _ v0 rfl rfl) h0;obtain⟨x1,s1⟩:=dgs_of_trod (hval 1 _ v1 rfl rfl) h1;obtain⟨x2,rA,rc,iA,ic,rfl,s2⟩:=act_of_trod (hval 2 _ v2 rfl rfl) h2;clear hA0 hval0;refine(law_rewritten W v0 v1 x0 x1 s0 s1 rA rc iA ic x2 s2).mono fun e W' ⟨he,jM⟩=>?_
 subst he;exact⟨_,rfl,_,_,_,[],_,[],hW',trodAll_mk1 (shut_bool underlying4 _),(trodAll_cons_mk (Below.trod EK gB (of_decide_eq_true gB ) h0 jM lt0) (trodAll_cons_mk (Below.trod EK gB (of_decide_eq_true gB ) h1 jM lt1) (trodAll_cons_mk (Below.trod EK gB (of_decide_eq_true gB ) h2 jM lt2) trodAll_mk0))),rfl,jM.frame _,fun h=>by cases h⟩
theorem topRewritten_holds:Rows.TopRewrittenSaid :=
 OpenClaim.holds_of_wide 6 Tryz.f6 rfl rfl rfl rfl rfl rfl rfl ⟨rfl,rfl,rfl,rfl,rfl⟩ rfl rfl rfl rfl rfl gB func6 gB
  (of_decide_eq_true gB ) (by unfold Func.isWrapper;first|(rw[if_pos (by decide +kernel)];kernel_rfl)|(rw[if_neg (by decide +kernel)];exact⟨rfl,rfl⟩))
  (fun os started H enc _=>topRewritten_lifted os started H enc)
#print axioms topRewritten_holds
end Go.Proofs.YtichfhpgdhdiaaaGreat
