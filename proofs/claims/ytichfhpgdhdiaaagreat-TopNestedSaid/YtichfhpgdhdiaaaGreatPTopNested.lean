/- TopNested -/
import Derived.Test.YtichfhpgdhdiaaaGreatKTnO
import Derived.Test.YtichfhpgdhdiaaaGreatRows
import Derived.Test.YtichfhpgdhdiaaaGreatKTn1
import Derived.Test.YtichfhpgdhdiaaaGreatJ3
set_option maxRecDepth 100000
set_option maxHeartbeats 8000000
set_option linter.unusedVariables false
set_option linter.unusedSimpArgs false
open Go.Proofs.Tryz
namespace Go.Proofs.YtichfhpgdhdiaaaGreat
open Go.ChangeShapes Go.WideShapes Go.ChangeAt Go.RowKit
open Go.ChangeMaps (open_string)
theorem topNested_lifted(os:Os)(started:os.Started)(H:Type)(enc:TypeId×Value→H):
  ReturnsInHanded {} Tryz.checked os 4 .any (Rows.topNestedSpec.pre6 enc prog Tryz.f4 Rows.topNestedRow.domain false) (Rows.topNestedSpec.post enc prog Tryz.f4 false true false false):=by
 refine returnsInHanded_of_change (C:=Tryz.checked) Z0 started gB func4
  (ChangeSpec.witness6 (enc:=enc) (C:=Tryz.checked) false ⟨#[],#[.slice none 0 0,.agg #[.slice none 0 0,.slice none 0 0,.slice none 0 0]],[]⟩ 8 gB gB gB gB ) ?_
 intro W base args ds gs before hval0 hW hcnd _;have hval:∀(j:Nat) t v,Tryz.f4.params[j]?=some t→args[j]?=some v→Value.okWide prog W .any base t v:=hval0;have hW':=hW;obtain⟨p,q,hA0,hV,rfl,hfz,hnd⟩:=hW;have hA:DataW.TrodAll enc prog W 0 (fun _=>true) true Tryz.f4.params.toList args.toList ds p:=hA0;rw[Tryz.params4]at hA hval;obtain⟨v0,vs0,d0,ds0,p0,q0,hargs,rfl,rfl,h0,r0⟩:=trodAll_cons hA;obtain⟨v1,vs1,d1,ds1,p1,q1,rfl,rfl,rfl,h1,r1⟩:=trodAll_cons r0;obtain⟨rfl,rfl,rfl⟩:=trodAll_nil r1
 obtain rfl:args=#[v0,v1]:=by cases args;simp_all
 obtain⟨rfl,rfl⟩:=trodVars_none hV;have lt0:∀x∈p0,x.block<W.heap.size:=by obtain⟨m,hm⟩:=h0;exact DataW.trod_lt m _ _ _ hm
 have lt1:∀x∈p1,x.block<W.heap.size:=by obtain⟨m,hm⟩:=h1;exact DataW.trod_lt m _ _ _ hm
 obtain⟨x0,s0⟩:=LH (hval 0 _ v0 rfl rfl) h0;obtain⟨u0,u1,u2,y0,y1,y2,rfl,t0,t1,t2⟩:=dg3_of_trod (hval 1 _ v1 rfl rfl) h1;clear hA0 hval0;refine(aav W v0 u0 u1 u2 x0 y0 y1 y2 s0 t0 t1 t2).mono fun e W' ⟨he,jM⟩=>?_
 subst he;exact⟨_,rfl,_,_,_,[],_,[],hW',trodAll_mk1 (shut_bool underlying4 _),(trodAll_cons_mk (Below.trod EK gB (of_decide_eq_true gB ) h0 jM lt0) (trodAll_cons_mk (Below.trod EK gB (of_decide_eq_true gB ) h1 jM lt1) trodAll_mk0)),rfl,jM.frame _,fun h=>by cases h⟩
theorem topNested_holds:Rows.TopNestedSaid :=
 OpenClaim.holds_of_wide 4 Tryz.f4 rfl rfl rfl rfl rfl rfl rfl ⟨rfl,rfl,rfl,rfl,rfl⟩ rfl rfl rfl rfl rfl gB func4 gB
  (of_decide_eq_true gB ) (by unfold Func.isWrapper;first|(rw[if_pos (by decide +kernel)];kernel_rfl)|(rw[if_neg (by decide +kernel)];exact⟨rfl,rfl⟩))
  (fun os started H enc _=>topNested_lifted os started H enc)
#print axioms topNested_holds
end Go.Proofs.YtichfhpgdhdiaaaGreat
