/- TopRecords: for any pool, lists of digests and acts the law returns true. The arguments read afterwards as before. No condition. -/
import Derived.Test.YtichfhpgdhdiaaaGreatJ47
import Derived.Test.YtichfhpgdhdiaaaGreatRows
import Derived.Test.YtichfhpgdhdiaaaGreatKTr1
import Derived.Test.YtichfhpgdhdiaaaGreatJ3
import Derived.Test.YtichfhpgdhdiaaaGreatKRJw
import Derived.Test.YtichfhpgdhdiaaaGreatKROp
import Derived.Test.YtichfhpgdhdiaaaGreatKTr0
set_option maxRecDepth 100000
set_option maxHeartbeats 8000000
set_option linter.unusedVariables false
set_option linter.unusedSimpArgs false
open Go.Proofs.Tryz
namespace Go.Proofs.YtichfhpgdhdiaaaGreat
open Go.ChangeShapes Go.WideShapes Go.ChangeAt Go.RowKit
open Go.ChangeMaps (open_string)
theorem acts_of_trod{H:Type}{enc:TypeId×Value→H}{W:World}{base:Nat}{spare:Nat→Bool}{held:Bool}{v:Value}{d:DataW H}{p:List MemPlace}(hv:Value.okWide prog W .any base 49 v)(h:DataW.Trod enc prog W 0 spare held 49 v d p):∃x,NW W v x:=by
 obtain⟨a0,Rw,cap0,rfl⟩:=okWide_slice underlying49 hv;obtain⟨fuel,hf⟩:=h;exact acts_of_trod1 (by simpa [Value.cells] using hf)
theorem topRecords_lifted(os:Os)(started:os.Started)(H:Type)(enc:TypeId×Value→H):
  ReturnsInHanded {} Tryz.checked os 5 .any (Rows.topRecordsSpec.pre6 enc prog Tryz.f5 Rows.topRecordsRow.domain false) (Rows.topRecordsSpec.post enc prog Tryz.f5 false true false false):=by
 refine returnsInHanded_of_change (C:=Tryz.checked) Z0 started gB func5
  (ChangeSpec.witness6 (enc:=enc) (C:=Tryz.checked) false ⟨#[],#[.slice none 0 0,.slice none 0 0,.slice none 0 0],[]⟩ 8 gB gB gB gB ) ?_
 intro W base args ds gs before hval0 hW hcnd _;have hval:∀(j:Nat) t v,Tryz.f5.params[j]?=some t→args[j]?=some v→Value.okWide prog W .any base t v:=hval0;have hW':=hW;obtain⟨p,q,hA0,hV,rfl,hfz,hnd⟩:=hW;have hA:DataW.TrodAll enc prog W 0 (fun _=>true) true Tryz.f5.params.toList args.toList ds p:=hA0;rw[Tryz.params5]at hA hval;obtain⟨v0,vs0,d0,ds0,p0,q0,hargs,rfl,rfl,h0,r0⟩:=trodAll_cons hA;obtain⟨v1,vs1,d1,ds1,p1,q1,rfl,rfl,rfl,h1,r1⟩:=trodAll_cons r0;obtain⟨v2,vs2,d2,ds2,p2,q2,rfl,rfl,rfl,h2,r2⟩:=trodAll_cons r1
 obtain⟨rfl,rfl,rfl⟩:=trodAll_nil r2;obtain rfl:args=#[v0,v1,v2]:=by cases args;simp_all
 obtain⟨rfl,rfl⟩:=trodVars_none hV;have lt0:∀x∈p0,x.block<W.heap.size:=by obtain⟨m,hm⟩:=h0;exact DataW.trod_lt m _ _ _ hm
 have lt1:∀x∈p1,x.block<W.heap.size:=by obtain⟨m,hm⟩:=h1;exact DataW.trod_lt m _ _ _ hm
 have lt2:∀x∈p2,x.block<W.heap.size:=by obtain⟨m,hm⟩:=h2;exact DataW.trod_lt m _ _ _ hm
 obtain⟨x0,s0⟩:=LH (hval 0 _ v0 rfl rfl) h0;obtain⟨x1,s1⟩:=LJ (hval 1 _ v1 rfl rfl) h1;obtain⟨x2,s2⟩:=acts_of_trod (hval 2 _ v2 rfl rfl) h2;clear hA0 hval0;refine(law_records W v0 v1 v2 x0 x1 x2 s0 s1 s2).mono fun e W' ⟨he,jM⟩=>?_
 subst he;exact⟨_,rfl,_,_,_,[],_,[],hW',trodAll_mk1 (shut_bool underlying4 _),(trodAll_cons_mk (Below.trod EK gB (of_decide_eq_true gB ) h0 jM lt0) (trodAll_cons_mk (Below.trod EK gB (of_decide_eq_true gB ) h1 jM lt1) (trodAll_cons_mk (Below.trod EK gB (of_decide_eq_true gB ) h2 jM lt2) trodAll_mk0))),rfl,jM.frame _,fun h=>by cases h⟩
theorem topRecords_holds:Rows.TopRecordsSaid :=
 OpenClaim.holds_of_wide 5 Tryz.f5 rfl rfl rfl rfl rfl rfl rfl ⟨rfl,rfl,rfl,rfl,rfl⟩ rfl rfl rfl rfl rfl gB func5 gB
  (of_decide_eq_true gB ) (by unfold Func.isWrapper;first|(rw[if_pos (by decide +kernel)];kernel_rfl)|(rw[if_neg (by decide +kernel)];exact⟨rfl,rfl⟩))
  (fun os started H enc _=>topRecords_lifted os started H enc)
#print axioms topRecords_holds
end Go.Proofs.YtichfhpgdhdiaaaGreat
