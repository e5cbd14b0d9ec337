/- Top -/
import Derived.Test.YtichfhpgdhdiaaaGreatJ47
import Derived.Test.YtichfhpgdhdiaaaGreatJ3
set_option maxRecDepth 100000
set_option maxHeartbeats 8000000
set_option linter.unusedVariables false
set_option linter.unusedSimpArgs false
open Go.Proofs.Tryz
namespace Go.Proofs.YtichfhpgdhdiaaaGreat
open Go.ChangeShapes Go.WideShapes Go.ChangeAt Go.RowKit Go.Deep
theorem dg3_of_trod{H:Type}{enc:TypeId×Value→H}{W:World}{base:Nat}{spare:Nat→Bool}{held:Bool}{v:Value}{d:DataW H}{p:List MemPlace}(hv:Value.okWide prog W .any base 36 v)(h:DataW.Trod enc prog W 0 spare held 36 v d p):
  ∃v0 v1 v2 l0 l1 l2,v=.agg #[v0,v1,v2]∧qi W v0 l0∧qi W v1 l1∧qi W v2 l2:=by
 have hv':∃cs:Array Value,v=.agg cs∧cs.size=Tryz.prog.cellsOf 36:=by
  simp only[Value.okWide,underlying36]at hv;obtain⟨cs,h1,h2,_⟩:=hv;exact⟨cs,h1,h2⟩
 obtain⟨⟨cs⟩,rfl,hsz⟩:=hv';have hC : Tryz.prog.cellsOf 36=3:=by kernel_rfl
 have k1 : Tryz.prog.cellsOf 27=1:=by kernel_rfl
 match cs,hsz.trans hC with
 |[c0,c1,c2],_ =>
  obtain⟨fuel,hf⟩:=h;obtain⟨xs,m,_,_,hl,hlen,hg⟩:=DataW.trod_array underlying36 hf;have l0:0<xs.length:=by omega
  have l1:1<xs.length:=by omega
  have l2:2<xs.length:=by omega
  have e0:DataW.trod enc prog W 0 spare held m 27 [c0]=some xs[0]:=by simpa [Value.cells,k1] using (hg 0 fZ ).trans (au l0)
  have e1:DataW.trod enc prog W 0 spare held m 27 [c1]=some xs[1]:=by simpa [Value.cells,k1] using (hg 1 fZ ).trans (au l1)
  have e2:DataW.trod enc prog W 0 spare held m 27 [c2]=some xs[2]:=by simpa [Value.cells,k1] using (hg 2 fZ ).trans (au l2)
  obtain⟨x0,s0⟩:=Jq e0;obtain⟨x1,s1⟩:=Jq e1;obtain⟨x2,s2⟩:=Jq e2;exact⟨c0,c1,c2,x0,x1,x2,rfl,s0,s1,s2⟩
end Go.Proofs.YtichfhpgdhdiaaaGreat
