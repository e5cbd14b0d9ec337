/- Top: the arguments of the statements opened: digests, lists of digests, lists of those, pools. -/
import Derived.Test.YtichfhpgdhdiaaaGreatJ28
import Derived.Test.YtichfhpgdhdiaaaGreatJ46
import Derived.Test.YtichfhpgdhdiaaaGreatJ3
import Derived.Test.YtichfhpgdhdiaaaGreatJ47
import Derived.Test.YtichfhpgdhdiaaaGreatKSJw
import Derived.Test.YtichfhpgdhdiaaaGreatKSOp
set_option maxRecDepth 100000
set_option maxHeartbeats 8000000
set_option linter.unusedVariables false
set_option linter.unusedSimpArgs false
open Go.Proofs.Tryz
namespace Go.Proofs.YtichfhpgdhdiaaaGreat
open Go.ChangeShapes Go.WideShapes Go.ChangeAt Go.RowKit Go.Deep
section
variable {H:Type}{enc:TypeId×Value→H}{W:World}{base:Nat}{spare:Nat→Bool}{held:Bool}
theorem dgs_of_trod{v:Value}{d:DataW H}{p:List MemPlace}(hv:Value.okWide prog W .any base 27 v)(h:DataW.Trod enc prog W 0 spare held 27 v d p):∃x,qi W v x:=by
 obtain⟨a0,Rw,cap0,rfl⟩:=okWide_slice underlying27 hv;obtain⟨fuel,hf⟩:=h;exact Jq (by simpa [Value.cells] using hf)
end
end Go.Proofs.YtichfhpgdhdiaaaGreat
