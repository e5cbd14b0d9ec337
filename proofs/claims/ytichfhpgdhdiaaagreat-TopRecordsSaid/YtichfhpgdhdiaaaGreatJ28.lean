/- Arguments opened -/
import Derived.Test.YtichfhpgdhdiaaaGreatRows
import Derived.Test.YtichfhpgdhdiaaaGreatJ1
import Derived.ProofKit
import Derived.OpenShut
import Derived.ShutString
import Derived.ChangeOld
import Derived.Below
import Derived.SliceStrings
import Derived.Test.YtichfhpgdhdiaaaGreatJ7
import Derived.Deep.Slices
import Derived.Deep.Fields
import Derived.ChangeSame
import Derived.Lib.SmallJoins
import Derived.Test.YtichfhpgdhdiaaaGreatJ19
import Derived.Test.YtichfhpgdhdiaaaGreatJ3
set_option maxRecDepth 100000
set_option maxHeartbeats 8000000
set_option linter.unusedVariables false
set_option linter.unusedSimpArgs false
open Go.Proofs.Tryz
namespace Go.Proofs.YtichfhpgdhdiaaaGreat
open Go.ChangeShapes Go.WideShapes Go.ChangeAt Go.RowKit
open Go.ChangeMaps (open_string shut_string)
theorem Z0:ownKnob Tryz.prog.godebug=none:=by kernel_rfl
theorem EK:laidOutB prog=true:=by kernel_rfl
end Go.Proofs.YtichfhpgdhdiaaaGreat
namespace Go.Proofs.YtichfhpgdhdiaaaGreat
open Go.ChangeShapes Go.WideShapes Go.ChangeAt Go.RowKit Go.Deep
section
variable {H:Type}{enc:TypeId×Value→H}{W:World}{base:Nat}{spare:Nat→Bool}{held:Bool}
theorem qL{α : Type}{sz:Nat}{R:List Value→α→Prop}{w:World}{a:Addr}:∀(n:Nat),
  (∀i,i<n→∃us x,R us x∧us.length=sz∧∀j u,us[j]?=some u→w.cell? (a.add (i*sz+j))=some u) →
  ∃(xs:List α) (vs:List Value),xs.length=n∧jF sz R xs vs∧∀j u,vs[j]?=some u→w.cell? (a.add j)=some u
 |0,_=>⟨[],[],rfl,rfl,fun j u h=>by simp at h⟩
 |n+1,h=>by
  obtain⟨xs,vs,h1,h2,h3⟩:=qL n (fun i hi=>h i fZ );obtain⟨us,x,g1,g2,g3⟩:=h n fZ ;refine⟨xs++[x],vs++us,by simp[h1],h2.append (jF.one g1 g2),fun j u hu=>?_⟩;have hl:=h2.length;rw[h1]at hl;by_cases hj:j<vs.length
  ·rw[aY hj]at hu;exact h3 j u hu
  ·rw[bD fZ ]at hu;have:=g3 _ _ hu;rwa [show n*sz+(j-vs.length)=j by omega]at this
end
end Go.Proofs.YtichfhpgdhdiaaaGreat
namespace Go.Proofs.YtichfhpgdhdiaaaGreat
open Go.ChangeShapes Go.WideShapes Go.ChangeAt Go.RowKit Go.Deep
section
variable {H:Type}{enc:TypeId×Value→H}{W:World}{base:Nat}{spare:Nat→Bool}{held:Bool}
end
end Go.Proofs.YtichfhpgdhdiaaaGreat
