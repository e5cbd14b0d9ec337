/- Maps of the call -/
import Derived.Test.YtichfhpgdhdiaaaGreatJ13
import Derived.Test.YtichfhpgdhdiaaaGreatJ21
import Derived.Test.YtichfhpgdhdiaaaGreatJ3
set_option maxRecDepth 100000
set_option maxHeartbeats 8000000
set_option linter.unusedVariables false
set_option linter.unusedSimpArgs false
open Go.Proofs.Tryz
namespace Go.Proofs.YtichfhpgdhdiaaaGreat
open Go.RowKit
open Go.Maps (Keyed)
theorem Xt:(match Tryz.prog.underlying 39 with|some (.array _ _)|some (.struct _)=>true|_=>false)=true:=by rw[underlying39]
theorem ZO:(39 : TypeId) < Tryz.prog.types.size:=of_decide_eq_true gB
theorem QN:laidOutB prog=true:=by kernel_rfl
theorem lX:Keyed prog 39:=Keyed.of_law (deep_law_laid QN (m:=2) fZ ZO gB Xt)
theorem I6:Keyed prog 3:=Go.Maps.int_keyed underlying3
theorem kN(x y:Dg)(h:lS x=lS y):x=y:=by
 unfold lS at h;injection h with h;have h0:=congrArg (fun a=>a[0]?) h;have h1:=congrArg (fun a=>a[1]?) h;simp only[List.getElem?_toArray,List.getElem?_cons_zero,List.getElem?_cons_succ,Option.some.injEq,Value.int.injEq,true_and]at h0 h1;exact dP (eD.1 fZ ) (eD.1 fZ )
theorem ZP:Go.WideMaps.ArrKey prog 39 37 2:=⟨underlying39,by kernel_rfl,by kernel_rfl,by kernel_rfl⟩
theorem NY:∃m,Tryz.prog.types.size=m+1:=by
 have h:(0:TypeId) < Tryz.prog.types.size:=of_decide_eq_true gB ;exact Nat.exists_eq_succ_of_ne_zero (Nat.pos_iff_ne_zero.1 h)
theorem Ue(x:UInt64):(Lit.int .u64 (x.toNat:Int)).wf=true:=by
 have:=x.toNat_lt;have h0:IntKind.u64.min=0:=rfl;have h1:IntKind.u64.max=18446744073709551615:=rfl;simp[Lit.wf,h0,h1];omega
theorem nk(x:Dg):∃l,keyOf prog 39 (lS x)=some l :=
 ⟨_,Go.WideMaps.keyOf_pair ZP underlying37 NY (Ue x.1) (Ue x.2)⟩
def iV(i:Nat):Value:=.int .i64 (i:Int)
theorem NZ(x y:Nat)(h:iV x=iV y):x=y:=by
 unfold iV at h;injection h with _ h;omega
theorem acA(i:Nat)(hi:i≤9223372036854775807):∃l,keyOf prog 3 (iV i)=some l:=by
 have h0:IntKind.i64.min=-9223372036854775808:=rfl;have h1:IntKind.i64.max=9223372036854775807:=rfl;exact⟨_,Go.Maps.keyOf_int_mk underlying3 (by simp[Lit.wf,h0,h1];omega)⟩
theorem rG(w:World):(zeroValue 9).run prog w=.ok (.string ByteArray.empty) w:=by kernel_rfl
theorem sW(w:World):(zeroValue 4).run prog w=.ok (.bool false) w:=by kernel_rfl
theorem EC(w:World):(zeroValue 3).run prog w=.ok (.int .i64 0) w:=by kernel_rfl
theorem ED(w:World):(zeroValue 91).run prog w=.ok (.agg #[.string ByteArray.empty,.int .i64 0]) w:=by kernel_rfl
abbrev ol(w:World)(b n:Nat)(f:Dg→Option Value):Prop:=oM prog 39 lS w b n f
abbrev xA(w:World)(b n:Nat)(f:Nat→Option Value):Prop:=oM prog 3 iV w b n f
end Go.Proofs.YtichfhpgdhdiaaaGreat
