/- The closure of disk.Cut. -/
import Derived.Test.YtichfhpgdhdiaaaGreatJ7
import Derived.WalkLawsBesides
import Derived.Test.YtichfhpgdhdiaaaGreatJ3
set_option maxRecDepth 100000
set_option maxHeartbeats 8000000
set_option linter.unusedVariables false
set_option linter.unusedSimpArgs false
open Go.Proofs.Tryz
namespace Go.Proofs.YtichfhpgdhdiaaaGreat
open Go.RowKit
def Ti(W:World)(bn k':Nat)(s:ByteArray)(e:Ending)(w':World):Prop :=
 e=.returned (.string s)∧Below bn W w'∧Agree (fun g=>g=bn) W w'∧gV w' bn 3 #[.int .i64 k']
theorem Tf(W:World)(bn bp bd k:Nat)(I:Option Addr)(ci:Nat)(ps:List Int)(z:Int)(u1 u2 u3:Value)(old data:ByteArray)(hn:gV W bn 3 #[.int .i64 ((min k ps.length:Nat):Int)])(hp:gV W bp 60 #[.slice I ps.length ci])(hd:gV W bd 56 #[.int .i64 z,u1,u2,u3])(hps:Ints W (.slice I ps.length ci) ps)(hz0:1≤z)(hz1:z≤512)(h1:(data.size:Int)=z)(h2:(old.size:Int)=z)(hk:k≤1000000):
  Calls prog 51 #[.string old,.string data,.pointer (some ⟨bn,0,none⟩),.pointer (some ⟨bp,0,none⟩),.pointer (some ⟨bd,0,none⟩)] W (Ti W bn (min (k+1) ps.length) (qw (pick (ps.getD k 0) z) data old)):=by
 obtain⟨_,_,e0,hci,hmi⟩:=hps.form;cases e0;have q0:=hn.cl 0;have f0:=hn.frozen 0;have p0:=hp.cl 0;have d0:=hd.cl 0;by_cases hlt:k<ps.length
 ·obtain⟨b,off,rfl,a1,a2,a3⟩:=hps.get hlt;have hg:ps.getD k 0=ps[k]:=by rw[bW,au hlt];rfl
  have e1:min k ps.length=k:=by omega
  have e2:min (k+1) ps.length=k+1:=by omega
  rw[e1]at q0 hn;rw[e2,hg];clear e1 e2 hg;generalize ps[k]=pk at *;have b1:pk.tmod (z+1)<z+1:=Int.tmod_lt_of_pos pk (show 0<z+1 by omega);have b2 : -(z+1)<pk.tmod (z+1):=by
   have:=Int.tmod_lt_of_pos (-pk) (show 0<z+1 by omega);rw[Int.neg_tmod]at this;omega
  have hz:((z+1:Int)==0)=false:=by rw[beq_eq_false_iff_ne];omega
  have zs:IntKind.i64.wrap (z+1)=z+1:=jo fZ fZ ;have hq:=Iw pk z hz0;generalize hqe:pick pk z=q at *;have hqd:q≤data.size:=by omega
  have hqo:q≤old.size:=by omega
  have hcase:pk.tmod (z+1)=(q:Int)∨(pk.tmod (z+1)=-(q:Int)∧0<q):=by unfold pick at hqe;omega
  clear hqe b1 b2;rcases hcase with htm|⟨htm,hq1⟩
  all_goals
   go_enter func51,ntmps51;go_wp2;go_quiet (fail)
   rename Nat=>nq
   have hB:=((below_drewN' (ah bn W) nq).setCell (p:=⟨bn,0,none⟩) (ak _) (.int .i64 ((k:Int)+1)));have hA:=(Agree.drewN (M:=fun g=>g=bn) W nq).trans (Agree.set1 (W.drewN nq) bn 0 (.int .i64 ((k:Int)+1)));have hN:gV ((W.drewN nq).setCell ⟨bn,0,none⟩ (.int .i64 ((k:Int)+1))) bn 3 #[.int .i64 ((k+1:Nat):Int)]:=(hn.drewN nq).set 0 _;go_wp2;go_quiet (fail);go_wp2;go_ret;exact⟨rfl,below_drewN' hB _,hA.trans (Agree.drewN _ _),hN.drewN _⟩
 ·have hg:ps.getD k 0=0:=by rw[bW,fE fZ ];rfl
  have e1:min k ps.length=ps.length:=by omega
  have e2:min (k+1) ps.length=ps.length:=by omega
  rw[e1]at q0 hn;rw[e2,hg,Qr,Qs];clear e1 e2 hg;go_enter func51,ntmps51;go_wp2;go_quiet (fail);go_wp2;go_ret;exact⟨rfl,below_drewN' (ah _ _) _,Agree.drewN _ _,hn.drewN _⟩
end Go.Proofs.YtichfhpgdhdiaaaGreat
