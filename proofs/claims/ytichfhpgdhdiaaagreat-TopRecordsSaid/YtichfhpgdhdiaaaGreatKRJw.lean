/- Law of the journal: acts in memory; cordwoodref01.Great, Same, Size. Law of the journal: acts in memory; ref05zeros, do. Law of the journal: Fine, reached. Law of the journal: reached. cordwoodlaw06.awake: the example of the chapter. Law of the journal: appends under a guard; lists joined. -/
import Derived.Test.YtichfhpgdhdiaaaGreatJ19
import Derived.Test.YtichfhpgdhdiaaaGreatJ11
import Derived.Test.YtichfhpgdhdiaaaGreatJ7
import Derived.Test.YtichfhpgdhdiaaaGreatJ5
import Derived.Test.YtichfhpgdhdiaaaGreatJ18
import Derived.Test.YtichfhpgdhdiaaaGreatJ3
set_option maxRecDepth 100000
set_option maxHeartbeats 8000000
set_option linter.unusedVariables false
set_option linter.unusedSimpArgs false
open Go.Proofs.Tryz
namespace Go.Proofs.YtichfhpgdhdiaaaGreat
open Go.RowKit
theorem strB_bts(s:ByteArray):fu (kH s)=s:=tX s
theorem txs_of_strs{w:World}{v:Value}{xs:List ByteArray}(h:Strs w v xs):vY w v (xs.map kH):=by
 unfold vY;have:(xs.map kH).map fu=xs:=by
  rw[List.map_map]
  conv=>rhs;rw[←List.map_id xs]
  exact List.map_congr_left fun s _=>strB_bts s
 rw[this];exact h
def grtT(l:List iX):Bool:=decide (20<l.length)||l.any fun t=>decide (300<t.length)
theorem rgreat_any(W:World)(A:Option Addr)(c:Nat)(l:List iX)(h:vY W (.slice A l.length c) l):Calls prog 37 #[.slice A l.length c] W fun e w'=>e=.returned (.bool (grtT l))∧Below W.heap.size W w':=by
 by_cases hl:20<(l.length:Int)
 ·have HF:=af (show grtT l=true by unfold grtT;rw[decide_eq_true fZ ];rfl);go_enter func37,ntmps37;go_wp2;go_ret;exact⟨kS HF.out.symm,ah _ _⟩
 ·have HF:=af (show grtT l=(l.drop 0).any (fun t=>decide (300<t.length)) by unfold grtT;rw[decide_eq_false fZ ];rfl);go_enter func37,ntmps37;go_wp2;go_loopw [3] (fun t wr=>∃k:Nat,k≤l.length∧t=.int .i64 k∧Hid (grtT l=(l.drop k).any (fun t=>decide (300<t.length)))∧Below W.heap.size W wr) (fun t _=>l.length-(intOf t).toNat)
  case atStart=>exact⟨0,by omega,rfl,HF,ah _ _⟩
  case round =>
   clear HF;obtain⟨k,hk,rfl,HK,hb⟩:=hrel;by_cases hlt:k<l.length
   ·obtain⟨b,off,rfl,a1⟩:=(h.keep (dO hb)).agj hlt;have hd:l.drop k=l[k]::l.drop (k+1):=aR hlt;by_cases hs:300<((fu l[k]).size:Int)
    ·have HE:Hid (grtT l=true):=by
      show _=_;rw[HK.out,hd,List.any_cons,decide_eq_true (by rw[gL]at hs;omega)];rfl
     clear HK hd;generalize fu l[k]=x at *;go_wp2;go_ret;exact⟨kS HE.out.symm,hb⟩
    ·have HE:Hid (grtT l=(l.drop (k+1)).any (fun t=>decide (300<t.length))):=by
      show _=_;rw[HK.out,hd,List.any_cons,decide_eq_false (by rw[gL]at hs;omega)];rfl
     clear HK hd;generalize fu l[k]=x at *;go_wp2;go_roundw
     case rel=>exact⟨k+1,by omega,by go_num,HE,hb⟩
     case measure=>simp[intOf];omega
   ·have HE:Hid (grtT l=false):=by
     show _=_;rw[HK.out,dG fZ ];rfl
    clear HK;go_wp2;go_ret;exact⟨kS HE.out.symm,hb⟩
end Go.Proofs.YtichfhpgdhdiaaaGreat
namespace Go.Proofs.YtichfhpgdhdiaaaGreat
open Go.RowKit
end Go.Proofs.YtichfhpgdhdiaaaGreat
namespace Go.Proofs.YtichfhpgdhdiaaaGreat
open Go.RowKit
def fineA(a:uw):Bool:=!(grtT a.recs)&&decide (a.ps.length≤30)
def fineB(n z:Int)(l:List uw):Bool:=decide (3≤n∧n≤30∧1≤z∧z≤16∧l.length≤12)&&l.all fineA
theorem fine_size{n z:Int}{l:List uw}(h:¬(3≤n∧n≤30∧1≤z∧z≤16∧l.length≤12)):fineB n z l=false:=by
 unfold fineB;rw[decide_eq_false h];rfl
theorem fine_any(W:World)(n z:Int)(hz0 : -9223372036854775808≤z)(B:Option Addr)(lc:Nat)(l:List uw)(h:NW W (.slice B l.length lc) l):
  Calls prog 16 #[.agg #[.int .i64 n,.int .i64 z,.slice B l.length lc]] W fun e w'=>e=.returned (.bool (fineB n z l))∧Below W.heap.size W w':=by
 have K1:=(ah W.heap.size W).alloc (ak _) (.cells #[.int .i64 n,.int .i64 z,.slice B l.length lc] 52);have hb:=gV.new W #[.int .i64 n,.int .i64 z,.slice B l.length lc] 52;by_cases h0:3≤n∧n≤30∧1≤z∧z≤16∧l.length≤12
 ·obtain⟨h1,h2,h3,h4,h5⟩:=h0;have g1:¬n<3:=by omega
  have g2:¬30<n:=by omega
  have g3:¬z<1:=by omega
  have g4:¬16<z:=by omega
  have g5:¬12<(l.length:Int):=by omega
  have HF:Hid (fineB n z l=(l.drop 0).all fineA):=by
   show _=_;unfold fineB;rw[decide_eq_true ⟨h1,h2,h3,h4,h5⟩];rfl
  go_enter func16,ntmps16;go_upto_region 1 with (fail);generalize W.alloc (.cells #[.int .i64 n,.int .i64 z,.slice B l.length lc] 52)=w1 at *;obtain⟨p0,p1,p2,_,_,_⟩:=xh hb;go_wp2;go_loopw [32] (fun t wr=>∃k:Nat,k≤l.length∧t=.int .i64 k∧Hid (fineB n z l=(l.drop k).all fineA)∧Below W.heap.size W wr) (fun t _=>l.length-(intOf t).toNat)
  case atStart=>exact⟨0,by omega,rfl,HF,K1⟩
  case round =>
   clear HF p0 p1 p2;obtain⟨k,hk,rfl,HK,hbr⟩:=hrel;by_cases hlt:k<l.length
   ·obtain⟨b,off,rA,rc,iA,ic,rfl,a0,a1,a2,a3,hp⟩:=(h.keep (dO hbr)).get hlt;have hd:l.drop k=l[k]::l.drop (k+1):=aR hlt;have lG:=af (HK.out.trans (congrArg (fun x:List uw=>x.all fineA) hd));clear HK hd;generalize l[k]=x at *;have hb2:=hbr.alloc hbr.size (.cells #[.int .i64 x.kind,.slice rA x.recs.length rc,.int .i64 x.left,.slice iA x.ps.length ic] 62);have hx:=gV.new wr #[.int .i64 x.kind,.slice rA x.recs.length rc,.int .i64 x.left,.slice iA x.ps.length ic] 62;have hpx:=hp.keep (Keeps.alloc wr (.cells #[.int .i64 x.kind,.slice rA x.recs.length rc,.int .i64 x.left,.slice iA x.ps.length ic] 62))
    clear hp hbr;go_upto_region 6 with (fail);generalize wr.alloc (.cells #[.int .i64 x.kind,.slice rA x.recs.length rc,.int .i64 x.left,.slice iA x.ps.length ic] 62)=w2 at *;have x1:w2.cell? ⟨wr.heap.size,1,none⟩=some (.slice rA x.recs.length rc):=hx.cl 1;have CG:=af (rgreat_any w2 rA rc x.recs hpx.recs);go_wp2_with fail;refine CG.out.mono ?_;rintro e w3 ⟨rfl,hb3⟩;have x3:w3.cell? ⟨wr.heap.size,3,none⟩=some (.slice iA x.ps.length ic):=(hx.keep hb3).cl 3;have K3:=hb2.trans (hb3.mono hb2.size);clear CG x1 hx hpx hb2 hb3 a0 a1 a2 a3;cases hg:grtT x.recs with
    |true =>
     have HE:Hid (fineB n z l=false):=by
      show _=_;rw[lG.out];simp only[List.all_cons];unfold fineA;rw[hg];rfl
     clear lG hg;go_wp2;go_ret;exact⟨kS HE.out.symm,K3⟩
    |false =>
     by_cases hp30:30<(x.ps.length:Int)
     ·have HE:Hid (fineB n z l=false):=by
       show _=_;rw[lG.out];simp only[List.all_cons];unfold fineA;rw[hg,decide_eq_false (by omega:¬x.ps.length≤30)];rfl
      clear lG hg;go_wp2;go_ret;exact⟨kS HE.out.symm,K3⟩
     ·have HE:Hid (fineB n z l=(l.drop (k+1)).all fineA):=by
       show _=_;rw[lG.out];simp only[List.all_cons];unfold fineA;rw[hg,decide_eq_true (by omega:x.ps.length≤30)];rfl
      clear lG hg;go_wp2;go_roundw
      case rel=>exact⟨k+1,by omega,by go_num,HE,K3⟩
      case measure=>simp[intOf];omega
   ·have HE:Hid (fineB n z l=true):=by
     show _=_;rw[HK.out,dG fZ ];rfl
    clear HK;go_wp2;go_ret;exact⟨kS HE.out.symm,hbr⟩
 ·have HE:=af (fine_size h0);by_cases g1:n<3
  all_goals by_cases g2:30<n
  all_goals by_cases g3:z<1
  all_goals by_cases g4:16<z
  all_goals by_cases g5:12<(l.length:Int)
  all_goals first
   |(exfalso;exact h0 ⟨by omega,by omega,by omega,by omega,by omega⟩)
   |(clear h0;go_enter func16,ntmps16;go_upto_region 1 with (fail);generalize W.alloc (.cells #[.int .i64 n,.int .i64 z,.slice B l.length lc] 52)=w1 at *;obtain⟨p0,p1,p2,_,_,_⟩:=xh hb;go_wp2;go_ret;exact⟨kS HE.out.symm,K1⟩)
end Go.Proofs.YtichfhpgdhdiaaaGreat
namespace Go.Proofs.YtichfhpgdhdiaaaGreat
open Go.RowKit
end Go.Proofs.YtichfhpgdhdiaaaGreat
namespace Go.Proofs.YtichfhpgdhdiaaaGreat
open Go.RowKit
end Go.Proofs.YtichfhpgdhdiaaaGreat
namespace Go.Proofs.YtichfhpgdhdiaaaGreat
open Go.RowKit
end Go.Proofs.YtichfhpgdhdiaaaGreat
