/- Digests -/
import Derived.Test.YtichfhpgdhdiaaaGreatJ21
import Derived.Test.YtichfhpgdhdiaaaGreatJ11
import Derived.Test.YtichfhpgdhdiaaaGreatJ3
set_option maxRecDepth 100000
set_option maxHeartbeats 8000000
set_option linter.unusedVariables false
set_option linter.unusedSimpArgs false
open Go.Proofs.Tryz
namespace Go.Proofs.YtichfhpgdhdiaaaGreat
open Go.RowKit
theorem WG(x y:Dg):Zc (qD x.1 y.1) (qD x.2 y.2)=kM x y:=by
 unfold Zc qD kM kV;split<;>split<;>(try split)<;>(try split)<;>(try split)<;>(try split)<;>(try split)<;>first|rfl|omega|(simp at *;omega)|simp_all
theorem gH(w:World):Below w.heap.size w w.drew:=kG gD
theorem SC(x y:Dg)(W:World):Calls prog 79 #[lS x,lS y] W fun e w'=>e=.returned (.int .i64 (kM x y))∧Below W.heap.size W w':=by
 unfold lS;have hX:=(gV.new W #[.int .u64 (x.1.toNat:Int),.int .u64 (x.2.toNat:Int)] 39).alloc (.cells #[.int .u64 (y.1.toNat:Int),.int .u64 (y.2.toNat:Int)] 39);have hY:=gV.new (W.alloc (.cells #[.int .u64 (x.1.toNat:Int),.int .u64 (x.2.toNat:Int)] 39)) #[.int .u64 (y.1.toNat:Int),.int .u64 (y.2.toNat:Int)] 39;rw[aJ]at hY;have hK1:=((ah W.heap.size W).alloc (ak _) (.cells #[.int .u64 (x.1.toNat:Int),.int .u64 (x.2.toNat:Int)] 39)).alloc gu (.cells #[.int .u64 (y.1.toNat:Int),.int .u64 (y.2.toNat:Int)] 39)
 by_cases h:x=y
 ·have hb:((x.1.toNat:Int)==(y.1.toNat:Int)&&(x.2.toNat:Int)==(y.2.toNat:Int))=true:=by rw[xG];exact decide_eq_true h
  have HE:Hid (kM x y=0):=xZ.2 h;have k0:=hX.cl 0;have k1:=hX.cl 1;have k2:=hY.cl 0;have k3:=hY.cl 1;clear h;go_enter func79,ntmps79;go_wp2;go_ret;exact⟨jK HE.out.symm,hK1⟩
 ·have hb:((x.1.toNat:Int)==(y.1.toNat:Int)&&(x.2.toNat:Int)==(y.2.toNat:Int))=false:=by rw[xG];exact decide_eq_false h
  have HE:=af (WG x y);have HX:=af hX;have HY:=af hY;have HK:=af hK1;have CU:=af SB;clear h hX hY hK1;go_enter func79,ntmps79;go_upto_region 3 with (fail);generalize hw2:(W.alloc (.cells #[.int .u64 (x.1.toNat:Int),.int .u64 (x.2.toNat:Int)] 39)).alloc (.cells #[.int .u64 (y.1.toNat:Int),.int .u64 (y.2.toNat:Int)] 39)=w2 at *;clear hw2;refine iN gB 13 (fun i v w=>match i with
   |0=>v=.pointer (some ⟨W.heap.size,0,none⟩)
   |1=>v=.int .u64 (x.1.toNat:Int)
   |2=>v=.pointer (some ⟨W.heap.size+1,0,none⟩)
   |3=>v=.int .u64 (y.1.toNat:Int)
   |4=>v=.int .i64 (qD x.1 y.1)
   |5=>v=.pointer (some ⟨W.heap.size,1,none⟩)
   |6=>v=.int .u64 (x.2.toNat:Int)
   |7=>v=.pointer (some ⟨W.heap.size+1,1,none⟩)
   |8=>v=.int .u64 (y.2.toNat:Int)
   |9=>v=.int .i64 (qD x.2 y.2)
   |10=>∃g',v=.slice (some ⟨g',0,none⟩) 2 2∧w.cell? ⟨g',0,none⟩=some (.int .i64 (qD x.1 y.1))∧w.cell? ⟨g',1,none⟩=some (.int .i64 (qD x.2 y.2))
   |11=>v=.int .i64 (Zc (qD x.1 y.1) (qD x.2 y.2))
   |_=>v=.int .i64 (Zc (qD x.1 y.1) (qD x.2 y.2))) 0 gB (fun i v w w' h hb=>?_) ?_ ?_
  ·match i,h with
   |0,h=>exact h
   |1,h=>exact h
   |2,h=>exact h
   |3,h=>exact h
   |4,h=>exact h
   |5,h=>exact h
   |6,h=>exact h
   |7,h=>exact h
   |8,h=>exact h
   |9,h=>exact h
   |10,h=>exact(by obtain⟨g',h1,h2,h3⟩:=h;exact⟨g',h1,dO hb _ _ _ h2,dO hb _ _ _ h3⟩)
   |11,h=>exact h
   |12,h=>exact h
   |_+13,h=>exact h
  ·rintro i o hi ho a w1 hdf hlen hold hbel gK K hK;clear hdf;have hX:=(HX.out.keep (gH _)).keep hbel;have hY:=(HY.out.keep (gH _)).keep hbel;have q0:=hX.cl 0;have q1:=hX.cl 1;have r0:=hY.cl 0;have r1:=hY.cl 1;have s2:=kZ hold 2 (.pointer (some ⟨W.heap.size,0,none⟩));have s3:=kZ hold 3 (.pointer (some ⟨W.heap.size+1,0,none⟩));have hi':i=0∨i=1∨i=2∨i=3∨i=4∨i=5∨i=6∨i=7∨i=8∨i=9∨i=10∨i=11∨i=12:=by omega
   rcases hi' with rfl|rfl|rfl|rfl|rfl|rfl|rfl|rfl|rfl|rfl|rfl|rfl|rfl<;>obtain rfl:=aB ho
   ·exact iJ s2
   ·exact iJ (iq gK 0 8)
   ·exact iJ s3
   ·exact iJ (iq gK 2 10)
   ·refine sM (iq gK 1 9) (iq gK 3 11) ?_;refine(CU.out x.1 y.1 w1).mono ?_;rintro e' w4 ⟨rfl,rfl⟩;exact hK _ _ (rfl) gD
   ·exact iJ s2
   ·exact iJ (iq gK 5 13)
   ·exact iJ s3
   ·exact iJ (iq gK 7 15)
   ·refine sM (iq gK 6 14) (iq gK 8 16) ?_;refine(CU.out x.2 y.2 w1).mono ?_;rintro e' w4 ⟨rfl,rfl⟩;exact hK _ _ (rfl) gD
   ·have e12:=iq gK 4 12;simp only at e12;have e17:=iq gK 9 17;simp only at e17;clear hlen;rw[aD]at e12 e17;unfold Oper.wp;simp only[execOp,Act.eval,e12,e17];go_simp;have hbn:=gV.new w1 #[.int .i64 (qD x.1 y.1),.int .i64 (qD x.2 y.2)] 3;exact hK _ _ ⟨w1.heap.size,rfl,hbn.cl 0,hbn.cl 1⟩ ((ah _ _).alloc (ak _) _)
   ·have e18:=iq gK 10 18;simp only at e18;obtain⟨g',e18,c0,c1⟩:=e18;unfold Oper.wp;simp only[execOp,Act.eval,e18];go_simp;refine(Qk _ _ g' 0 2 w1 c0 c1 gF).mono ?_;rintro e' w4 ⟨rfl,rfl⟩;exact hK _ _ rfl gD
   ·exact iJ (iq gK 11 19)
  ·rintro a w1 hdf hlen hold hbel hnew;have e4:=qH hnew 12 4;simp only at e4;obtain⟨uq,hu,hact⟩:=kL [8,9,10,11,12,13,14,15,16,17,18,19,4] hdf hlen hold;simp only[hu]at e4;simp only[List.foldl,e4,SA]at hact;clear hdf hlen hold hnew e4 hu;subst hact;refine iP ?_;go_wp2;go_ret;exact⟨by rw[HE.out];rfl,HK.out.trans (((gH _).trans hbel).mono HK.out.size)⟩
end Go.Proofs.YtichfhpgdhdiaaaGreat
namespace Go.Proofs.YtichfhpgdhdiaaaGreat
open Go.RowKit
theorem SE(x y:Dg)(W:World):Calls prog 54 #[lS x,lS y] W fun e w'=>e=.returned (.int .i64 (kM x y))∧Below W.heap.size W w':=by
 unfold lS;have hX:=(gV.new W #[.int .u64 (x.1.toNat:Int),.int .u64 (x.2.toNat:Int)] 39).alloc (.cells #[.int .u64 (y.1.toNat:Int),.int .u64 (y.2.toNat:Int)] 39);have hY:=gV.new (W.alloc (.cells #[.int .u64 (x.1.toNat:Int),.int .u64 (x.2.toNat:Int)] 39)) #[.int .u64 (y.1.toNat:Int),.int .u64 (y.2.toNat:Int)] 39;rw[aJ]at hY;have HK:=af (((ah W.heap.size W).alloc (ak _) (.cells #[.int .u64 (x.1.toNat:Int),.int .u64 (x.2.toNat:Int)] 39)).alloc gu (.cells #[.int .u64 (y.1.toNat:Int),.int .u64 (y.2.toNat:Int)] 39))
 have k0:=hX.cl 0;have k1:=hX.cl 1;have k2:=hY.cl 0;have k3:=hY.cl 1;clear hX hY;go_enter func54,ntmps54;go_wp2;generalize hw2:(W.alloc (.cells #[.int .u64 (x.1.toNat:Int),.int .u64 (x.2.toNat:Int)] 39)).alloc (.cells #[.int .u64 (y.1.toNat:Int),.int .u64 (y.2.toNat:Int)] 39)=w2 at *;clear hw2;by_cases h1:x.1.toNat<y.1.toNat
 ·have HE:Hid (kM x y=-1):=Km (.inl h1);have h1':(x.1.toNat:Int)<(y.1.toNat:Int):=by omega
  clear h1;refine wp_loop_rounds 1 ?_;rw[rounds_succ];go_wp2;go_quiet (fail);go_wp2;go_ret;exact⟨jK HE.out.symm,by repeat (first|exact HK.out|refine below_drewN' ?_ _)⟩
 ·have n1':¬(x.1.toNat:Int)<(y.1.toNat:Int):=by omega
  by_cases h2:y.1.toNat<x.1.toNat
  ·have HE:Hid (kM x y=1):=Kn (.inl h2);have h2':(y.1.toNat:Int)<(x.1.toNat:Int):=by omega
   clear h1 h2;refine wp_loop_rounds 1 ?_;rw[rounds_succ];go_wp2;go_quiet (fail);go_wp2;go_quiet (fail);go_wp2;go_ret;exact⟨jK HE.out.symm,by repeat (first|exact HK.out|refine below_drewN' ?_ _)⟩
  ·have n2':¬(y.1.toNat:Int)<(x.1.toNat:Int):=by omega
   by_cases h3:x.2.toNat<y.2.toNat
   ·have HE:Hid (kM x y=-1):=Km (.inr ⟨by omega,h3⟩);have h3':(x.2.toNat:Int)<(y.2.toNat:Int):=by omega
    clear h1 h2 h3;refine wp_loop_rounds 2 ?_;rw[rounds_succ];go_wp2;go_quiet (fail);go_wp2;go_quiet (fail);go_wp2;rw[rounds_succ];go_wp2;go_quiet (fail);go_wp2;go_ret;exact⟨jK HE.out.symm,by repeat (first|exact HK.out|refine below_drewN' ?_ _)⟩
   ·have n3':¬(x.2.toNat:Int)<(y.2.toNat:Int):=by omega
    by_cases h4:y.2.toNat<x.2.toNat
    ·have HE:Hid (kM x y=1):=Kn (.inr ⟨by omega,h4⟩);have h4':(y.2.toNat:Int)<(x.2.toNat:Int):=by omega
     clear h1 h2 h3 h4;refine wp_loop_rounds 2 ?_;rw[rounds_succ];go_wp2;go_quiet (fail);go_wp2;go_quiet (fail);go_wp2;rw[rounds_succ];go_wp2;go_quiet (fail);go_wp2;go_quiet (fail);go_wp2;go_ret;exact⟨jK HE.out.symm,by repeat (first|exact HK.out|refine below_drewN' ?_ _)⟩
    ·have n4':¬(y.2.toNat:Int)<(x.2.toNat:Int):=by omega
     have HE:Hid (kM x y=0):=xZ.2 (dP (eD.1 fZ ) (eD.1 fZ ));clear h1 h2 h3 h4;refine wp_loop_rounds 3 ?_;rw[rounds_succ];go_wp2;go_quiet (fail);go_wp2;go_quiet (fail);go_wp2;rw[rounds_succ];go_wp2;go_quiet (fail);go_wp2;go_quiet (fail);go_wp2;rw[rounds_succ];go_wp2;go_ret;exact⟨jK HE.out.symm,by repeat (first|exact HK.out|refine below_drewN' ?_ _)⟩
end Go.Proofs.YtichfhpgdhdiaaaGreat
