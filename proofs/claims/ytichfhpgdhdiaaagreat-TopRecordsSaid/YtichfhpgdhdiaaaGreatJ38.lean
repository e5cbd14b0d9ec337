/- The reference's Check of a pool. -/
import Derived.Test.YtichfhpgdhdiaaaGreatJ37
import Derived.Test.YtichfhpgdhdiaaaGreatJ34
import Derived.Test.YtichfhpgdhdiaaaGreatJ3
import Derived.Test.YtichfhpgdhdiaaaGreatJ32
import Derived.Test.YtichfhpgdhdiaaaGreatJ16
set_option maxRecDepth 100000
set_option maxHeartbeats 8000000
set_option linter.unusedVariables false
set_option linter.unusedSimpArgs false
open Go.Proofs.Tryz
namespace Go.Proofs.YtichfhpgdhdiaaaGreat
open Go.RowKit
def Q6(x:It):Prop:=(∃o:Ob,Cw o∧(jS o).length≤65536∧x.2=jS o)∧x.1=jJ x.2
def zR(p:List It):Prop:=pO p∧∀x∈p,Q6 x
def Rt(p:List It)(k:Nat):Prop:=(p.take k).Pairwise (fun x y=>kV x.1 y.1)∧∀x∈p.take k,Q6 x
theorem Rt.zero(p:List It):Rt p 0:=⟨by simp,by simp⟩
theorem Rt.done{p:List It}{k:Nat}(h:Rt p k)(hk:p.length≤k):zR p:=by
 obtain⟨h1,h2⟩:=h;rw[aF hk]at h1 h2;exact⟨h1,h2⟩
theorem Rt.step{p:List It}{k:Nat}{x:It}(h:Rt p k)(hx:p[k]?=some x)(g:Q6 x)(hl:0<k→∀y,p[k-1]?=some y→kV y.1 x.1):Rt p (k+1):=by
 rw[show Rt p (k+1)=((p.take k++[x]).Pairwise (fun x y=>kV x.1 y.1)∧∀y∈p.take k++[x],Q6 y) by rw[←take_snoc' hx];rfl];obtain⟨h1,h2⟩:=h;refine⟨List.pairwise_append.2 ⟨h1,List.pairwise_singleton _ _,fun a ha b hb=>?_⟩,fun y hy=>?_⟩
 ·obtain rfl:b=x:=by simpa using hb
  obtain⟨j,hj⟩:=bU ha;have hjl:=(ay.1 hj).1;rw[aH]at hjl;have hk:0<k:=by omega
  have hkp:=(ay.1 hx).1;obtain⟨y,hy⟩:∃y,p[k-1]?=some y:=⟨_,au fZ ⟩;have hyl:=hl hk y hy;by_cases hjk:j=k-1
  ·subst hjk;rw[List.getElem?_take_of_lt fZ ]at hj;obtain rfl:=aB (hj.symm.trans hy);exact hyl
  ·have hy':(p.take k)[k-1]?=some y:=by rw[List.getElem?_take_of_lt fZ ];exact hy
   exact uj (pO.lt (p:=p.take k) h1 hj hy' fZ ) hyl
 ·rcases bq.1 hy with h|h
  ·exact h2 y h
  ·obtain rfl:y=x:=by simpa using h
   exact g
def ahz(p:List It)(w0:World)(e:Ending)(w:World):Prop:=∃k:Int,e=.returned (.int .i64 k)∧(k=0→zR p)∧Below w0.heap.size w0 w
theorem LX(x y:Dg):((x.1.toNat:Int) != (y.1.toNat:Int)||(x.2.toNat:Int) != (y.2.toNat:Int)) = !decide (x=y):=by
 rw[←xG];simp[Bool.not_and,bne]
theorem Mk(w:World)(v:Value)(p:List It)(h:og w v p)(hp:p.length≤1000000)(hd:∀x∈p,x.2.length≤100000):
  Calls prog 25 #[v] w (ahz p w):=by
 obtain⟨A,c,rfl,hc,hm⟩:=h.form;have HP:=af h;have H0:=af (Rt.zero p);have Jv:=af hd;clear h hd;go_enter func25,ntmps25;go_wp2;go_loopw [3] (fun iv wr=>∃k:Nat,k≤p.length∧iv=.int .i64 k∧Hid (Rt p k)∧Below w.heap.size w wr) (fun iv _=>p.length-(intOf iv).toNat)
 case atStart=>exact⟨0,by omega,rfl,H0,ah _ _⟩
 case round =>
  clear H0;obtain⟨k,hk,rfl,HR,hdr⟩:=hrel;have HD:=af hdr;have XY:=HP.out.keep (dO hdr);clear hdr;by_cases hlt:k<p.length
  ·obtain⟨x,hx⟩:∃x,p[k]?=some x:=⟨_,au hlt⟩;have hxl:x.2.length≤100000:=Jv.out x (aV hx);obtain⟨b1,o1,rfl,c0,c1,c2⟩:=XY.get hx;have hlt':(k:Int)<(p.length:Int):=by omega
   have CD:=af (fun W=>Mj W (fu x.2) (by rw[gL];exact hxl));have CO:=af (fun W=>WE (fu x.2) (by rw[gL];omega) W);have HPR:=af XY;clear XY;go_wp2_with fail;refine(CD.out _).mono ?_;rintro e w2 ⟨o,oA,on,oc,qA,qn,qc,kk,rfl,hg,hb2⟩;have HD2:=(hTr HD hb2);have hb3:=(hb2.alloc hb2.size (.cells (je o (.slice oA on oc) (.slice qA qn qc)) 44));have HZ:=af (gV.new w2 (je o (.slice oA on oc) (.slice qA qn qc)) 44);by_cases hkk:kk=0
   ·subst hkk;have HO:=af (hg rfl);clear hg;unfold je at hb3 HZ;unfold je;have C0:=af (dO hb3 _ _ _ c0);have C1:=af (dO hb3 _ _ _ c1);have C2:=af (dO hb3 _ _ _ c2);have HPQ:=af (HPR.out.keep (dO hb3));have HD3:=(hTr HD hb3);clear c0 c1 c2 hb3 hb2 HPR HD HD2 CD HZ;have HD:=HD3;clear HD3;go_upto_region 7 with (fail);generalize (w2.alloc (.cells #[.int .i64 o.kind,.string (fu o.data),.slice oA on oc,.int .u64 (o.tree.1.toNat:Int),.int .u64 (o.tree.2.toNat:Int),.slice qA qn qc,.string (fu o.gM),.int .i64 o.time,.string (fu o.msg)] 44))=wy at *
    by_cases uJ:jJ x.2=x.1
    ·have HQ:Hid ((((jJ x.2).1.toNat:Int) != (x.1.1.toNat:Int)||((jJ x.2).2.toNat:Int) != (x.1.2.toNat:Int))=false):=(LX _ _).trans (by simp[uJ]);have UC:Hid (Q6 x):=⟨by obtain⟨o',g1,g2,g3⟩:=HO.out;exact⟨o',g1,g2,Sr g3⟩,uJ.symm⟩;clear uJ HO;refine iN gB 12 (fun i v w=>match i with
      |0=>v=.slice (some ⟨b1,o1,none⟩) p.length c
      |1=>v=.int .i64 (k:Int)
      |2=>v=.pointer (some ⟨b1,o1+k*3,none⟩)
      |3=>v=.pointer (some ⟨b1,o1+k*3+2,none⟩)
      |4=>v=.string (fu x.2)
      |5=>v=.agg #[.int .u64 ((jJ x.2).1.toNat:Int),.int .u64 ((jJ x.2).2.toNat:Int)]
      |6=>v=.slice (some ⟨b1,o1,none⟩) p.length c
      |7=>v=.int .i64 (k:Int)
      |8=>v=.pointer (some ⟨b1,o1+k*3,none⟩)
      |9=>v=.pointer (some ⟨b1,o1+k*3,none⟩)
      |10=>v=.agg #[.int .u64 (x.1.1.toNat:Int),.int .u64 (x.1.2.toNat:Int)]
      |_=>v=.bool false) 0 gB (fun i v w w' h hb=>?_) ?_ ?_
     ·exact PH
     ·rintro i o hi ho a w1 hdf hlen hold hbel gK K hK;clear hdf;have hk:=(gH wy).trans hbel;have c0:=dO hk _ _ _ C0.out;have c1:=dO hk _ _ _ C1.out;have c2:=dO hk _ _ _ C2.out;have s0:=kZ hold 0 (.slice (some ⟨b1,o1,none⟩) p.length c);have s3:=kZ hold 3 (.int .i64 (k:Int));have hi':i=0∨i=1∨i=2∨i=3∨i=4∨i=5∨i=6∨i=7∨i=8∨i=9∨i=10∨i=11:=by omega
      rcases hi' with rfl|rfl|rfl|rfl|rfl|rfl|rfl|rfl|rfl|rfl|rfl|rfl<;>obtain rfl:=aB ho
      ·exact iJ s0
      ·exact iJ s3
      ·exact yM (iq gK 0 23) (iq gK 1 24)
      ·exact iJ (iq gK 2 25)
      ·exact iJ (iq gK 3 26)
      ·refine qM (iq gK 4 27) ?_;refine(CO.out w1).mono ?_;rintro e' w4 ⟨rfl,hb4⟩;exact hK _ w4 (by simp only[gQ];rfl) hb4
      ·exact iJ s0
      ·exact iJ s3
      ·exact yM (iq gK 6 29) (iq gK 7 30)
      ·exact iJ (iq gK 8 31)
      ·exact iJ (iq gK 9 32)
      ·refine sM (iq gK 5 28) (iq gK 10 33) ?_;exact hK _ w1 (congrArg Value.bool HQ.out) gD
     ·rintro a w1 hdf hlen hold hbel hnew;have e34:=qH hnew 11 34;simp only at e34;obtain⟨uq,hu,hact⟩:=kL [23,24,25,26,27,28,29,30,31,32,33,34] hdf hlen hold;simp only[hu]at e34;simp only[List.foldl,e34,SA]at hact;clear hdf hlen hold hnew e34 hu;subst hact;refine iP ?_;have HN:=af (HD.out.trans (((gH _).trans hbel).mono HD.out.size));have C0':=af (dO hbel _ _ _ (dO (gH _) _ _ _ C0.out));have C1':=af (dO hbel _ _ _ (dO (gH _) _ _ _ C1.out));have C2':=af (dO hbel _ _ _ (dO (gH _) _ _ _ C2.out))
      have Uw:=af (HPQ.out.keep (dO ((gH _).trans hbel)));clear hbel C0 C1 C2 HPQ HQ CO HD;have C0:=C0';have C1:=C1';have C2:=C2';have HD:=HN;clear C0' C1' C2' HN
      rename World=>wz
      by_cases hk0:k=0
      ·have hkz:¬(0:Int)<(k:Int):=by omega
       have HR2:=af (Rt.step HR.out hx UC.out (fun h0=>absurd h0 fZ ));clear HR hx hk0;go_upto_region 9 with (fail);refine nZ gB 17 (fun i v w=>match i with
        |0=>v=.int .i64 (k:Int)
        |1=>v=.bool false
        |2=>v=.bool false
        |3=>v=undef
        |4=>v=undef
        |5=>v=undef
        |6=>v=undef
        |7=>v=undef
        |8=>v=undef
        |9=>v=undef
        |10=>v=undef
        |11=>v=undef
        |12=>v=undef
        |13=>v=undef
        |14=>v=undef
        |15=>v=undef
        |_=>v=.bool false) 0 gB (fun i v w w' h hb=>?_) (fun _=>false) ?_ ?_ ?_ ?_
       ·exact PH
       ·intro i o q want hi ho hg v w hφ;have hi':i=0∨i=1∨i=2∨i=3∨i=4∨i=5∨i=6∨i=7∨i=8∨i=9∨i=10∨i=11∨i=12∨i=13∨i=14∨i=15∨i=16:=by omega
        rcases hi' with rfl|rfl|rfl|rfl|rfl|rfl|rfl|rfl|rfl|rfl|rfl|rfl|rfl|rfl|rfl|rfl|rfl<;>(obtain rfl:=aB ho)<;>first|(cases hg;exact hφ)|cases hg
       ·intro i o w hi ho hon;have hi':i=0∨i=1∨i=2∨i=3∨i=4∨i=5∨i=6∨i=7∨i=8∨i=9∨i=10∨i=11∨i=12∨i=13∨i=14∨i=15∨i=16:=by omega
        rcases hi' with rfl|rfl|rfl|rfl|rfl|rfl|rfl|rfl|rfl|rfl|rfl|rfl|rfl|rfl|rfl|rfl|rfl<;>(obtain rfl:=aB ho)<;>first|exact rfl|(exfalso;simp[uT]at hon;done)
       ·rintro i o hi ho hon a w1 hdf hlen hold hbel gK K hK;clear hdf;have s3:=kZ hold 3 (.int .i64 (k:Int));have hi':i=0∨i=1∨i=2∨i=3∨i=4∨i=5∨i=6∨i=7∨i=8∨i=9∨i=10∨i=11∨i=12∨i=13∨i=14∨i=15∨i=16:=by omega
        rcases hi' with rfl|rfl|rfl|rfl|rfl|rfl|rfl|rfl|rfl|rfl|rfl|rfl|rfl|rfl|rfl|rfl|rfl<;>obtain rfl:=aB ho
        ·exact iJ s3
        ·refine qM (iq gK 0 35) ?_;exact hK _ w1 (by first|(simp;omega)|simp) gD
        ·exact iJ (iq gK 1 36)
        ·exfalso;simp[uT]at hon;done
        ·exfalso;simp[uT]at hon;done
        ·exfalso;simp[uT]at hon;done
        ·exfalso;simp[uT]at hon;done
        ·exfalso;simp[uT]at hon;done
        ·exfalso;simp[uT]at hon;done
        ·exfalso;simp[uT]at hon;done
        ·exfalso;simp[uT]at hon;done
        ·exfalso;simp[uT]at hon;done
        ·exfalso;simp[uT]at hon;done
        ·exfalso;simp[uT]at hon;done
        ·exfalso;simp[uT]at hon;done
        ·exfalso;simp[uT]at hon;done
        ·exact iJ (iq gK 2 37)
       ·rintro a w1 hdf hlen hold hbel hnew;have e51:=qH hnew 16 51;simp only at e51;obtain⟨uq,hu,hact⟩:=kL [35,36,37,38,39,40,41,42,43,44,45,46,47,48,49,50,51] hdf hlen hold;simp only[hu]at e51;simp only[List.foldl,e51,SA]at hact;clear hdf hlen hold hnew e51 hu;subst hact;refine iP ?_;have HN:=af (HD.out.trans (((gH _).trans hbel).mono HD.out.size));go_wp2;go_roundw
        case rel=>exact⟨k+1,by omega,by go_num,HR2,HN.out⟩
        case measure=>simp[intOf];omega
      ·obtain⟨k0,hk0⟩:∃k0,k=k0+1:=⟨k-1,by omega⟩;obtain⟨y,hy⟩:∃y,p[k0]?=some y:=⟨_,au fZ ⟩;obtain⟨b1',o1',hsl,d0,d1,_⟩:=Uw.out.get hy;obtain⟨rfl,rfl⟩:b1=b1'∧o1=o1':=by injection hsl with e;injection e with e1 e2;exact⟨e1,e2⟩
       have D0:=af d0;have D1:=af d1;have CC:=af (SE y.1 x.1);have hkz:(0:Int)<(k:Int):=by omega
       have hkm:(k:Int)-1=(k0:Int):=by omega
       have amH:(k0:Int)<(p.length:Int):=by omega
       have Fs:IntKind.i64.wrap (k0:Int)=(k0:Int):=jo fZ fZ ;have YD:=af hk0;clear hk0;clear hsl d0 d1 Uw;by_cases hl:kV y.1 x.1
       ·have HL:Hid (decide (0≤kM y.1 x.1)=false):=decide_eq_false (fun h=>zu.1 h hl);have HR2:=af (Rt.step HR.out hx UC.out (fun _ y' hy'=>by rw[YD.out,fP]at hy';obtain rfl:=aB (hy.symm.trans hy');exact hl));clear HR hx hl hy;go_upto_region 9 with (fail);refine nZ gB 17 (fun i v w=>match i with
         |0=>v=.int .i64 (k:Int)
         |1=>v=.bool true
         |2=>v=.bool true
         |3=>v=.slice (some ⟨b1,o1,none⟩) p.length c
         |4=>v=.int .i64 (k:Int)
         |5=>v=.int .i64 (k0:Int)
         |6=>v=.pointer (some ⟨b1,o1+k0*3,none⟩)
         |7=>v=.pointer (some ⟨b1,o1+k0*3,none⟩)
         |8=>v=.agg #[.int .u64 (y.1.1.toNat:Int),.int .u64 (y.1.2.toNat:Int)]
         |9=>v=.slice (some ⟨b1,o1,none⟩) p.length c
         |10=>v=.int .i64 (k:Int)
         |11=>v=.pointer (some ⟨b1,o1+k*3,none⟩)
         |12=>v=.pointer (some ⟨b1,o1+k*3,none⟩)
         |13=>v=.agg #[.int .u64 (x.1.1.toNat:Int),.int .u64 (x.1.2.toNat:Int)]
         |14=>v=.int .i64 (kM y.1 x.1)
         |15=>v=.bool false
         |_=>v=.bool false) 0 gB (fun i v w w' h hb=>?_) (fun _=>true) ?_ ?_ ?_ ?_
        ·exact PH
        ·intro i o q want hi ho hg v w hφ;have hi':i=0∨i=1∨i=2∨i=3∨i=4∨i=5∨i=6∨i=7∨i=8∨i=9∨i=10∨i=11∨i=12∨i=13∨i=14∨i=15∨i=16:=by omega
         rcases hi' with rfl|rfl|rfl|rfl|rfl|rfl|rfl|rfl|rfl|rfl|rfl|rfl|rfl|rfl|rfl|rfl|rfl<;>(obtain rfl:=aB ho)<;>first|(cases hg;exact hφ)|cases hg
        ·intro i o w hi ho hon;have hi':i=0∨i=1∨i=2∨i=3∨i=4∨i=5∨i=6∨i=7∨i=8∨i=9∨i=10∨i=11∨i=12∨i=13∨i=14∨i=15∨i=16:=by omega
         rcases hi' with rfl|rfl|rfl|rfl|rfl|rfl|rfl|rfl|rfl|rfl|rfl|rfl|rfl|rfl|rfl|rfl|rfl<;>(obtain rfl:=aB ho)<;>first|exact rfl|(exfalso;simp[uT]at hon;done)
        ·rintro i o hi ho hon a w1 hdf hlen hold hbel gK K hK;clear hdf;have hk:=(gH wz).trans hbel;have c0:=dO hk _ _ _ C0.out;have c1:=dO hk _ _ _ C1.out;have c2:=dO hk _ _ _ C2.out;have d0:=dO hk _ _ _ D0.out;have d1:=dO hk _ _ _ D1.out;have s3:=kZ hold 3 (.int .i64 (k:Int));have s0:=kZ hold 0 (.slice (some ⟨b1,o1,none⟩) p.length c);have hi':i=0∨i=1∨i=2∨i=3∨i=4∨i=5∨i=6∨i=7∨i=8∨i=9∨i=10∨i=11∨i=12∨i=13∨i=14∨i=15∨i=16:=by omega
         rcases hi' with rfl|rfl|rfl|rfl|rfl|rfl|rfl|rfl|rfl|rfl|rfl|rfl|rfl|rfl|rfl|rfl|rfl<;>obtain rfl:=aB ho
         ·exact iJ s3
         ·refine qM (iq gK 0 35) ?_;exact hK _ w1 (by first|(simp;omega)|simp) gD
         ·exact iJ (iq gK 1 36)
         ·exact iJ s0
         ·exact iJ s3
         ·refine qM (iq gK 4 39) ?_;exact hK _ w1 (by first|rfl|exact congrArg (Value.int .i64) Fs) gD
         ·exact yM (iq gK 3 38) (iq gK 5 40)
         ·exact iJ (iq gK 6 41)
         ·exact iJ (iq gK 7 42)
         ·exact iJ s0
         ·exact iJ s3
         ·exact yM (iq gK 9 44) (iq gK 10 45)
         ·exact iJ (iq gK 11 46)
         ·exact iJ (iq gK 12 47)
         ·refine sM (iq gK 8 43) (iq gK 13 48) ?_;refine(CC.out w1).mono ?_;rintro e' w4 ⟨rfl,hb4⟩;exact hK _ w4 rfl hb4
         ·refine qM (iq gK 14 49) ?_;exact hK _ w1 (congrArg Value.bool HL.out) gD
         ·exact yM (iq gK 2 37) (iq gK 15 50)
        ·rintro a w1 hdf hlen hold hbel hnew;have e51:=qH hnew 16 51;simp only at e51;obtain⟨uq,hu,hact⟩:=kL [35,36,37,38,39,40,41,42,43,44,45,46,47,48,49,50,51] hdf hlen hold;simp only[hu]at e51;simp only[List.foldl,e51,SA]at hact;clear hdf hlen hold hnew e51 hu;subst hact;refine iP ?_;have HN:=af (HD.out.trans (((gH _).trans hbel).mono HD.out.size));go_wp2;go_roundw
         case rel=>exact⟨k+1,by omega,by go_num,HR2,HN.out⟩
         case measure=>simp[intOf];omega
       ·have HL:Hid (decide (0≤kM y.1 x.1)=true):=decide_eq_true (zu.2 hl);clear HR hx hl hy;go_upto_region 9 with (fail);refine nZ gB 17 (fun i v w=>match i with
         |0=>v=.int .i64 (k:Int)
         |1=>v=.bool true
         |2=>v=.bool true
         |3=>v=.slice (some ⟨b1,o1,none⟩) p.length c
         |4=>v=.int .i64 (k:Int)
         |5=>v=.int .i64 (k0:Int)
         |6=>v=.pointer (some ⟨b1,o1+k0*3,none⟩)
         |7=>v=.pointer (some ⟨b1,o1+k0*3,none⟩)
         |8=>v=.agg #[.int .u64 (y.1.1.toNat:Int),.int .u64 (y.1.2.toNat:Int)]
         |9=>v=.slice (some ⟨b1,o1,none⟩) p.length c
         |10=>v=.int .i64 (k:Int)
         |11=>v=.pointer (some ⟨b1,o1+k*3,none⟩)
         |12=>v=.pointer (some ⟨b1,o1+k*3,none⟩)
         |13=>v=.agg #[.int .u64 (x.1.1.toNat:Int),.int .u64 (x.1.2.toNat:Int)]
         |14=>v=.int .i64 (kM y.1 x.1)
         |15=>v=.bool true
         |_=>v=.bool true) 0 gB (fun i v w w' h hb=>?_) (fun _=>true) ?_ ?_ ?_ ?_
        ·exact PH
        ·intro i o q want hi ho hg v w hφ;have hi':i=0∨i=1∨i=2∨i=3∨i=4∨i=5∨i=6∨i=7∨i=8∨i=9∨i=10∨i=11∨i=12∨i=13∨i=14∨i=15∨i=16:=by omega
         rcases hi' with rfl|rfl|rfl|rfl|rfl|rfl|rfl|rfl|rfl|rfl|rfl|rfl|rfl|rfl|rfl|rfl|rfl<;>(obtain rfl:=aB ho)<;>first|(cases hg;exact hφ)|cases hg
        ·intro i o w hi ho hon;have hi':i=0∨i=1∨i=2∨i=3∨i=4∨i=5∨i=6∨i=7∨i=8∨i=9∨i=10∨i=11∨i=12∨i=13∨i=14∨i=15∨i=16:=by omega
         rcases hi' with rfl|rfl|rfl|rfl|rfl|rfl|rfl|rfl|rfl|rfl|rfl|rfl|rfl|rfl|rfl|rfl|rfl<;>(obtain rfl:=aB ho)<;>first|exact rfl|(exfalso;simp[uT]at hon;done)
        ·rintro i o hi ho hon a w1 hdf hlen hold hbel gK K hK;clear hdf;have hk:=(gH wz).trans hbel;have c0:=dO hk _ _ _ C0.out;have c1:=dO hk _ _ _ C1.out;have c2:=dO hk _ _ _ C2.out;have d0:=dO hk _ _ _ D0.out;have d1:=dO hk _ _ _ D1.out;have s3:=kZ hold 3 (.int .i64 (k:Int));have s0:=kZ hold 0 (.slice (some ⟨b1,o1,none⟩) p.length c);have hi':i=0∨i=1∨i=2∨i=3∨i=4∨i=5∨i=6∨i=7∨i=8∨i=9∨i=10∨i=11∨i=12∨i=13∨i=14∨i=15∨i=16:=by omega
         rcases hi' with rfl|rfl|rfl|rfl|rfl|rfl|rfl|rfl|rfl|rfl|rfl|rfl|rfl|rfl|rfl|rfl|rfl<;>obtain rfl:=aB ho
         ·exact iJ s3
         ·refine qM (iq gK 0 35) ?_;exact hK _ w1 (by first|(simp;omega)|simp) gD
         ·exact iJ (iq gK 1 36)
         ·exact iJ s0
         ·exact iJ s3
         ·refine qM (iq gK 4 39) ?_;exact hK _ w1 (by first|rfl|exact congrArg (Value.int .i64) Fs) gD
         ·exact yM (iq gK 3 38) (iq gK 5 40)
         ·exact iJ (iq gK 6 41)
         ·exact iJ (iq gK 7 42)
         ·exact iJ s0
         ·exact iJ s3
         ·exact yM (iq gK 9 44) (iq gK 10 45)
         ·exact iJ (iq gK 11 46)
         ·exact iJ (iq gK 12 47)
         ·refine sM (iq gK 8 43) (iq gK 13 48) ?_;refine(CC.out w1).mono ?_;rintro e' w4 ⟨rfl,hb4⟩;exact hK _ w4 rfl hb4
         ·refine qM (iq gK 14 49) ?_;exact hK _ w1 (congrArg Value.bool HL.out) gD
         ·exact yM (iq gK 2 37) (iq gK 15 50)
        ·rintro a w1 hdf hlen hold hbel hnew;have e51:=qH hnew 16 51;simp only at e51;obtain⟨uq,hu,hact⟩:=kL [35,36,37,38,39,40,41,42,43,44,45,46,47,48,49,50,51] hdf hlen hold;simp only[hu]at e51;simp only[List.foldl,e51,SA]at hact;clear hdf hlen hold hnew e51 hu;subst hact;refine iP ?_;have HN:=af (HD.out.trans (((gH _).trans hbel).mono HD.out.size));go_wp2;go_ret;exact⟨10,rfl,fun h=>(by cases h),HN.out⟩
    ·have HQ:Hid ((((jJ x.2).1.toNat:Int) != (x.1.1.toNat:Int)||((jJ x.2).2.toNat:Int) != (x.1.2.toNat:Int))=true):=(LX _ _).trans (by simp[uJ]);clear uJ HO HR;refine iN gB 12 (fun i v w=>match i with
      |0=>v=.slice (some ⟨b1,o1,none⟩) p.length c
      |1=>v=.int .i64 (k:Int)
      |2=>v=.pointer (some ⟨b1,o1+k*3,none⟩)
      |3=>v=.pointer (some ⟨b1,o1+k*3+2,none⟩)
      |4=>v=.string (fu x.2)
      |5=>v=.agg #[.int .u64 ((jJ x.2).1.toNat:Int),.int .u64 ((jJ x.2).2.toNat:Int)]
      |6=>v=.slice (some ⟨b1,o1,none⟩) p.length c
      |7=>v=.int .i64 (k:Int)
      |8=>v=.pointer (some ⟨b1,o1+k*3,none⟩)
      |9=>v=.pointer (some ⟨b1,o1+k*3,none⟩)
      |10=>v=.agg #[.int .u64 (x.1.1.toNat:Int),.int .u64 (x.1.2.toNat:Int)]
      |_=>v=.bool true) 0 gB (fun i v w w' h hb=>?_) ?_ ?_
     ·exact PH
     ·rintro i o hi ho a w1 hdf hlen hold hbel gK K hK;clear hdf;have hk:=(gH wy).trans hbel;have c0:=dO hk _ _ _ C0.out;have c1:=dO hk _ _ _ C1.out;have c2:=dO hk _ _ _ C2.out;have s0:=kZ hold 0 (.slice (some ⟨b1,o1,none⟩) p.length c);have s3:=kZ hold 3 (.int .i64 (k:Int));have hi':i=0∨i=1∨i=2∨i=3∨i=4∨i=5∨i=6∨i=7∨i=8∨i=9∨i=10∨i=11:=by omega
      rcases hi' with rfl|rfl|rfl|rfl|rfl|rfl|rfl|rfl|rfl|rfl|rfl|rfl<;>obtain rfl:=aB ho
      ·exact iJ s0
      ·exact iJ s3
      ·exact yM (iq gK 0 23) (iq gK 1 24)
      ·exact iJ (iq gK 2 25)
      ·exact iJ (iq gK 3 26)
      ·refine qM (iq gK 4 27) ?_;refine(CO.out w1).mono ?_;rintro e' w4 ⟨rfl,hb4⟩;exact hK _ w4 (by simp only[gQ];rfl) hb4
      ·exact iJ s0
      ·exact iJ s3
      ·exact yM (iq gK 6 29) (iq gK 7 30)
      ·exact iJ (iq gK 8 31)
      ·exact iJ (iq gK 9 32)
      ·refine sM (iq gK 5 28) (iq gK 10 33) ?_;exact hK _ w1 (congrArg Value.bool HQ.out) gD
     ·rintro a w1 hdf hlen hold hbel hnew;have e34:=qH hnew 11 34;simp only at e34;obtain⟨uq,hu,hact⟩:=kL [23,24,25,26,27,28,29,30,31,32,33,34] hdf hlen hold;simp only[hu]at e34;simp only[List.foldl,e34,SA]at hact;clear hdf hlen hold hnew e34 hu;subst hact;refine iP ?_;have HN:=af (HD.out.trans (((gH _).trans hbel).mono HD.out.size));go_wp2;go_ret;exact⟨15,rfl,fun h=>(by cases h),HN.out⟩
   ·have hkb:(kk != 0)=true:=by simpa using hkk
    clear hkk hg;unfold je at hb3 HZ;unfold je;have HN:=(hTr HD hb3);clear hb2 hb3 HD2;go_wp2;go_ret;exact⟨13,rfl,fun h=>(by cases h),HN.out⟩
  ·have hlt':¬(k:Int)<(p.length:Int):=by omega
   have HG:=af (HR.out.done fZ );clear HR;go_wp2;go_ret;exact⟨0,rfl,fun _=>HG.out,HD.out⟩
end Go.Proofs.YtichfhpgdhdiaaaGreat
namespace Go.Proofs.YtichfhpgdhdiaaaGreat
open Go.RowKit
def R7(w0:World)(e:Ending)(w:World):Prop:=e=.returned (.int .i64 0)∧Below w0.heap.size w0 w
theorem Uk{d:Dg}(h:d≠(0,0)):((d.1.toNat:Int)==0&&(d.2.toNat:Int)==0)=false:=by
 rw[Bool.and_eq_false_iff];by_cases h1:d.1=0
 ·right;rw[beq_eq_false_iff_ne];exact fun h2=>h (dP h1 (mo.1 h2))
 ·left;rw[beq_eq_false_iff_ne];exact fun h2=>h1 (mo.1 h2)
theorem sD:∀(x y:List UInt8),Op.bytesLess x y=decide (x<y)
 |[],[]=>by simp[Op.bytesLess]
 |_::_,[]=>by simp[Op.bytesLess]
 |[],_::_=>by simp[Op.bytesLess]
 |a::x,b::y=>by
  rw[Op.bytesLess,sD x y];simp only[List.cons_lt_cons_iff];by_cases h1:a<b<;>by_cases h2:a=b<;>by_cases h3:x<y<;>simp[h1,h2,h3]
theorem Xx{a b:List UInt8}(h:N8 a b=true):(Op.bytesLess (fu b).toList (fu a).toList||(fu b).toList==(fu a).toList)=false:=by
 have h':a<b:=by unfold N8 at h;rw[sD]at h;exact of_decide_eq_true h
 rw[gQ,gQ,sD,Bool.or_eq_false_iff];exact⟨decide_eq_false (fun g=>List.lt_asymm h' g),beq_eq_false_iff_ne.2 (fun e=>by subst e;exact List.lt_irrefl _ h')⟩
theorem FI(w:World)(v:Value)(l:List En)(h:N9 w v l)(ho:Ug l):
  Calls prog 123 #[v] w (R7 w):=by
 obtain⟨A,c,rfl,hc,hm⟩:=h.form;have hb':¬(200:Int)<(l.length:Int):=by have:=ho.1;omega
 have hl2:l.length≤200:=ho.1;have HP:=af h;have HO:=af ho;clear h ho;go_enter func123,ntmps123;go_wp2;clear hb';go_loopw [10] (fun iv wr=>∃k:Nat,k≤l.length∧iv=.int .i64 k∧Below w.heap.size w wr) (fun iv _=>l.length-(intOf iv).toNat)
 case atStart=>exact⟨0,by omega,rfl,ah _ _⟩
 case round =>
  obtain⟨k,hk,rfl,hbw⟩:=hrel;have HB:=af hbw;by_cases hlt:k<l.length
  ·obtain⟨x,hx⟩:∃x,l[k]?=some x:=⟨_,au hlt⟩;have hpw:=HP.out.keep (dO hbw);obtain⟨b1,o1,rfl,c0,c1,c2,c3⟩:=hpw.get hx;have hlt':(k:Int)<(l.length:Int):=by omega
   obtain⟨hv,hz⟩:=HO.out.2.1 x (aV hx);have hzb:=Uk hz;have CV:=af (fun w'=>GD x.name hv w');have hal:=(ah wr.heap.size wr).alloc (ak _) (.cells #[.string (fu x.name),.bool x.dir,.int .u64 (x.dg.1.toNat:Int),.int .u64 (x.dg.2.toNat:Int)] 155);have HB2:=af (hbw.trans (hal.mono hbw.size));have hX:=gV.new wr #[.string (fu x.name),.bool x.dir,.int .u64 (x.dg.1.toNat:Int),.int .u64 (x.dg.2.toNat:Int)] 155;have x0:=hX.cl 0;have x1:=hX.cl 1;have x2:=hX.cl 2;have x3:=hX.cl 3;by_cases hk0:0<k
   ·obtain⟨y,hy⟩:∃y,l[k-1]?=some y:=⟨_,au fZ ⟩;have hnl:=HO.out.2.2 (k-1) y x hy (by rw[show k-1+1=k by omega];exact hx);obtain⟨b2,o2,e2,d0,d1,d2,d3⟩:=hpw.get hy;cases e2;have e0:=dO hal _ _ _ d0;have hk0':(0:Int)<(k:Int):=by omega
    have hk1:IntKind.i64.wrap ((k:Int)-1)=((k-1:Nat):Int):=by rw[jo fZ fZ ];omega
    have hk2:((k-1:Nat):Int)<(l.length:Int):=by omega
    have hl1:=Xx hnl;clear hx hy hpw hbw hX hnl hv hz hal d0 d1 d2 d3;go_upto_region 6 with (fail);clear c0 c1 c2 c3;generalize wr.alloc (.cells #[.string (fu x.name),.bool x.dir,.int .u64 (x.dg.1.toNat:Int),.int .u64 (x.dg.2.toNat:Int)] 155)=w1 at *;generalize hkm:k-1=km at *;go_wp2_with fail;refine(CV.out _).mono ?_;rintro e w1 ⟨rfl,rfl⟩;go_wp2;go_quiet (fail);go_wp2;go_roundw
    case rel=>exact⟨k+1,by omega,by go_num,by first|exact HB2.out|exact below_drewN' HB2.out _⟩
    case measure=>simp[intOf];omega
   ·have hk0':¬(0:Int)<(k:Int):=by omega
    clear hx hpw hbw hX hv hz hal;go_upto_region 6 with (fail);clear c0 c1 c2 c3;generalize wr.alloc (.cells #[.string (fu x.name),.bool x.dir,.int .u64 (x.dg.1.toNat:Int),.int .u64 (x.dg.2.toNat:Int)] 155)=w1 at *;go_wp2_with fail;refine(CV.out _).mono ?_;rintro e w1 ⟨rfl,rfl⟩;go_wp2;go_quiet (fail);go_wp2;go_roundw
    case rel=>exact⟨k+1,by omega,by go_num,by first|exact HB2.out|exact below_drewN' HB2.out _⟩
    case measure=>simp[intOf];omega
  ·obtain rfl:k=l.length:=by omega
   have hlt':¬(l.length:Int)<(l.length:Int):=by omega
   go_wp2;go_ret;exact⟨rfl,HB.out⟩
end Go.Proofs.YtichfhpgdhdiaaaGreat
namespace Go.Proofs.YtichfhpgdhdiaaaGreat
open Go.RowKit
theorem ZV{w:World}{A:Option Addr}{n c:Nat}{l:List Dg}(h:qi w (.slice A n c) l){i:Nat}(hi:i≤n):qi w (.slice A i c) (l.take i):=by
 have:=Sl.sliced h (i:=0) (j:=i) fZ hi;simp only[eP,dY]at this;unfold Go.sliced at this;rw[eP,eP]at this;have hA:(if c=0 then A else A.map (·.add (0*2)))=A:=by
  split
  ·rfl
  ·cases A with
   |none=>rfl
   |some a =>
    obtain⟨b,o,s⟩:=a;cases s<;>rfl
 rw[hA]at this;exact this
theorem Xy{x y:Dg}(h:x≠y):((x.1.toNat:Int)==(y.1.toNat:Int)&&(x.2.toNat:Int)==(y.2.toNat:Int))=false:=by
 rw[xG,decide_eq_false h]
theorem LC(w:World)(v:Value)(l:List Dg)(d:Dg)(h:qi w v l)(hd:d∉l)(hl:l.length≤1000000):
  Calls prog 167 #[v,.agg #[.int .u64 (d.1.toNat:Int),.int .u64 (d.2.toNat:Int)]] w (fun e w'=>e=.returned (.int .i64 (-1))∧Below w.heap.size w w'):=by
 obtain⟨A,c,rfl,hc,hm⟩:=h.form;have hal:=(ah w.heap.size w).alloc (ak _) (.cells #[.int .u64 (d.1.toNat:Int),.int .u64 (d.2.toNat:Int)] 39);have HB:=af hal;have HX:=af (gV.new w #[.int .u64 (d.1.toNat:Int),.int .u64 (d.2.toNat:Int)] 39);have HP:=af (h.keep (dO hal));have HD:=af hd;clear h hd hal;go_enter func167,ntmps167;go_wp2;generalize hw2:w.alloc (.cells #[.int .u64 (d.1.toNat:Int),.int .u64 (d.2.toNat:Int)] 39)=w2 at *
 clear hw2;go_loopw [8] (fun iv wr=>∃k:Nat,k≤l.length∧iv=.int .i64 k∧Below w2.heap.size w2 wr) (fun iv _=>l.length-(intOf iv).toNat)
 case atStart=>exact⟨0,by omega,rfl,ah _ _⟩
 case round =>
  obtain⟨k,hk,rfl,hbw⟩:=hrel;have o8:=af hbw;by_cases hlt:k<l.length
  ·obtain⟨x,hx⟩:∃x,l[k]?=some x:=⟨_,au hlt⟩;obtain⟨b1,o1,rfl,c0,c1⟩:=(HP.out.keep (dO hbw)).get hx;have hX:=HX.out.keep hbw;have x0:=hX.cl 0;have x1:=hX.cl 1;have hlt':(k:Int)<(l.length:Int):=by omega
   have hne:=Xy (x:=d) (y:=x) (fun e=>HD.out (by rw[e];exact aV hx));clear hx hbw hX;go_wp2;go_quiet (fail);go_wp2;go_roundw
   case rel=>exact⟨k+1,by omega,by go_num,by first|exact o8.out|exact below_drewN' o8.out _⟩
   case measure=>simp[intOf];omega
  ·have hlt':¬(k:Int)<(l.length:Int):=by omega
   have HN:=(hTr HB hbw);clear hbw;go_wp2;go_ret;exact⟨rfl,HN.out⟩
theorem EJ(w:World)(v:Value)(l:List Dg)(d:Dg)(h:qi w v l)(hd:d∉l)(hl:l.length≤1000000):
  Calls prog 151 #[v,.agg #[.int .u64 (d.1.toNat:Int),.int .u64 (d.2.toNat:Int)]] w (fun e w'=>e=.returned (.bool false)∧Below w.heap.size w w'):=by
 have hal:=(ah w.heap.size w).alloc (ak _) (.cells #[.int .u64 (d.1.toNat:Int),.int .u64 (d.2.toNat:Int)] 39);have HB:=af hal;have hX:=gV.new w #[.int .u64 (d.1.toNat:Int),.int .u64 (d.2.toNat:Int)] 39;have x0:=hX.cl 0;have x1:=hX.cl 1;have CI:=af (LC _ v l d (h.keep (dO hal)) hd hl);clear h hd hal hX;go_enter func151,ntmps151;go_wp2_with fail;refine CI.out.mono ?_;rintro e w2 ⟨rfl,hb2⟩;have HN:=(hTr HB hb2)
 clear hb2 x0 x1;go_wp2;go_ret;exact⟨rfl,HN.out⟩
theorem I9(W:World)(o:Ob)(eA:Option Addr)(en ec:Nat)(v:Value)(h:qi W v o.gU)(ho:acG o):
  Calls prog 124 #[.agg (je o (.slice eA en ec) v)] W (R7 W):=by
 obtain⟨pA,pc,rfl,hc,hm⟩:=h.form;obtain⟨g1,g2,g3,g4,g5,g6,g7,g8⟩:=ho;unfold je;have hal:=(ah W.heap.size W).alloc (ak _) (.cells #[.int .i64 o.kind,.string (fu o.data),.slice eA en ec,.int .u64 (o.tree.1.toNat:Int),.int .u64 (o.tree.2.toNat:Int),.slice pA o.gU.length pc,.string (fu o.gM),.int .i64 o.time,.string (fu o.msg)] 44);have HB:=af hal;have HX:=af (gV.new W #[.int .i64 o.kind,.string (fu o.data),.slice eA en ec,.int .u64 (o.tree.1.toNat:Int),.int .u64 (o.tree.2.toNat:Int),.slice pA o.gU.length pc,.string (fu o.gM),.int .i64 o.time,.string (fu o.msg)] 44)
 have HP:=af (h.keep (dO hal));have hz:=Uk g1;have HZ:=af g3;have HND:=af g4;have CV:=af (fun w'=>GD o.gM g5 w');have k2:¬(8:Int)<(o.gU.length:Int):=by omega
 have k6:¬o.time<0:=by omega
 have k7:¬(1099511627776:Int)<o.time:=by omega
 have k8:¬(200:Int)<(o.msg.length:Int):=by omega
 have hms:(fu o.msg).size=o.msg.length:=gL _;obtain⟨q0,q1,q2,q3,q4,q5,q6,q7,q8⟩:=iB HX.out;clear h g1 g3 g4 g5 g6 g7 g8 hal;go_enter func124,ntmps124;go_wp2;clear q0 q1 q2 q3 q4 q5 q6 q7 q8 hz k2;generalize hw2:W.alloc (.cells #[.int .i64 o.kind,.string (fu o.data),.slice eA en ec,.int .u64 (o.tree.1.toNat:Int),.int .u64 (o.tree.2.toNat:Int),.slice pA o.gU.length pc,.string (fu o.gM),.int .i64 o.time,.string (fu o.msg)] 44)=w2 at *;have hs2:W.heap.size+1=w2.heap.size:=by rw[←hw2];simp
 clear hw2;have HS2:=af hs2;clear hs2;go_loopw [16] (fun iv wr=>∃k:Nat,k≤o.gU.length∧iv=.int .i64 k∧Below w2.heap.size w2 wr) (fun iv _=>o.gU.length-(intOf iv).toNat)
 case atStart=>exact⟨0,by omega,rfl,ah _ _⟩
 case round =>
  obtain⟨k,hk,rfl,hbw⟩:=hrel;have o8:=af hbw;by_cases hlt:k<o.gU.length
  ·obtain⟨x,hx⟩:∃x,o.gU[k]?=some x:=⟨_,au hlt⟩;have hp:=HP.out.keep (dO hbw);obtain⟨b1,o1,rfl,c0,c1⟩:=hp.get hx;have hlt':(k:Int)<(o.gU.length:Int):=by omega
   have hz:=Uk (HZ.out x (aV hx));have hal:=(ah wr.heap.size wr).alloc (ak _) (.cells #[.int .u64 (x.1.toNat:Int),.int .u64 (x.2.toNat:Int)] 39);have ZW:=hbw.trans (hal.mono hbw.size);have QO:=af (gV.new wr #[.int .u64 (x.1.toNat:Int),.int .u64 (x.2.toNat:Int)] 39);have nG:=af (HX.out.keep ZW);have HDT:=af (ZV (hp.keep (dO hal)) (i:=k) hk);have HBY:=af ZW;have hnm:x∉o.gU.take k:=fun hm=>by
    obtain⟨j,hj⟩:=bU hm;have hjl:=(ay.1 hj).1;rw[aH]at hjl;rw[List.getElem?_take_of_lt fZ ]at hj;have:=(List.getElem?_inj fZ HND.out).1 (hj.trans hx.symm);omega
   have CC:=af (fun U (hW:qi U (.slice (some ⟨b1,o1,none⟩) k pc) (o.gU.take k))=>EJ U _ _ x hW hnm (by rw[aH];omega));have x0:=QO.out.cl 0;have x1:=QO.out.cl 1;have alK:k≤pc:=by omega
   have alL:(k:Int)≤(pc:Int):=by omega
   clear hx hp hal ZW hbw hnm;go_upto_region 8 with (fail);clear c0 c1;generalize wr.alloc (.cells #[.int .u64 (x.1.toNat:Int),.int .u64 (x.2.toNat:Int)] 39)=wy at *;go_upto_region 10 with (fail);clear x0 x1 hz;refine iN gB 6 (fun i v w=>match i with
    |0=>v=.pointer (some ⟨W.heap.size,5,none⟩)
    |1=>v=.slice (some ⟨b1,o1,none⟩) o.gU.length pc
    |2=>v=.int .i64 (k:Int)
    |3=>v=.slice (some ⟨b1,o1,none⟩) k pc
    |4=>v=.agg #[.int .u64 (x.1.toNat:Int),.int .u64 (x.2.toNat:Int)]
    |_=>v=.bool false) 0 gB (fun i v w w' h hb=>?_) ?_ ?_
   ·exact PH
   ·rintro i o hi ho a w1 hdf hlen hold hbel gK K hK;clear hdf;have hk:=(gH wy).trans hbel;have hBb:=(nG.out.keep (gH _)).keep hbel;have hq:=hBb.cl 5;have hDb:=(QO.out.keep (gH _)).keep hbel;have d0:=hDb.cl 0;have d1:=hDb.cl 1;have hkc:=dO hk;have s1:=kZ hold 1 (.pointer (some ⟨W.heap.size,0,none⟩));have s3:=kZ hold 3 (.int .i64 (k:Int));have s4:=kZ hold 4 (.pointer (some ⟨wr.heap.size,0,none⟩));have hi':i=0∨i=1∨i=2∨i=3∨i=4∨i=5:=by omega
    rcases hi' with rfl|rfl|rfl|rfl|rfl|rfl<;>obtain rfl:=aB ho
    ·exact iJ s1
    ·exact iJ (iq gK 0 24)
    ·exact iJ s3
    ·exact yM (iq gK 1 25) (iq gK 2 26)
    ·exact iJ s4
    ·refine sM (iq gK 3 27) (iq gK 4 28) ?_;refine(CC.out w1 (HDT.out.keep hkc)).mono ?_;rintro e' w4 ⟨rfl,hb4⟩;exact hK _ w4 rfl hb4
   ·rintro a w1 hdf hlen hold hbel hnew;have e29:=qH hnew 5 29;simp only at e29;obtain⟨uq,hu,hact⟩:=kL [24,25,26,27,28,29] hdf hlen hold;simp only[hu]at e29;simp only[List.foldl,e29,SA]at hact;clear hdf hlen hold hnew e29 hu;subst hact;refine iP ?_;have HN:=af (HBY.out.trans (((gH _).trans hbel).mono HBY.out.size));clear hbel;go_wp2;go_roundw
    case rel=>exact⟨k+1,by omega,by go_num,HN.out⟩
    case measure=>simp[intOf];omega
  ·have hlt':¬(k:Int)<(o.gU.length:Int):=by omega
   have HN:=(hTr HB hbw);obtain⟨q0,q1,q2,q3,q4,q5,q6,q7,q8⟩:=iB (HX.out.keep hbw);clear hbw;go_wp2_with fail;refine(CV.out _).mono ?_;rintro e w1 ⟨rfl,rfl⟩;go_wp2;go_ret;exact⟨rfl,HN.out⟩
end Go.Proofs.YtichfhpgdhdiaaaGreat
namespace Go.Proofs.YtichfhpgdhdiaaaGreat
open Go.RowKit
theorem LD(w:World)(o:Ob)(ve vp:Value)(h:wU w ve vp o)(ho:Cw o):
  Calls prog 69 #[.agg (je o ve vp)] w (R7 w):=by
 obtain⟨kind,data,gW,tree,gU,gM,time,msg⟩:=o;obtain⟨yG,yH⟩:=h;obtain⟨eA,ec,rfl,he1,he2⟩:=yG.form;obtain⟨pA,pc,rfl,hp1,hp2⟩:=yH.form;unfold je;simp only at *;have HK:=af ((ah w.heap.size w).alloc (ak _) (.cells #[.int .i64 kind,.string (fu data),.slice eA gW.length ec,.int .u64 (tree.1.toNat:Int),.int .u64 (tree.2.toNat:Int),.slice pA gU.length pc,.string (fu gM),.int .i64 time,.string (fu msg)] 44));have HB:=af (gV.new w #[.int .i64 kind,.string (fu data),.slice eA gW.length ec,.int .u64 (tree.1.toNat:Int),.int .u64 (tree.2.toNat:Int),.slice pA gU.length pc,.string (fu gM),.int .i64 time,.string (fu msg)] 44)
 have Fg:=af (yG.keep (dO HK.out));have Fh:=af (yH.keep (dO HK.out));clear yG yH;obtain⟨q0,q1,q2,q3,q4,q5,q6,q7,q8⟩:=iB HB.out;have CE:=af (fun w' (k:Keeps _ w')=>FI w' (.slice eA gW.length ec) gW (Fg.out.keep k));have CC:=fun w' (k:Keeps _ w')=>I9 w' (⟨kind,data,gW,tree,gU,gM,time,msg⟩:Ob) eA gW.length ec (.slice pA gU.length pc) (Fh.out.keep k)
 unfold je at CC;simp only at CC;have CC:=af CC;have hal:=ah (w.alloc (.cells #[.int .i64 kind,.string (fu data),.slice eA gW.length ec,.int .u64 (tree.1.toNat:Int),.int .u64 (tree.2.toNat:Int),.slice pA gU.length pc,.string (fu gM),.int .i64 time,.string (fu msg)] 44)).heap.size (w.alloc (.cells #[.int .i64 kind,.string (fu data),.slice eA gW.length ec,.int .u64 (tree.1.toNat:Int),.int .u64 (tree.2.toNat:Int),.slice pA gU.length pc,.string (fu gM),.int .i64 time,.string (fu msg)] 44));have HKR:=af (dO hal);clear hal
 go_enter func69,ntmps69;go_upto_region 1 with (fail);generalize w.alloc (.cells #[.int .i64 kind,.string (fu data),.slice eA gW.length ec,.int .u64 (tree.1.toNat:Int),.int .u64 (tree.2.toNat:Int),.slice pA gU.length pc,.string (fu gM),.int .i64 time,.string (fu msg)] 44)=w1 at *;rcases ho with ⟨hkd,jd,hno,Rk⟩|⟨hkd,jd,iQ,hco⟩|⟨hkd|hkd,h3⟩
 ·simp only at hkd jd hno Rk;have CE':=af (CE.out _ HKR.out Rk);clear Rk CC CE;have b1:(kind==1)=false:=by rw[hkd];rfl
  have b2:(kind==2)=true:=by rw[hkd];rfl
  have b3:(kind==3)=false:=by rw[hkd];rfl
  have b4:(kind==4)=false:=by rw[hkd];rfl
  clear hkd;have EH:((fu data).toList==[])=true:=by rw[jd,gQ];rfl
  have ZX:((fu data).toList != [])=false:=by rw[jd,gQ];rfl
  have ZY:(fu data).toList.isEmpty=true:=by rw[jd,gQ];rfl
  clear jd;obtain⟨lY,jw,iH,jy,jR⟩:=hno;simp only at lY jw iH jy jR;have t1:((tree.1.toNat:Int)==0)=true:=by rw[lY];rfl
  have t2:((tree.2.toNat:Int)==0)=true:=by rw[lY];rfl
  have t3:((tree.1.toNat:Int) != 0)=false:=by rw[lY];rfl
  have t4:((tree.2.toNat:Int) != 0)=false:=by rw[lY];rfl
  have Bo:¬(0:Int)<(gU.length:Int):=by rw[jw];simp
  have Pn:¬0<gU.length:=by rw[jw];simp
  have Bp:(time==0)=true:=by rw[jy];rfl
  have Ul:(time != 0)=false:=by rw[jy];rfl
  clear lY jw jy;have sZ:((fu gM).toList==[])=true:=by rw[iH,gQ];rfl
  have LF:((fu gM).toList != [])=false:=by rw[iH,gQ];rfl
  have LG:(fu gM).toList.isEmpty=true:=by rw[iH,gQ];rfl
  clear iH;have GH:((fu msg).toList==[])=true:=by rw[jR,gQ];rfl
  have YE:((fu msg).toList != [])=false:=by rw[jR,gQ];rfl
  have YF:(fu msg).toList.isEmpty=true:=by rw[jR,gQ];rfl
  clear jR;go_wp2_with fail;refine CE'.out.mono ?_;rintro e w3 ⟨rfl,hb⟩;have HN:=(hTr HK hb);clear hb;go_wp2;go_ret;exact⟨rfl,HN.out⟩
 ·simp only at hkd jd iQ;have Cc:=af (CC.out _ HKR.out hco);have htr:=af hco.1;simp only at htr;clear hco CC CE;have Br:¬(0:Int)<(gW.length:Int):=by rw[iQ];simp
  have Po:¬0<gW.length:=by rw[iQ];simp
  clear iQ;have b1:(kind==1)=false:=by rw[hkd];rfl
  have b2:(kind==2)=false:=by rw[hkd];rfl
  have b3:(kind==3)=true:=by rw[hkd];rfl
  have b4:(kind==4)=false:=by rw[hkd];rfl
  clear hkd;have EH:((fu data).toList==[])=true:=by rw[jd,gQ];rfl
  have ZX:((fu data).toList != [])=false:=by rw[jd,gQ];rfl
  have ZY:(fu data).toList.isEmpty=true:=by rw[jd,gQ];rfl
  clear jd;by_cases u1:tree.1=0
  ·have u2:tree.2≠0:=fun u2=>htr.out (dP u1 u2)
   have t1:((tree.1.toNat:Int)==0)=true:=by rw[u1];rfl
   have t3:((tree.1.toNat:Int) != 0)=false:=by rw[u1];rfl
   have t2:((tree.2.toNat:Int)==0)=false:=by rw[beq_eq_false_iff_ne];exact fun h=>u2 (mo.1 h)
   have t4:((tree.2.toNat:Int) != 0)=true:=by rw[bne_iff_ne];exact fun h=>u2 (mo.1 h)
   clear u1 u2;go_wp2_with fail;refine Cc.out.mono ?_;rintro e w3 ⟨rfl,hb⟩;have HN:=(hTr HK hb);clear hb;go_wp2;go_ret;exact⟨rfl,HN.out⟩
  ·have t1:((tree.1.toNat:Int)==0)=false:=by rw[beq_eq_false_iff_ne];exact fun h=>u1 (mo.1 h)
   have t3:((tree.1.toNat:Int) != 0)=true:=by rw[bne_iff_ne];exact fun h=>u1 (mo.1 h)
   clear u1;go_wp2_with fail;refine Cc.out.mono ?_;rintro e w3 ⟨rfl,hb⟩;have HN:=(hTr HK hb);clear hb;go_wp2;go_ret;exact⟨rfl,HN.out⟩
 ·simp only at hkd h3;clear CC CE;have b1:(kind==1)=true:=by rw[hkd];rfl
  have b2:(kind==2)=false:=by rw[hkd];rfl
  have b3:(kind==3)=false:=by rw[hkd];rfl
  have b4:(kind==4)=false:=by rw[hkd];rfl
  clear hkd;obtain⟨iQ,hno,hdl⟩:=h3;have Br:¬(0:Int)<(gW.length:Int):=by rw[iQ];simp
  have Po:¬0<gW.length:=by rw[iQ];simp
  clear iQ;obtain⟨lY,jw,iH,jy,jR⟩:=hno;simp only at lY jw iH jy jR;have t1:((tree.1.toNat:Int)==0)=true:=by rw[lY];rfl
  have t2:((tree.2.toNat:Int)==0)=true:=by rw[lY];rfl
  have t3:((tree.1.toNat:Int) != 0)=false:=by rw[lY];rfl
  have t4:((tree.2.toNat:Int) != 0)=false:=by rw[lY];rfl
  have Bo:¬(0:Int)<(gU.length:Int):=by rw[jw];simp
  have Pn:¬0<gU.length:=by rw[jw];simp
  have Bp:(time==0)=true:=by rw[jy];rfl
  have Ul:(time != 0)=false:=by rw[jy];rfl
  clear lY jw jy;have sZ:((fu gM).toList==[])=true:=by rw[iH,gQ];rfl
  have LF:((fu gM).toList != [])=false:=by rw[iH,gQ];rfl
  have LG:(fu gM).toList.isEmpty=true:=by rw[iH,gQ];rfl
  clear iH;have GH:((fu msg).toList==[])=true:=by rw[jR,gQ];rfl
  have YE:((fu msg).toList != [])=false:=by rw[jR,gQ];rfl
  have YF:(fu msg).toList.isEmpty=true:=by rw[jR,gQ];rfl
  clear jR;go_wp2;go_ret;exact⟨rfl,HK.out⟩
 ·simp only at hkd h3;clear CC CE;have b1:(kind==1)=false:=by rw[hkd];rfl
  have b2:(kind==2)=false:=by rw[hkd];rfl
  have b3:(kind==3)=false:=by rw[hkd];rfl
  have b4:(kind==4)=true:=by rw[hkd];rfl
  clear hkd;obtain⟨iQ,hno,hdl⟩:=h3;have Br:¬(0:Int)<(gW.length:Int):=by rw[iQ];simp
  have Po:¬0<gW.length:=by rw[iQ];simp
  clear iQ;obtain⟨lY,jw,iH,jy,jR⟩:=hno;simp only at lY jw iH jy jR;have t1:((tree.1.toNat:Int)==0)=true:=by rw[lY];rfl
  have t2:((tree.2.toNat:Int)==0)=true:=by rw[lY];rfl
  have t3:((tree.1.toNat:Int) != 0)=false:=by rw[lY];rfl
  have t4:((tree.2.toNat:Int) != 0)=false:=by rw[lY];rfl
  have Bo:¬(0:Int)<(gU.length:Int):=by rw[jw];simp
  have Pn:¬0<gU.length:=by rw[jw];simp
  have Bp:(time==0)=true:=by rw[jy];rfl
  have Ul:(time != 0)=false:=by rw[jy];rfl
  clear lY jw jy;have sZ:((fu gM).toList==[])=true:=by rw[iH,gQ];rfl
  have LF:((fu gM).toList != [])=false:=by rw[iH,gQ];rfl
  have LG:(fu gM).toList.isEmpty=true:=by rw[iH,gQ];rfl
  clear iH;have GH:((fu msg).toList==[])=true:=by rw[jR,gQ];rfl
  have YE:((fu msg).toList != [])=false:=by rw[jR,gQ];rfl
  have YF:(fu msg).toList.isEmpty=true:=by rw[jR,gQ];rfl
  clear jR;go_wp2;go_ret;exact⟨rfl,HK.out⟩
end Go.Proofs.YtichfhpgdhdiaaaGreat
namespace Go.Proofs.YtichfhpgdhdiaaaGreat
def iC(p:List It)(d:Dg):List UInt8:=match p.find? (fun x=>decide (x.1=d))with|some x=>x.2|none=>[]
theorem pO.uniq{p:List It}(hs:pO p){x y:It}(hx:x∈p)(hy:y∈p)(h:x.1=y.1):x=y:=by
 obtain⟨i,hi⟩:=bU hx;obtain⟨j,hj⟩:=bU hy;rcases eZ i j with k|k|k
 ·have:=hs.lt hi hj k;rw[h]at this;exact absurd this (mO _)
 ·subst k;rw[hi]at hj;exact aB hj
 ·have:=hs.lt hj hi k;rw[h]at this;exact absurd this (mO _)
theorem pK{p:List It}{d:Dg}(h:mD p d=true):(d,iC p d)∈p:=by
 obtain⟨x,hx,e⟩:=dS.1 (of_decide_eq_true h);unfold iC;cases hf:p.find? (fun x=>decide (x.1=d))with
 |none=>exact absurd e (by simpa using List.find?_eq_none.1 hf x hx)
 |some y =>
  have h1:=List.mem_of_find?_eq_some hf;have h2:y.1=d:=by simpa using List.find?_some hf
  rw[←h2];exact h1
theorem rP{p:List It}{x:It}(hx:x∈p):mD p x.1=true:=decide_eq_true (dS.2 ⟨x,hx,rfl⟩)
theorem ER{p:List It}(hs:pO p){x:It}(hx:x∈p):iC p x.1=x.2:=by
 have:=hs.uniq (pK (rP hx)) hx rfl;exact congrArg Prod.snd this
theorem GV{p:List It}{d:Dg}(h:mD p d=false):iC p d = []:=by
 unfold iC;cases hf:p.find? (fun x=>decide (x.1=d))with
 |none=>rfl
 |some y =>
  have h1:=List.mem_of_find?_eq_some hf;have h2:y.1=d:=by simpa using List.find?_some hf
  have:=rP h1;rw[h2,h]at this;cases this
theorem pO.sub{p q:List It}(hs:pO p)(h:q.Sublist p):pO q:=List.Pairwise.sublist h hs
theorem zR.keep{p:List It}(h:zR p)(l:List Dg):zR (jI p l):=⟨h.1.sub List.filter_sublist,fun x hx=>h.2 x (fU.1 hx).1⟩
theorem rO{p:List It}{l:List Dg}{x:It}:x∈jI p l↔x∈p∧x.1∈l:=by
 unfold jI;rw[fU,decide_eq_true_iff]
theorem vR(p:List It):jI p [] = []:=by unfold jI;simp
theorem Q0{p:List It}{l:List Dg}{d:Dg}:mD (jI p l) d=(mD p d&&decide (d∈l)):=by
 rw[fC];simp only[aK,decide_eq_true_iff];unfold mD;simp only[decide_eq_true_iff,dS];constructor
 ·rintro⟨x,hx,rfl⟩;obtain⟨h1,h2⟩:=rO.1 hx;exact⟨⟨x,h1,rfl⟩,h2⟩
 ·rintro⟨⟨x,hx,rfl⟩,h⟩;exact⟨x,rO.2 ⟨hx,h⟩,rfl⟩
theorem ES:∀{p q:List It},pO p→pO q→(∀x,x∈p↔x∈q)→p=q
 |[],[],_,_,_=>rfl
 |[],y::q,_,_,h=>absurd ((h y).2 gu ) gu
 |x::p,[],_,_,h=>absurd ((h x).1 gu ) gu
 |x::p,y::q,hp,hq,h=>by
  have hp':=List.pairwise_cons.1 hp;have hq':=List.pairwise_cons.1 hq;have e:x=y:=by
   rcases bC.1 ((h x).1 gu )with e|e
   ·exact e
   ·rcases bC.1 ((h y).2 gu )with e'|e'
    ·exact e'.symm
    ·exact absurd (hp'.1 y e') (Gh (hq'.1 x e))
  subst e;congr 1;refine ES hp'.2 hq'.2 fun z=>⟨fun hz=>?_,fun hz=>?_⟩
  ·rcases bC.1 ((h z).1 (by simp[hz]))with e|e
   ·exact absurd (hp'.1 z hz) (e▸mO _)
   ·exact e
  ·rcases bC.1 ((h z).2 (by simp[hz]))with e|e
   ·exact absurd (hq'.1 z hz) (e▸mO _)
   ·exact e
theorem ET{p:List It}{x y:It}:y∈FQ p x↔y=x∨y∈p:=by
 unfold FQ;simp only[bq,fU,dw];constructor
 ·rintro((⟨h,_⟩|h)|⟨h,_⟩)
  ·exact .inr h
  ·exact .inl h
  ·exact .inr h
 ·rintro(h|h)
  ·exact .inl (.inr h)
  ·cases hd:decide (kV y.1 x.1)
   ·exact .inr ⟨h,by simp[hd]⟩
   ·exact .inl (.inl ⟨h,rfl⟩)
theorem GZ{p:List It}{x:It}(hs:pO p)(h:mD p x.1=false):pO (FQ p x):=by
 have hn:∀y∈p,y.1≠x.1:=fun y hy e=>by have:=rP hy;rw[e,h]at this;cases this
 unfold FQ pO;rw[aA,List.pairwise_append];refine⟨hs.sub List.filter_sublist,List.pairwise_append.2 ⟨List.pairwise_singleton _ _,hs.sub List.filter_sublist,?_⟩,?_⟩
 ·intro a ha b hb;obtain rfl:=dw.1 ha;obtain⟨h1,h2⟩:=fU.1 hb;have h3:¬kV b.1 a.1:=by simpa using h2
  rcases d9 (kV a.1 b.1)with h4|h4
  ·exact h4
  ·exact absurd (DY h3 h4) (hn b h1)
 ·intro a ha b hb;obtain⟨h1,h2⟩:=fU.1 ha;have h3:kV a.1 x.1:=by simpa using h2
  rcases bq.1 hb with hb|hb
  ·obtain rfl:=dw.1 hb;exact h3
  ·obtain⟨h5,h6⟩:=fU.1 hb;have h7:¬kV b.1 x.1:=by simpa using h6
   rcases d9 (kV x.1 b.1)with h4|h4
   ·exact uj h3 h4
   ·rw[DY h7 h4];exact h3
theorem Q5{p:List It}{x:It}(h:zR p)(hx:Q6 x)(hr:(nQ p x).2=0):zR (nQ p x).1∧∀y,y∈(nQ p x).1↔y=x∨y∈p:=by
 unfold nQ at *;split at hr
 ·rename_i hh
  rw[if_pos hh];split at hr
  ·rename_i hm
   rw[if_pos hm];exact⟨h,fun y=>⟨.inr,fun e=>e.elim (fun e=>e▸hm) id⟩⟩
  ·simp at hr
 ·rename_i hh
  rw[if_neg hh];exact⟨⟨GZ h.1 (by simpa using hh),fun y hy=>(ET.1 hy).elim (fun e=>e▸hx) (h.2 y)⟩,fun y=>ET⟩
theorem QU{p:List It}(h:zR p)(l:List Dg){x:It}(hx:x∈p):nQ (jI p l) x=(jI p (l++[x.1]),0):=by
 unfold nQ;have hmem:∀y,y∈jI p (l++[x.1])↔y=x∨y∈jI p l:=fun y=>by
  rw[rO,rO,bq,dw];constructor
  ·rintro⟨h1,h2|h2⟩
   ·exact .inr ⟨h1,h2⟩
   ·exact .inl (h.1.uniq h1 hx h2)
  ·rintro(rfl|⟨h1,h2⟩)
   ·exact⟨hx,.inr rfl⟩
   ·exact⟨h1,.inl h2⟩
 by_cases hl:x.1∈l
 ·have hk:x∈jI p l:=rO.2 ⟨hx,hl⟩;rw[if_pos (rP hk),if_pos hk];refine dP (ES (h.keep _).1 (h.keep _).1 fun y=>?_) rfl;rw[hmem];exact⟨.inr,fun e=>e.elim (fun e=>e▸hk) id⟩
 ·have hf:mD (jI p l) x.1=false:=by
   rw[Q0,decide_eq_false hl,Bool.and_false]
  rw[if_neg (by rw[hf];exact Bool.false_ne_true)];refine dP (ES (GZ (h.keep _).1 hf) (h.keep _).1 fun y=>?_) rfl;rw[hmem,ET]
structure lZ where
 has:Bool
 base:Dg
 delta:List UInt8
 size:Int
def mG(p:List It)(s d:Dg):List UInt8:=(nK (nT (iC p s) (iC p d))).1
def FP(p:List It)(l base:List Dg)(d:Dg)(i:Nat)(c:lZ):Prop:=c.has=true→(c.base∈base∨∃j,j<i∧l[j]?=some c.base)∧c.delta=mG p c.base d∧c.size=wQ c.delta.length
def vP(p:List It)(l base:List Dg)(d:Dg)(i:Nat)(c:lZ):Prop:=FP p l base d i c∧(c.has=true→wQ c.delta.length+16<wQ (iC p d).length)
def xP(p:List It)(d:Dg)(c:lZ):List UInt8:=jb d++(if c.has then gJ 1++jb c.base++(gJ c.delta.length++c.delta)else gJ 0++(gJ (iC p d).length++iC p d))
def uS(p:List It)(l:List Dg)(cs:List lZ):List UInt8:=gJ l.length++(l.zip cs).flatMap fun x=>xP p x.1 x.2
def nH(p:List It)(l:List Dg)(cs:List lZ):List UInt8:=uS p l cs++jb (jJ (uS p l cs))
def YK(p:List It)(l base:List Dg)(s:List UInt8):Prop:=∃cs:List lZ,cs.length=l.length∧(∀i d c,l[i]?=some d→cs[i]?=some c→vP p l base d i c)∧s=nH p l cs
def xB(p:List It)(l base:List Dg):Prop:=l.length≤1000∧l.Nodup∧(∀d∈l,mD p d=true)∧∀d∈base,mD p d=true
theorem Q7:∀(n m:Nat),n≤m→(gJ n).length≤(gJ m).length:=by
 intro n
 induction n using Nat.strongRecOn with
 |ind n ih =>
  intro m h;by_cases h1:n<128
  ·rw[kK h1];exact nA m
  ·rw[nU h1,nU (show ¬m<128 by omega)];have:=ih (n/128) fZ (m/128) fZ ;simp only[aI];omega
theorem Uq{n m:Nat}(h:wQ n<wQ m):n<m:=by
 unfold wQ at h;rcases aP n m with k|k
 ·exact k
 ·have:=Q7 m n k;omega
theorem Q6.len{x:It}(h:Q6 x):x.2.length≤65536:=by
 obtain⟨⟨o,_,h1,h2⟩,_⟩:=h;rw[h2];exact h1
theorem qg{p:List It}(h:zR p)(d:Dg):(iC p d).length≤65536:=by
 cases hh:mD p d with
 |true=>exact(h.2 _ (pK hh)).len
 |false=>rw[GV hh];simp
theorem Pv{p:List It}(h:zR p)(s d:Dg):nK (nT (iC p s) (iC p d))=(mG p s d,0)∧vZ (mG p s d)=(nT (iC p s) (iC p d),0)∧xR (iC p s) (nT (iC p s) (iC p d))=(iC p d,0):=by
 obtain⟨_,h2,_,h4⟩:=MJ (iC p s) (iC p d) (qg h s) (qg h d);have e:nK (nT (iC p s) (iC p d))=(mG p s d,0):=by
  unfold mG nK;rw[if_pos h2]
 exact⟨e,JN e,h4⟩
theorem XW{p:List It}{l base:List Dg}{d:Dg}{i:Nat}{c:lZ}(h:vP p l base d i c):(xP p d c).length≤17+wQ (iC p d).length:=by
 have e0:(gJ 0).length=1:=by rw[kK fZ ];rfl
 have e1:(gJ 1).length=1:=by rw[kK fZ ];rfl
 unfold xP;cases hc:c.has with
 |true =>
  have:=h.2 hc;simp only[if_true,aj,jh,e1];unfold wQ at *;omega
 |false =>
  simp only[Bool.false_eq_true,if_false,aj,jh,e0];unfold wQ;omega
theorem yL{p:List It}{l0 base:List Dg}{m:Nat}:∀(l:List Dg) (cs:List lZ) (i0:Nat),(∀i d c,l[i]?=some d→cs[i]?=some c→vP p l0 base d (i0+i) c)→(∀d∈l,wQ (iC p d).length≤m)→((l.zip cs).flatMap fun x=>xP p x.1 x.2).length≤l.length*(17+m)
 |[],_,_,_,_=>by simp
 |d::l,[],_,_,_=>by simp
 |d::l,c::cs,i0,h,hm=>by
  have h1:=XW (h 0 d c rfl rfl);have h2:=hm d gu ;have h3:=yL l cs (i0+1) (fun i d' c' hd hc=>by have:=h (i+1) d' c' (by simpa using hd) (by simpa using hc);rwa [fM,Nat.add_comm 1 i]) (fun d' hd=>hm d' (by simp[hd]));rw[List.zip_cons_cons,aG,aj,aI,dx,Nat.one_mul];simp only;omega
theorem zU{n k:Nat}(h:n<128^(k+1)):(gJ n).length≤k+1:=ja n k h
theorem YK.len{p:List It}{l base:List Dg}{s:List UInt8}(h:YK p l base s)(hl:l.length≤1000){m:Nat}(hm:∀d∈l,(iC p d).length≤m)(hm2:m≤65536):s.length≤18+l.length*(20+m):=by
 obtain⟨cs,h1,h2,rfl⟩:=h;have h3:=yL (m:=3+m) l cs 0 (fun i d c hd hc=>by rw[bH];exact h2 i d c hd hc) (fun d hd=>by
  have a:=hm d hd;have b:=zU (n:=(iC p d).length) (k:=2) fZ ;unfold wQ;omega)
 have h4:=zU (n:=l.length) (k:=1) fZ ;unfold nH uS;simp only[aj,jh];have:17+(3+m)=20+m:=by omega
 rw[this]at h3;omega
end Go.Proofs.YtichfhpgdhdiaaaGreat
