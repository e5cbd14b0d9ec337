/- Packs -/
import Derived.Test.YtichfhpgdhdiaaaGreatJ45
import Derived.Test.YtichfhpgdhdiaaaGreatJ32
import Derived.Test.YtichfhpgdhdiaaaGreatJ3
import Derived.Test.YtichfhpgdhdiaaaGreatJ43
import Derived.Test.YtichfhpgdhdiaaaGreatJ6
import Derived.Test.YtichfhpgdhdiaaaGreatJ20
import Derived.Test.YtichfhpgdhdiaaaGreatJ9
import Derived.Test.YtichfhpgdhdiaaaGreatJ19
set_option maxRecDepth 100000
set_option maxHeartbeats 8000000
set_option linter.unusedVariables false
set_option linter.unusedSimpArgs false
open Go.Proofs.Tryz
namespace Go.Proofs.YtichfhpgdhdiaaaGreat
open Go.RowKit
theorem Og(L:List UInt8)(a n:Nat):(fu L).extract a (a+n)=fu ((L.drop a).take n):=by
 apply dX;rw[dF];simp[fu]
theorem QT{p:List It}{l:List Dg}{cs:List lZ}{k:Nat}{d:Dg}{c:lZ}(h:l[k]?=some d)(h2:cs[k]?=some c):
  (fu (nH p l cs)).extract (GK p d c (lq p l cs k).length).off ((GK p d c (lq p l cs k).length).off+(GK p d c (lq p l cs k).length).len)=fu (Fj p d c)∧(GK p d c (lq p l cs k).length).off+(GK p d c (lq p l cs k).length).len≤(fu (nH p l cs)).size:=by
 obtain⟨rest,hr⟩:=LV (p:=p) h h2;obtain⟨pre,hpre⟩:∃pre,xP p d c=pre++Fj p d c:=by
  unfold xP Fj;split
  ·exact⟨jb d++(gJ 1++jb c.base++gJ c.delta.length),by simp[aA]⟩
  ·exact⟨jb d++(gJ 0++gJ (iC p d).length),by simp[aA]⟩
 have hoff:(GK p d c (lq p l cs k).length).off=(lq p l cs k).length+pre.length:=by
  show (lq p l cs k).length+(xP p d c).length-(Fj p d c).length=_;rw[hpre,aj];omega
 have hlen:(GK p d c (lq p l cs k).length).len=(Fj p d c).length:=rfl;have h16:16≤(xP p d c).length:=by unfold xP;rw[aj,jh];omega
 rw[hpre,aj]at h16;have hL:=congrArg List.length hr;rw[aC,hpre,aj,aj]at hL;have hd:(nH p l cs).drop ((lq p l cs k).length+pre.length)=Fj p d c++(rest++jb (jJ (uS p l cs))):=by
  unfold nH;rw[fq fZ ,←bP,hr,hpre,aA,cK,aA]
 constructor
 ·rw[hoff,hlen,Og,hd,List.take_left]
 ·rw[hoff,hlen,gL];unfold nH;rw[aj];omega
theorem LY(w:World)(p:List It)(l base:List Dg)(cs:List lZ)(q:List It)(vq:Value)(g ib kb n i:Nat)(d:Dg)(c:lZ)(hR:MI p l cs q vq (fu (nH p l cs)) g ib kb n w)(hgt:∀j,j<i→XL p l cs q vq (fu (nH p l cs)) g ib kb j)(hi:n+i+1≤2000000)(hx:l[i]?=some d)(hcx:cs[i]?=some c)(hp:zR p)(ho:xB p l base)(hz:vP p l base d i c)(hbd:(uS p l cs).length≤66000000)(hq:∀b∈base,∃o,Cw o∧(jS o).length≤65536∧jS o=iC p b∧(b,jS o)∈q)(VL:zR q)(Ux:q.length≤1000000)(hkl:kb<w.heap.size):
  Calls prog 67 #[.pointer (some ⟨g,0,none⟩),.int .i64 (i:Int)] w (FdE p l cs q vq (fu (nH p l cs)) g ib kb d n i w):=by
 have yT:=af hR;have hg:=vQ (p:=p) hx hcx;obtain⟨hsl,hsb⟩:=QT (p:=p) hx hcx;obtain⟨hp1,hp2⟩:=zS (p:=p) (d:=d) (c:=c) (lq p l cs i).length;have hkd:(GK p d c (lq p l cs i).length).kind=if c.has then 1 else 0:=rfl;have CS:Hid (c.has=true→∀w n,MI p l cs q vq (fu (nH p l cs)) g ib kb n w→n+i+1≤2000000→kb<w.heap.size→Calls prog 120 #[.pointer (some ⟨g,0,none⟩),.int .i64 (i:Int)] w (FdE p l cs q vq (fu (nH p l cs)) g ib kb c.base n i w)):=fun hc w n h1 h2 h3 =>
  Od w p l base cs q vq _ g ib kb n i d c h1 hgt h2 hx hcx hc (hz.1 hc).1 ho.2.1 hq VL Ux h3
 obtain⟨s,hs⟩:∃s,s=fu (nH p l cs):=⟨_,rfl⟩;have ama:s.size≤66000016:=by rw[hs,gL];unfold nH;rw[aj,jh];omega
 rw[←hs]at hsl hsb yT CS hR ⊢;have Yk:(d,iC p d)∈p:=pK (ho.2.2.1 d (aV hx));obtain⟨⟨o,Nj,hol,hoe⟩,hde⟩:=hp.2 _ Yk;simp only at hoe hde;obtain⟨dd,hdd⟩:∃dd,dd=iC p d:=⟨_,rfl⟩;have HDD:Hid (iC p d=dd):=hdd.symm;have XF:=fun w=>tZ w o Nj hol
 rw[←hoe,←hdd]at XF;have CD:=af XF;have CO0:=fun w=>zq (fu dd) (by rw[gL,hdd];have:=qg hp d;omega) w
 simp only[iI]at CO0;have CO:=af CO0;have HQ:Hid ((((jJ dd).1.toNat:Int) != (d.1.toNat:Int)||((jJ dd).2.toNat:Int) != (d.2.toNat:Int))=false):=(LX _ _).trans (by rw[hdd,←hde];simp);have HTX:Hid (c.has=false→Fj p d c=dd):=fun h=>by unfold Fj;rw[h,hdd];rfl
 have acX:Hid (c.has=true→Fj p d c=mG p c.base d):=fun h=>by unfold Fj;rw[if_pos h];exact(hz.1 h).2.1
 have QO:=af (Pv hp c.base d);have HDB:=af (qg hp c.base);have htl:=Pq hp hz;have k0:=(ah w.heap.size w).alloc (ak _) (.cells #[.string ⟨#[]⟩,.int .i64 0] 91);have z0:(w.alloc (.cells #[.string ⟨#[]⟩,.int .i64 0] 91)).heap.size=w.heap.size+1:=by simp
 obtain⟨⟨AE,cE,hrd,hpe⟩,hpl,hi1,hi2,hi3⟩:=hR.below k0;clear hi1 hi2 hi3;obtain⟨be,oe,rfl,r0,r1,r2,r3,r4,r5,r6⟩:=hpe.get hg;generalize GK p d c (lq p l cs i).length=x at *;obtain⟨xd,xk,xb,xo,xl⟩:=x;simp only at hp1 hp2 hsl hsb hkd r0 r1 r2 r3 r4 r5 r6;replace hp1:=hp1.symm;subst hp1;have hil:=(ay.1 hx).1;have Uy:(i:Int)<(l.length:Int):=by omega
 have y1:=hrd.cl 1;have xC:=gV.new w #[.string ⟨#[]⟩,.int .i64 0] 91;have k1:=k0.alloc fZ (.cells #[.int .u64 (d.1.toNat:Int),.int .u64 (d.2.toNat:Int),.int .i64 (xk:Int),.int .u64 (xb.1.toNat:Int),.int .u64 (xb.2.toNat:Int),.int .i64 (xo:Int),.int .i64 (xl:Int)] 89);have HF:=af (xC.alloc (.cells #[.int .u64 (d.1.toNat:Int),.int .u64 (d.2.toNat:Int),.int .i64 (xk:Int),.int .u64 (xb.1.toNat:Int),.int .u64 (xb.2.toNat:Int),.int .i64 (xo:Int),.int .i64 (xl:Int)] 89));have hX:=gV.new (w.alloc (.cells #[.string ⟨#[]⟩,.int .i64 0] 91)) #[.int .u64 (d.1.toNat:Int),.int .u64 (d.2.toNat:Int),.int .i64 (xk:Int),.int .u64 (xb.1.toNat:Int),.int .u64 (xb.2.toNat:Int),.int .i64 (xo:Int),.int .i64 (xl:Int)] 89
 rw[z0]at hX;have HX:=af hX;have HB:=af k1;have HR:=af (hR.below k1);obtain⟨xe,hxe⟩:∃xe,xe=xo+xl:=⟨_,rfl⟩;have HXE:Hid (IntKind.i64.wrap ((xo:Int)+(xl:Int))=(xe:Int)):=by show _=_;rw[jo fZ fZ ];omega
 rw[←hxe]at hsl hsb;obtain⟨TX,Oh⟩:∃TX,TX=fu (Fj p d c):=⟨_,rfl⟩;rw[←Oh]at hsl;have HSL:=af hsl;have HS1:Hid (xo≤xe):=by show _≤_;omega
 have HS2:=af hsb;have acY:=af Oh;have MG:=af hkd;have hsz:((w.alloc (.cells #[.string ⟨#[]⟩,.int .i64 0] 91)).alloc (.cells #[.int .u64 (d.1.toNat:Int),.int .u64 (d.2.toNat:Int),.int .i64 (xk:Int),.int .u64 (xb.1.toNat:Int),.int .u64 (xb.2.toNat:Int),.int .i64 (xo:Int),.int .i64 (xl:Int)] 89)).heap.size=w.heap.size+2:=by simp
 clear hR hgt hg hp2 hkd hs Yk Nj hol hoe hde hdd XF CO0 k0 k1 hrd hpe hpl xC hX hxe Oh hsl hsb hx hcx hp ho hz hq VL Ux;go_enter func67,ntmps67;go_upto_region 1 with (fail);generalize hwa:w.alloc (.cells #[.string ⟨#[]⟩,.int .i64 0] 91)=wa at *;go_upto_region 2 with (fail);change Code.wp _ _ _ _ (wa.alloc (.cells #[.int .u64 (d.1.toNat:Int),.int .u64 (d.2.toNat:Int),.int .i64 (xk:Int),.int .u64 (xb.1.toNat:Int),.int .u64 (xb.2.toNat:Int),.int .i64 (xo:Int),.int .i64 (xl:Int)] 89))
 clear y1 r0 r1 r2 r3 r4 r5 r6 z0;subst hwa;generalize (w.alloc (.cells #[.string ⟨#[]⟩,.int .i64 0] 91)).alloc (.cells #[.int .u64 (d.1.toNat:Int),.int .u64 (d.2.toNat:Int),.int .i64 (xk:Int),.int .u64 (xb.1.toNat:Int),.int .u64 (xb.2.toNat:Int),.int .i64 (xo:Int),.int .i64 (xl:Int)] 89)=wr at *;refine iN gB 13 (fun i v ww=>match i with
  |0=>v=.pointer (some ⟨g,0,none⟩)
  |1=>v=.pointer (some ⟨g,0,none⟩)
  |2=>v=.pointer (some ⟨g,0,none⟩)
  |3=>v=.string s
  |4=>v=.pointer (some ⟨w.heap.size+1,5,none⟩)
  |5=>v=.int .i64 (xo:Int)
  |6=>v=.pointer (some ⟨w.heap.size+1,5,none⟩)
  |7=>v=.int .i64 (xo:Int)
  |8=>v=.pointer (some ⟨w.heap.size+1,6,none⟩)
  |9=>v=.int .i64 (xl:Int)
  |10=>v=.int .i64 (xe:Int)
  |11=>v=.string TX
  |_=>v=.string TX) 0 gB (fun i v w w' h hb=>?_) ?_ ?_
 ·exact PH
 ·rintro i o hi ho a w1 hdf hlen hold hbel gK K hK;clear hdf;have oW:=(gH wr).trans hbel;obtain⟨⟨AE,cE,hrd,_⟩,hpl,_,_,_⟩:=HR.out.below oW;have y0:=hrd.cl 0;obtain⟨x0,x1,x2,x3,x4,x5,x6⟩:=rM (HX.out.keep oW);have s0:=kZ hold 0 (.pointer (some ⟨g,0,none⟩));have s5:=kZ hold 5 (.pointer (some ⟨w.heap.size+1,0,none⟩));have hi':i=0∨i=1∨i=2∨i=3∨i=4∨i=5∨i=6∨i=7∨i=8∨i=9∨i=10∨i=11∨i=12:=by omega
  rcases hi' with rfl|rfl|rfl|rfl|rfl|rfl|rfl|rfl|rfl|rfl|rfl|rfl|rfl<;>obtain rfl:=aB ho
  ·exact iJ s0
  ·exact iJ (iq gK 0 19)
  ·exact iJ (iq gK 1 20)
  ·exact iJ (iq gK 2 21)
  ·exact iJ s5
  ·exact iJ (iq gK 4 23)
  ·exact iJ s5
  ·exact iJ (iq gK 6 25)
  ·exact iJ s5
  ·exact iJ (iq gK 8 27)
  ·refine sM (iq gK 7 26) (iq gK 9 28) ?_;exact hK _ w1 (congrArg (Value.int .i64) HXE.out) gD
  ·have e22:=iq gK 3 22;simp only at e22;have e24:=iq gK 5 24;simp only at e24;have e29:=iq gK 10 29;simp only at e29;have u1:=HSL.out;have u2:=HS1.out;have u3:=HS2.out;unfold Oper.wp;simp only[execOp,Act.eval,e22,e24,e29];go_simp;exact hK _ w1 rfl gD
  ·exact iJ (iq gK 11 30)
 ·rintro a w1 hdf hlen hold hbel hnew;have e6:=qH hnew 12 6;simp only at e6;obtain⟨uq,hu,hact⟩:=kL [19,20,21,22,23,24,25,26,27,28,29,30,6] hdf hlen hold;simp only[hu]at e6;simp only[List.foldl,e6,SA]at hact;clear hdf hlen hold hnew e6 hu;subst hact;refine iP ?_;have om:=(gH wr).trans hbel;have HR1:=af (HR.out.below om);have xC:=af (HF.out.keep om);have HB1:=(hTr HB om);have MC:=af (HX.out.keep om);have hs1:=om.size;clear hbel om HR HF HB HX HSL HS1 HS2 HXE;generalize w1=wr at *;have x2:=MC.out.cl 2;have hTE:=acY.out;have YJ:=MG.out;cases hc:c.has with
  |false =>
   rw[hc]at YJ;replace YJ:xk=0:=YJ;subst YJ;rw[HTX.out hc]at hTE;subst hTE;have HF:=xC;have HX:=MC;have HG:=af (nP (r:=some kb) HB1.out);have HK:=af HR1.out.XI;clear HR1 xC HB1 MC hc CS;go_upto_region 13 with (fail);clear x2;go_wp2_with fail;refine(CD.out wr).mono ?_;rintro e w2 ⟨A,n3,c3,A',n4,c4,rfl,hO,hb2⟩;have hb3:=hb2.alloc hb2.size (.cells (je o (.slice A n3 c3) (.slice A' n4 c4)) 44);have Cj:=af (HF.out.keep hb3);have mZ:=af (HX.out.keep hb3);have HG2:=af (HG.out.trans (nP (r:=some kb) hb3));have lG:Hid (∃f,xA (w2.alloc (.cells (je o (.slice A n3 c3) (.slice A' n4 c4)) 44)) kb n f∧∀i u,f i=some u→∃d,l[i]?=some d∧u=.agg #[.string (fu (iC p d)),.int .i64 0]):=by
    obtain⟨f,h1,h2⟩:=HK.out;exact⟨f,h1.keep hb3,h2⟩
   unfold je at *;clear hO hb2 hb3 HF HX HG HK CD;have HF:=Cj;have HX:=mZ;have HG:=HG2;have HK:=lG;clear Cj mZ HG2 lG;go_upto_region 16 with (fail);generalize w2.alloc (.cells #[.int .i64 o.kind,.string (fu o.data),.slice A n3 c3,.int .u64 (o.tree.1.toNat:Int),.int .u64 (o.tree.2.toNat:Int),.slice A' n4 c4,.string (fu o.gM),.int .i64 o.time,.string (fu o.msg)] 44)=w3 at *;refine iN gB 5 (fun i v ww=>match i with
    |0=>v=.string (fu dd)
    |1=>v=.agg #[.int .u64 ((jJ dd).1.toNat:Int),.int .u64 ((jJ dd).2.toNat:Int)]
    |2=>v=.pointer (some ⟨w.heap.size+1,0,none⟩)
    |3=>v=.agg #[.int .u64 (d.1.toNat:Int),.int .u64 (d.2.toNat:Int)]
    |_=>v=.bool false) 0 gB (fun i v w w' h hb=>?_) ?_ ?_
   ·exact PH
   ·rintro i o hi ho a w1 hdf hlen hold hbel gK K hK;clear hdf;have oW:=(gH w3).trans hbel;obtain⟨x0,x1,x2,x3,x4,x5,x6⟩:=rM (HX.out.keep oW);have s5:=kZ hold 5 (.pointer (some ⟨w.heap.size+1,0,none⟩));have s6:=kZ hold 6 (.string (fu dd));have hi':i=0∨i=1∨i=2∨i=3∨i=4:=by omega
    rcases hi' with rfl|rfl|rfl|rfl|rfl<;>obtain rfl:=aB ho
    ·exact iJ s6
    ·refine qM (iq gK 0 67) ?_;refine(CO.out w1).mono ?_;rintro e' w4 ⟨rfl,hb4⟩;exact hK _ w4 rfl hb4
    ·exact iJ s5
    ·exact iJ (iq gK 2 69)
    ·refine sM (iq gK 1 68) (iq gK 3 70) ?_;exact hK _ w1 (congrArg Value.bool HQ.out) gD
   ·rintro a w1 hdf hlen hold hbel hnew;have XO:=qH hnew 4 71;simp only at XO;obtain⟨uq,hu,hact⟩:=kL [67,68,69,70,71] hdf hlen hold;simp only[hu]at XO;simp only[List.foldl,XO,SA]at hact;clear hdf hlen hold hnew XO hu;subst hact;refine iP ?_;have oW:=(gH w3).trans hbel;have Bv:=af (HF.out.keep oW);have x0:=Bv.out.cl 0;have x1:=Bv.out.cl 1;obtain⟨g0,g1⟩:=JO Bv.out;have GR:=af (iO (iO (HG.out.trans (nP (r:=some kb) oW)) (ak _) 0 (.string (fu dd))) (ak _) 1 (.int .i64 0));have EO:=af ((Bv.out.set 0 (.string (fu dd))).set 1 (.int .i64 0))
    have Ar:Hid (∃f,xA ((w1.setCell ⟨w.heap.size,0,none⟩ (.string (fu dd))).setCell ⟨w.heap.size,1,none⟩ (.int .i64 0)) kb n f∧∀i u,f i=some u→∃d,l[i]?=some d∧u=.agg #[.string (fu (iC p d)),.int .i64 0]):=by
     obtain⟨f,h1,h2⟩:=HK.out;exact⟨f,((h1.keep oW).grown (gG _ w.heap.size 0 _) (by intro e;injection e with e;omega)).grown (gG _ w.heap.size 1 _) (by intro e;injection e with e;omega),h2⟩
    clear hbel oW HF HX HG HK;go_wp2;clear x0 x1 g0 g1;change bodyPost _ _ _ _ _ ((w1.setCell ⟨w.heap.size,0,none⟩ (.string (fu dd))).setCell ⟨w.heap.size,1,none⟩ (.int .i64 0));generalize (w1.setCell ⟨w.heap.size,0,none⟩ (.string (fu dd))).setCell ⟨w.heap.size,1,none⟩ (.int .i64 0)=wz at *;have k0:=EO.out.cl 0;have k1:=EO.out.cl 1;exact bodyPost_ret (v:=.agg #[.string (fu dd),.int .i64 0]) (by simp[results,results67,go_sem,k0,k1]) rfl ⟨by rw[HDD.out],GR.out,n,by omega,yT.out.know GR.out Ar.out⟩
  |true =>
   rw[hc]at YJ;replace YJ:xk=1:=YJ;subst YJ;have CS1:=af (CS.out hc wr n HR1.out hi fZ );obtain⟨dx1,dx2,dx3⟩:=QO.out;rw[acX.out hc]at hTE;have aan:(mG p c.base d).length≤65536:=by rw[←acX.out hc];exact htl
   subst hTE;have hck:=(tV dx1).1;have HCN:=af (Al hck);have CDE:=fun w=>M8 (fu (mG p c.base d)) w (by rw[gL];omega)
   simp only[iI,dx2]at CDE;have CDE:=af CDE;have HAP:Hid (xR (iC p c.base) (nT (iC p c.base) (iC p d))=(dd,0)):=by show _=_;rw[dx3,HDD.out]
   clear hc CS dx1 dx2 dx3 hck acY htl;go_wp2_with fail;refine CS1.out.mono ?_;rintro e w5 ⟨rfl,hg5,n5,hn5,hR5⟩;have amd:=hg5.size;have VN:=af ((xC.out.grown hg5 (by intro e;injection e with e;omega)).alloc (.cells #[.string (fu (iC p c.base)),.int .i64 0] 91));have HX5:=af ((MC.out.grown hg5 (by intro e;injection e with e;omega)).alloc (.cells #[.string (fu (iC p c.base)),.int .i64 0] 91));have HG5:=af (((nP (r:=some kb) HB1.out).trans hg5).trans (nP (r:=some kb) ((ah w5.heap.size w5).alloc (ak _) (.cells #[.string (fu (iC p c.base)),.int .i64 0] 91))))
   have HK5:=af (hR5.below ((ah w5.heap.size w5).alloc (ak _) (.cells #[.string (fu (iC p c.base)),.int .i64 0] 91))).XI;have HY5:=af (gV.new w5 #[.string (fu (iC p c.base)),.int .i64 0] 91);clear CS1 hg5 hR5 HR1 xC HB1 MC x2;go_upto_region 5 with (fail);generalize w5.alloc (.cells #[.string (fu (iC p c.base)),.int .i64 0] 91)=w6 at *;generalize w5.heap.size=gy at *;obtain⟨y0,y1⟩:=kI HY5.out;go_wp2_with fail;refine(CDE.out w6).mono ?_;rintro e w7 ⟨v7,rfl,hd7,xY⟩;simp only at hd7;obtain⟨A7,c7,rfl,_,_⟩:=hd7.form;have EO:=af (VN.out.keep xY)
   have HX7:=af (HX5.out.keep xY);have HG7:=af (HG5.out.trans (nP (r:=some kb) xY));have HK7:Hid (∃f,xA w7 kb n5 f∧∀i u,f i=some u→∃d,l[i]?=some d∧u=.agg #[.string (fu (iC p d)),.int .i64 0]):=by
    obtain⟨f,h1,h2⟩:=HK5.out;exact⟨f,h1.keep xY,h2⟩
   have HY7:=af (HY5.out.keep xY);have CA:=P6 w7 (fu (iC p c.base)) hd7 (fun y hy=>by
    have h:=HCN.out y hy;have h1:=h.o0;have h2:=h.o1;have h3:=h.l0;have h4:=h.l1;have h5:=h.d1;exact⟨⟨by omega,by omega⟩,⟨by omega,by omega⟩,by omega⟩) (by rw[gL];have:=HDB.out;omega)
   rw[iI,HAP.out]at CA;have CA:=af CA;clear y0 y1 VN HX5 HG5 HK5 HY5 xY hd7 CDE;obtain⟨y0,y1⟩:=kI HY7.out;go_wp2_with fail;refine CA.out.mono ?_;rintro e w8 ⟨rfl,Dj⟩;have HF:=af (EO.out.keep Dj);have HX:=af (HX7.out.keep Dj);have HG:=af (HG7.out.trans (nP (r:=some kb) Dj));have HK:Hid (∃f,xA w8 kb n5 f∧∀i u,f i=some u→∃d,l[i]?=some d∧u=.agg #[.string (fu (iC p d)),.int .i64 0]):=by
    obtain⟨f,h1,h2⟩:=HK7.out;exact⟨f,h1.keep Dj,h2⟩
   clear y0 y1 EO HX7 HG7 HK7 HY7 Dj CA;go_upto_region 13 with (fail);go_wp2_with fail;refine(CD.out w8).mono ?_;rintro e w2 ⟨A,n3,c3,A',n4,c4,rfl,hO,hb2⟩;have hb3:=hb2.alloc hb2.size (.cells (je o (.slice A n3 c3) (.slice A' n4 c4)) 44);have Cj:=af (HF.out.keep hb3);have mZ:=af (HX.out.keep hb3);have HG2:=af (HG.out.trans (nP (r:=some kb) hb3));have lG:Hid (∃f,xA (w2.alloc (.cells (je o (.slice A n3 c3) (.slice A' n4 c4)) 44)) kb n5 f∧∀i u,f i=some u→∃d,l[i]?=some d∧u=.agg #[.string (fu (iC p d)),.int .i64 0]):=by
    obtain⟨f,h1,h2⟩:=HK.out;exact⟨f,h1.keep hb3,h2⟩
   unfold je at *;clear hO hb2 hb3 HF HX HG HK CD;have HF:=Cj;have HX:=mZ;have HG:=HG2;have HK:=lG;clear Cj mZ HG2 lG;go_upto_region 16 with (fail);generalize w2.alloc (.cells #[.int .i64 o.kind,.string (fu o.data),.slice A n3 c3,.int .u64 (o.tree.1.toNat:Int),.int .u64 (o.tree.2.toNat:Int),.slice A' n4 c4,.string (fu o.gM),.int .i64 o.time,.string (fu o.msg)] 44)=w3 at *;refine iN gB 5 (fun i v ww=>match i with
    |0=>v=.string (fu dd)
    |1=>v=.agg #[.int .u64 ((jJ dd).1.toNat:Int),.int .u64 ((jJ dd).2.toNat:Int)]
    |2=>v=.pointer (some ⟨w.heap.size+1,0,none⟩)
    |3=>v=.agg #[.int .u64 (d.1.toNat:Int),.int .u64 (d.2.toNat:Int)]
    |_=>v=.bool false) 0 gB (fun i v w w' h hb=>?_) ?_ ?_
   ·exact PH
   ·rintro i o hi ho a w1 hdf hlen hold hbel gK K hK;clear hdf;have oW:=(gH w3).trans hbel;obtain⟨x0,x1,x2,x3,x4,x5,x6⟩:=rM (HX.out.keep oW);have s5:=kZ hold 5 (.pointer (some ⟨w.heap.size+1,0,none⟩));have s6:=kZ hold 6 (.string (fu dd));have hi':i=0∨i=1∨i=2∨i=3∨i=4:=by omega
    rcases hi' with rfl|rfl|rfl|rfl|rfl<;>obtain rfl:=aB ho
    ·exact iJ s6
    ·refine qM (iq gK 0 67) ?_;refine(CO.out w1).mono ?_;rintro e' w4 ⟨rfl,hb4⟩;exact hK _ w4 rfl hb4
    ·exact iJ s5
    ·exact iJ (iq gK 2 69)
    ·refine sM (iq gK 1 68) (iq gK 3 70) ?_;exact hK _ w1 (congrArg Value.bool HQ.out) gD
   ·rintro a w1 hdf hlen hold hbel hnew;have XO:=qH hnew 4 71;simp only at XO;obtain⟨uq,hu,hact⟩:=kL [67,68,69,70,71] hdf hlen hold;simp only[hu]at XO;simp only[List.foldl,XO,SA]at hact;clear hdf hlen hold hnew XO hu;subst hact;refine iP ?_;have oW:=(gH w3).trans hbel;have Bv:=af (HF.out.keep oW);have x0:=Bv.out.cl 0;have x1:=Bv.out.cl 1;obtain⟨g0,g1⟩:=JO Bv.out;have GR:=af (iO (iO (HG.out.trans (nP (r:=some kb) oW)) (ak _) 0 (.string (fu dd))) (ak _) 1 (.int .i64 0));have EO:=af ((Bv.out.set 0 (.string (fu dd))).set 1 (.int .i64 0))
    have Ar:Hid (∃f,xA ((w1.setCell ⟨w.heap.size,0,none⟩ (.string (fu dd))).setCell ⟨w.heap.size,1,none⟩ (.int .i64 0)) kb n5 f∧∀i u,f i=some u→∃d,l[i]?=some d∧u=.agg #[.string (fu (iC p d)),.int .i64 0]):=by
     obtain⟨f,h1,h2⟩:=HK.out;exact⟨f,((h1.keep oW).grown (gG _ w.heap.size 0 _) (by intro e;injection e with e;omega)).grown (gG _ w.heap.size 1 _) (by intro e;injection e with e;omega),h2⟩
    clear hbel oW HF HX HG HK;go_wp2;clear x0 x1 g0 g1;change bodyPost _ _ _ _ _ ((w1.setCell ⟨w.heap.size,0,none⟩ (.string (fu dd))).setCell ⟨w.heap.size,1,none⟩ (.int .i64 0));generalize (w1.setCell ⟨w.heap.size,0,none⟩ (.string (fu dd))).setCell ⟨w.heap.size,1,none⟩ (.int .i64 0)=wz at *;have k0:=EO.out.cl 0;have k1:=EO.out.cl 1;exact bodyPost_ret (v:=.agg #[.string (fu dd),.int .i64 0]) (by simp[results,results67,go_sem,k0,k1]) rfl ⟨by rw[HDD.out],GR.out,n5,by omega,yT.out.know GR.out Ar.out⟩
end Go.Proofs.YtichfhpgdhdiaaaGreat
namespace Go.Proofs.YtichfhpgdhdiaaaGreat
open Go.RowKit
theorem UA(w:World)(p:List It)(l base:List Dg)(cs:List lZ)(q:List It)(vq:Value)(g ib kb n i:Nat)(d:Dg)(c:lZ)(hR:MI p l cs q vq (fu (nH p l cs)) g ib kb n w)(hgt:∀j,j<i→XL p l cs q vq (fu (nH p l cs)) g ib kb j)(hi:n+i+1≤2000000)(hx:l[i]?=some d)(hcx:cs[i]?=some c)(hp:zR p)(ho:xB p l base)(hz:vP p l base d i c)(hbd:(uS p l cs).length≤66000000)(hq:∀b∈base,∃o,Cw o∧(jS o).length≤65536∧jS o=iC p b∧(b,jS o)∈q)(VL:zR q)(Ux:q.length≤1000000)(hkl:kb<w.heap.size)(ame:i≤1000000):
  Calls prog 30 #[.pointer (some ⟨g,0,none⟩),.int .i64 (i:Int)] w (FdE p l cs q vq (fu (nH p l cs)) g ib kb d n (i+1) w):=by
 have yT:=af hR;have CC:Hid (∀w n,MI p l cs q vq (fu (nH p l cs)) g ib kb n w→n+i+1≤2000000→kb<w.heap.size→Calls prog 67 #[.pointer (some ⟨g,0,none⟩),.int .i64 (i:Int)] w (FdE p l cs q vq (fu (nH p l cs)) g ib kb d n i w)):=fun w n h1 h2 h3 =>
  LY w p l base cs q vq g ib kb n i d c h1 hgt h2 hx hcx hp ho hz hbd hq VL Ux h3
 generalize fu (nH p l cs)=s at *;have k0:=(ah w.heap.size w).alloc (ak _) (.cells #[.string ⟨#[]⟩,.int .i64 0] 91);have z0:(w.alloc (.cells #[.string ⟨#[]⟩,.int .i64 0] 91)).heap.size=w.heap.size+1:=by simp
 have Jc:=hR.below k0;obtain⟨kf,hk1,hk2⟩:=Jc.XI;have Je:=af hk1;have HR1:=af Jc;have xC:=af (gV.new w #[.string ⟨#[]⟩,.int .i64 0] 91);have HB1:=af k0;obtain⟨kl,hkl⟩:=acA i fZ ;unfold iV at hkl;obtain⟨⟨AE,cE,hrd,hpe⟩,hpl,hi1,hi2,hi3⟩:=Jc;have y4:=hrd.cl 4;have HX:=af hx;clear hR hgt hcx hp ho hz hq VL Ux hk1 hi1 hi2 hi3 hrd hpe hpl k0;cases hf:kf i with
 |some u =>
  obtain⟨d',hd',rfl⟩:=hk2 i u hf;obtain rfl:=aB (hx.symm.trans hd');have lG:=af hk2;clear hk2 hd' hx;have k1:=(ah (w.heap.size+1) (w.alloc (.cells #[.string ⟨#[]⟩,.int .i64 0] 91))).alloc fZ (.cells #[.string (fu (iC p d)),.int .i64 0] 91);have Cj:=af (xC.out.alloc (.cells #[.string (fu (iC p d)),.int .i64 0] 91));have hY:=gV.new (w.alloc (.cells #[.string ⟨#[]⟩,.int .i64 0] 91)) #[.string (fu (iC p d)),.int .i64 0] 91;rw[z0]at hY;have HY:=af hY;have HG2:=af (nP (r:=some kb) (HB1.out.trans (k1.mono fZ )))
  have Cf:Hid (∃f,xA ((w.alloc (.cells #[.string ⟨#[]⟩,.int .i64 0] 91)).alloc (.cells #[.string (fu (iC p d)),.int .i64 0] 91)) kb n f∧∀i u,f i=some u→∃d,l[i]?=some d∧u=.agg #[.string (fu (iC p d)),.int .i64 0]):=⟨kf,Je.out.alloc _,lG.out⟩;clear k1 hY;go_enter func30,ntmps30;go_upto_region 1 with (fail);generalize hwa:w.alloc (.cells #[.string ⟨#[]⟩,.int .i64 0] 91)=wa at *;go_upto_region 5 with (at_lookup;refine kR true _ rfl _ _ _ rfl I6 underlying85 NZ Je.out (ED _) rfl i rfl hkl ?_;simp only[hf,dh,Option.getD_none,Option.isSome_some,Option.isSome_none,if_true])
  change Code.wp _ _ _ _ (wa.alloc (.cells #[.string (fu (iC p d)),.int .i64 0] 91));clear y4 Je HR1 xC HB1 lG hf z0 hkl;subst hwa;generalize (w.alloc (.cells #[.string ⟨#[]⟩,.int .i64 0] 91)).alloc (.cells #[.string (fu (iC p d)),.int .i64 0] 91)=wr at *;have x0:=Cj.out.cl 0;have x1:=Cj.out.cl 1;obtain⟨g0,g1⟩:=JO Cj.out;obtain⟨y0,y1⟩:=kI HY.out;have GR:=af (iO (iO HG2.out (ak _) 0 (.string (fu (iC p d)))) (ak _) 1 (.int .i64 0));have EO:=af ((Cj.out.set 0 (.string (fu (iC p d)))).set 1 (.int .i64 0))
  have Ar:Hid (∃f,xA (((wr).setCell ⟨w.heap.size,0,none⟩ (.string (fu (iC p d)))).setCell ⟨w.heap.size,1,none⟩ (.int .i64 0)) kb n f∧∀i u,f i=some u→∃d,l[i]?=some d∧u=.agg #[.string (fu (iC p d)),.int .i64 0]):=by
   obtain⟨f,h1,h2⟩:=Cf.out;exact⟨f,(h1.grown (gG _ w.heap.size 0 _) (by intro e;injection e with e;omega)).grown (gG _ w.heap.size 1 _) (by intro e;injection e with e;omega),h2⟩
  clear Cj HG2 Cf HY;go_wp2;clear x0 x1 g0 g1 y0 y1;change bodyPost _ _ _ _ _ (((wr).setCell ⟨w.heap.size,0,none⟩ (.string (fu (iC p d)))).setCell ⟨w.heap.size,1,none⟩ (.int .i64 0));generalize ((wr).setCell ⟨w.heap.size,0,none⟩ (.string (fu (iC p d)))).setCell ⟨w.heap.size,1,none⟩ (.int .i64 0)=wz at *;have k0:=EO.out.cl 0;have k1:=EO.out.cl 1;exact bodyPost_ret (v:=.agg #[.string (fu (iC p d)),.int .i64 0]) (by simp[results,results30,go_sem,k0,k1]) rfl ⟨rfl,GR.out,n,by omega,yT.out.know GR.out Ar.out⟩
 |none =>
  have lG:=af hk2;have HF0:=af hf;clear hk2 hx;have k1:=(ah (w.heap.size+1) (w.alloc (.cells #[.string ⟨#[]⟩,.int .i64 0] 91))).alloc fZ (.cells #[.string ⟨#[]⟩,.int .i64 0] 91);have Cj:=af (xC.out.alloc (.cells #[.string ⟨#[]⟩,.int .i64 0] 91));have hY:=gV.new (w.alloc (.cells #[.string ⟨#[]⟩,.int .i64 0] 91)) #[.string ⟨#[]⟩,.int .i64 0] 91;rw[z0]at hY;have HY:=af hY;have HB2:=af (HB1.out.trans (k1.mono fZ ));have HR2:=af (HR1.out.below ((ah _ _).alloc (ak _) (.cells #[.string ⟨#[]⟩,.int .i64 0] 91)))
  have hsz:((w.alloc (.cells #[.string ⟨#[]⟩,.int .i64 0] 91)).alloc (.cells #[.string ⟨#[]⟩,.int .i64 0] 91)).heap.size=w.heap.size+2:=by simp
  clear k1 hY;go_enter func30,ntmps30;go_upto_region 1 with (fail);generalize hwa:w.alloc (.cells #[.string ⟨#[]⟩,.int .i64 0] 91)=wa at *;go_upto_region 3 with (at_lookup;refine kR true _ rfl _ _ _ rfl I6 underlying85 NZ Je.out (ED _) rfl i rfl hkl ?_;simp only[hf,dh,Option.getD_none,Option.isSome_some,Option.isSome_none,if_true]);change Code.wp _ _ _ _ (wa.alloc (.cells #[.string ⟨#[]⟩,.int .i64 0] 91));clear y4 Je HR1 xC HB1 lG hf z0
  subst hwa;generalize (w.alloc (.cells #[.string ⟨#[]⟩,.int .i64 0] 91)).alloc (.cells #[.string ⟨#[]⟩,.int .i64 0] 91)=wr at *;have CCx:=af (CC.out wr n HR2.out hi fZ );clear CC;go_wp2_with fail;refine CCx.out.mono ?_;rintro e w5 ⟨rfl,hg5,n5,hn5,hR5⟩;have hgw:=hg5.size;have ac1:=Cj.out.grown hg5 (by intro e;injection e with e;omega);have XP:=HY.out.grown hg5 (by intro e;injection e with e;omega);have amf:g<w.heap.size:=yT.out.rd.choose_spec.choose_spec.1.lt;obtain⟨⟨AE2,cE2,ac2,_⟩,_,_,⟨f5,Yi,ac3⟩,_⟩:=hR5;obtain⟨y0,y1⟩:=kI XP
  obtain⟨f0,f1⟩:=JO XP;have Bv:=af ((ac1.far (p:=⟨w.heap.size+1,0,none⟩) (by show w.heap.size≠w.heap.size+1;omega) (.string (fu (iC p d)))).far (p:=⟨w.heap.size+1,1,none⟩) (by show w.heap.size≠w.heap.size+1;omega) (.int .i64 0));have HY6:=af ((XP.set 0 (.string (fu (iC p d)))).set 1 (.int .i64 0));have ac4:=(ac2.far (p:=⟨w.heap.size+1,0,none⟩) (by show g≠w.heap.size+1;omega) (.string (fu (iC p d)))).far (p:=⟨w.heap.size+1,1,none⟩) (by show g≠w.heap.size+1;omega) (.int .i64 0);have ac5:=af ac4;have YI:=af (((Yi.grown (gG _ (w.heap.size+1) 0 (.string (fu (iC p d)))) (by intro e;injection e with e;omega)).grown (gG _ (w.heap.size+1) 1 (.int .i64 0)) (by intro e;injection e with e;omega)).keep (gH _))
  have ac6:=af ac3;have HG6:=af ((iO (iO ((nP (r:=some kb) HB2.out).trans hg5) (by omega:w.heap.size≤w.heap.size+1) 0 (.string (fu (iC p d)))) (by omega:w.heap.size≤w.heap.size+1) 1 (.int .i64 0)).trans (nP (r:=some kb) (gH _)));clear ac1 XP ac2 ac4 Yi ac3 hg5 Cj HY HB2 HR2 CCx;go_upto_region 4 with (fail);clear y0 y1 f0 f1;change Code.wp _ _ _ _ ((w5.setCell ⟨w.heap.size+1,0,none⟩ (.string (fu (iC p d)))).setCell ⟨w.heap.size+1,1,none⟩ (.int .i64 0));generalize ((w5.setCell ⟨w.heap.size+1,0,none⟩ (.string (fu (iC p d)))).setCell ⟨w.heap.size+1,1,none⟩ (.int .i64 0))=w6 at *
  have y4:=ac5.out.cl 4;obtain⟨y0,y1⟩:=kI HY6.out;go_still_tail 6, gB ;go_upto_region 5 with (at_mapUpdate;refine kC _ rfl _ _ _ _ rfl I6 underlying85 NZ YI.out (by unfold maxLen;omega) rfl i rfl hkl _ rfl rfl ?_;intro w7 hM1 hg1 hs1);have HF8:=af ((Bv.out.keep (gH _)).grown hg1 (by intro e;injection e with e;omega));have HY8:=af ((HY6.out.keep (gH _)).grown hg1 (by intro e;injection e with e;omega));have HG8:=af (HG6.out.trans hg1);have HK8:Hid (∃f,xA w7 kb (n5+1) f∧∀i u,f i=some u→∃d,l[i]?=some d∧u=.agg #[.string (fu (iC p d)),.int .i64 0]):=by
   refine⟨_,hM1,fun i' u h=>?_⟩;unfold uD at h;by_cases e:i'=i
   ·rw[if_pos e]at h;subst e;exact⟨d,HX.out,(aB h).symm⟩
   ·rw[if_neg e]at h;exact ac6.out i' u h
  clear y0 y1 y4 hM1 hg1 hs1 Bv HY6 HG6 YI ac6 ac5 hkl;have x0:=HF8.out.cl 0;have x1:=HF8.out.cl 1;obtain⟨g0,g1⟩:=JO HF8.out;obtain⟨y0,y1⟩:=kI HY8.out;have GR:=af (iO (iO HG8.out (ak _) 0 (.string (fu (iC p d)))) (ak _) 1 (.int .i64 0));have EO:=af ((HF8.out.set 0 (.string (fu (iC p d)))).set 1 (.int .i64 0));have Ar:Hid (∃f,xA (((w7).setCell ⟨w.heap.size,0,none⟩ (.string (fu (iC p d)))).setCell ⟨w.heap.size,1,none⟩ (.int .i64 0)) kb (n5+1) f∧∀i u,f i=some u→∃d,l[i]?=some d∧u=.agg #[.string (fu (iC p d)),.int .i64 0]):=by
   obtain⟨f,h1,h2⟩:=HK8.out;exact⟨f,(h1.grown (gG _ w.heap.size 0 _) (by intro e;injection e with e;omega)).grown (gG _ w.heap.size 1 _) (by intro e;injection e with e;omega),h2⟩
  clear HF8 HG8 HK8 HY8;go_wp2;clear x0 x1 g0 g1 y0 y1;change bodyPost _ _ _ _ _ (((w7).setCell ⟨w.heap.size,0,none⟩ (.string (fu (iC p d)))).setCell ⟨w.heap.size,1,none⟩ (.int .i64 0));generalize ((w7).setCell ⟨w.heap.size,0,none⟩ (.string (fu (iC p d)))).setCell ⟨w.heap.size,1,none⟩ (.int .i64 0)=wz at *;have k0:=EO.out.cl 0;have k1:=EO.out.cl 1;exact bodyPost_ret (v:=.agg #[.string (fu (iC p d)),.int .i64 0]) (by simp[results,results30,go_sem,k0,k1]) rfl ⟨rfl,GR.out,(n5+1),by omega,yT.out.know GR.out Ar.out⟩
end Go.Proofs.YtichfhpgdhdiaaaGreat
namespace Go.Proofs.YtichfhpgdhdiaaaGreat
open Go.RowKit
theorem UB(p:List It)(l base:List Dg)(cs:List lZ)(q:List It)(vq:Value)(g ib kb:Nat)(hp:zR p)(ho:xB p l base)(hlc:cs.length=l.length)(hz:∀i d c,l[i]?=some d→cs[i]?=some c→vP p l base d i c)(hbd:(uS p l cs).length≤66000000)(hq:∀b∈base,∃o,Cw o∧(jS o).length≤65536∧jS o=iC p b∧(b,jS o)∈q)(VL:zR q)(Ux:q.length≤1000000):∀i,XL p l cs q vq (fu (nH p l cs)) g ib kb i:=by
 intro i
 induction i using Nat.strongRecOn with
 |ind i ih =>
  intro w n d hR hn hx;have hil:=(ay.1 hx).1;have:=ho.1;obtain⟨c,hcx⟩:∃c,cs[i]?=some c:=⟨_,au fZ ⟩;obtain⟨f,hf,_⟩:=hR.XI;exact UA w p l base cs q vq g ib kb n i d c hR (fun j hj=>ih j hj) hn hx hcx hp ho (hz i d c hx hcx) hbd hq VL Ux hf.lt fZ
def UnE(r:List It)(w0:World)(e:Ending)(w:World):Prop:=∃A c,e=.returned (.tuple #[.slice A r.length c,.int .i64 0])∧og w (.slice A r.length c) r∧Below w0.heap.size w0 w
theorem uE(w:World)(vq:Value)(p:List It)(l base all:List Dg)(s:List UInt8)(h:og w vq (jI p all))(hp:zR p)(hpl:p.length≤10000)(ho:xB p l base)(hk:YK p l base s)(hba:∀b∈base,b∈all):
  Calls prog 10 #[.string (fu s),vq] w (UnE (jI p (all++l)) w):=by
 obtain⟨cs,hlc,hz,rfl⟩:=hk;have hkl:∀L,(jI p L).length≤10000:=fun L=>aS (List.length_filter_le _ _) hpl
 have hbd:(uS p l cs).length≤66000000:=by rw[←EM hlc];exact EL hp ho.1 hz _
 have hq:∀b∈base,∃o,Cw o∧(jS o).length≤65536∧jS o=iC p b∧(b,jS o)∈jI p all:=fun b hb=>by
  have h1:=pK (ho.2.2.2 b hb);obtain⟨⟨o,a1,a2,a3⟩,_⟩:=hp.2 _ h1;simp only at a3;exact⟨o,a1,a2,a3.symm,rO.2 ⟨by rw[←a3];exact h1,hba b hb⟩⟩
 obtain⟨Aq,cq,rfl,hcq,hmq⟩:=h.form;have CN:=af (FJ w _ (jI p all) p l base cs h hp ho hlc hz);have HGA:=af (fun g ib kb=>UB p l base cs (jI p all) (.slice Aq (jI p all).length cq) g ib kb hp ho hlc hz hbd hq (hp.keep all) (by have:=hkl all;omega));have HPG:=af (fun k d c (h1:l[k]?=some d) (h2:cs[k]?=some c)=>vQ (p:=p) h1 h2);have HLC:=af hlc;have HP:=af hp;have HO:=af ho;have VJ:=af hkl;have hn:=ho.1;have HQ:=af h;generalize fu (nH p l cs)=sb at *;obtain⟨q,hqq⟩:∃q,q=jI p all:=⟨_,rfl⟩;rw[←hqq]at CN HGA HQ;have HQE:=af hqq;rw[←hqq]
 clear h hp ho hlc hz hbd hq hkl hba hqq hcq;go_enter func10,ntmps10;go_wp2_with fail;refine CN.out.mono ?_;rintro e w1 ⟨g,ib,kb,rfl,Jc,hg,hkb,hb1⟩;have HR1:=af Jc;obtain⟨⟨AE,cE,hrd,hpe⟩,ac8,h1,h2,h3⟩:=Jc;have y1:=hrd.cl 1;have TW:=af hpe;have M5:=af ac8;have HB1:=af hb1;have ag5:=af (HGA.out g ib kb);clear CN hb1 h1 h2 h3 hrd hpe ac8 HGA;go_wp2;clear y1;go_loopw [8,27] (fun pv iv wr=>∃(k:Nat) (A:Option Addr) (c n:Nat),k≤l.length∧iv=.int .i64 k∧pv=.slice A (jI p (all++l.take k)).length c∧n≤k*1001∧Hid (og wr (.slice A (jI p (all++l.take k)).length c) (jI p (all++l.take k)))∧Hid (MI p l cs q (.slice Aq q.length cq) sb g ib kb n wr)∧Hid (Rq wr (.slice AE l.length cE) (yJ p l cs))∧Hid (Below w.heap.size w wr)) (fun _ iv _=>l.length-(intOf iv).toNat)
 case atStart=>exact⟨0,Aq,cq,0,by omega,rfl,by rw[bO,aU,←HQE.out],by omega,by rw[bO,aU,←HQE.out];exact M5,HR1,TW,HB1⟩
 case round =>
  clear HR1 TW M5 HB1;obtain⟨k,A,c,n,hk,rfl,rfl,hnk,M5,HR,TW,HB⟩:=hrel;by_cases hlt:k<l.length
  ·have hlt':(k:Int)<(l.length:Int):=by omega
   obtain⟨d,hx⟩:∃d,l[k]?=some d:=⟨_,au hlt⟩;obtain⟨ch,hcx⟩:∃ch,cs[k]?=some ch:=⟨_,au (by rw[HLC.out];exact hlt)⟩;obtain⟨be,oe,rfl,r0,r1,r2,r3,r4,r5,r6⟩:=TW.out.get (HPG.out k d ch hx hcx);have hp1:=(zS (p:=p) (d:=d) (c:=ch) (lq p l cs k).length).1;generalize GK p d ch (lq p l cs k).length=x at *;obtain⟨xd,xk,xb,xo,xl⟩:=x;simp only at hp1 r0 r1 r2 r3 r4 r5 r6;replace hp1:=hp1.symm;subst hp1;have Yk:(d,iC p d)∈p:=pK (HO.out.2.2.1 d (aV hx));have FK:Hid (nQ (jI p (all++l.take k)) (d,iC p d)=(jI p (all++l.take (k+1)),0)):=by
    show _=_;rw[QU HP.out _ Yk,aA,take_snoc' hx]
   have UC:=af (HP.out.2 _ Yk);have hal:=(ah wr.heap.size wr).alloc (ak _) (.cells #[.int .u64 (d.1.toNat:Int),.int .u64 (d.2.toNat:Int),.int .i64 (xk:Int),.int .u64 (xb.1.toNat:Int),.int .u64 (xb.2.toNat:Int),.int .i64 (xo:Int),.int .i64 (xl:Int)] 89);have HX:=af (gV.new wr #[.int .u64 (d.1.toNat:Int),.int .u64 (d.2.toNat:Int),.int .i64 (xk:Int),.int .u64 (xb.1.toNat:Int),.int .u64 (xb.2.toNat:Int),.int .i64 (xo:Int),.int .i64 (xl:Int)] 89);have ac9:=af (M5.out.keep (dO hal));have HR2:=af (HR.out.below hal);have ada:=af (TW.out.keep (dO hal))
   have HB2:=(hTr HB hal);have CG:=af (ag5.out k _ n d HR2.out fZ hx);have amh:kb<wr.heap.size:=HR.out.XI.choose_spec.1.lt;have hks:=VJ.out (all++l.take k);generalize hLK:jI p (all++l.take k)=LK at *;have HLK:=af hLK;clear hLK hx hcx Yk hal M5 HR TW HB;go_upto_region 8 with (fail);clear r0 r1 r2 r3 r4 r5 r6;generalize wr.alloc (.cells #[.int .u64 (d.1.toNat:Int),.int .u64 (d.2.toNat:Int),.int .i64 (xk:Int),.int .u64 (xb.1.toNat:Int),.int .u64 (xb.2.toNat:Int),.int .i64 (xo:Int),.int .i64 (xl:Int)] 89)=w3 at *;generalize wr.heap.size=gx at *;go_wp2_with fail
   refine CG.out.mono ?_;rintro e w4 ⟨rfl,hg4,n4,XQ,hR4⟩;have hkk:=Bu HR2.out.XI.choose_spec.1 hg4;have k5:=(ah w4.heap.size w4).alloc (ak _) (.cells #[.string (fu (iC p d)),.int .i64 0] 91);have HX5:=af ((HX.out.grown hg4 (by intro e;injection e with e;omega)).keep k5);have HY5:=af (gV.new w4 #[.string (fu (iC p d)),.int .i64 0] 91);have adb:=af ((ac9.out.keep hkk).keep (dO k5));have ade:=af ((ada.out.keep hkk).keep (dO k5));have Xl:=af (hR4.below k5);have kY:=HB2.out.grown hg4 HB2.out.size (fun q e=>by cases e;exact hkb)
   have pq:=af (kY.trans (k5.mono kY.size));clear CG HX ac9 ada HR2 HB2 kY hkk k5 hg4 hR4;go_upto_region 9 with (fail);generalize w4.alloc (.cells #[.string (fu (iC p d)),.int .i64 0] 91)=w5 at *;generalize w4.heap.size=gy at *;obtain⟨y0,y1⟩:=kI HY5.out;obtain⟨q0,q1,q2,q3,q4,q5,q6⟩:=rM HX5.out;have CA:=UD w5 _ LK (d,iC p d) adb.out (by rw[←HLK.out];exact(HP.out.keep _).1) hks UC.out;unfold lS at CA;rw[FK.out]at CA;have CA:=af CA;go_wp2_with fail;refine CA.out.mono ?_;rintro e w6 ⟨z,rfl,YH,hb6⟩;simp only at YH;obtain⟨Az,cz,rfl,_,_⟩:=YH.form
   have HZ6:=af YH;have VK:=af (Xl.out.below hb6);have ag6:=af (ade.out.keep (dO hb6));have sI:=(hTr pq hb6);clear y0 y1 q0 q1 q2 q3 q4 q5 q6 CA HX5 HY5 adb ade Xl pq hb6 YH FK UC;go_wp2;go_roundw
   case rel=>exact⟨k+1,Az,cz,n4,by omega,by go_num,rfl,by omega,HZ6,VK,ag6,sI⟩
   case measure=>simp[intOf];omega
  ·obtain rfl:k=l.length:=by omega
   have hlt':¬(l.length:Int)<(l.length:Int):=by omega
   have HPZ:=M5.out;rw[aF (ak _)]at HPZ;have HPZ:=af HPZ;have hte:l.take l.length=l:=aF gF;rw[hte];clear M5 HR TW hte;go_wp2;go_ret2;exact⟨A,c,rfl,HPZ.out,HB.out⟩
end Go.Proofs.YtichfhpgdhdiaaaGreat
namespace Go.Proofs.YtichfhpgdhdiaaaGreat
open Go.RowKit
def LdR(w:World)(us:List Value)(x:List Dg):Prop:=∃A c,us = [.slice A x.length c]∧qi w (.slice A x.length c) x
def Ru(w:World)(v:Value)(l:List (List Dg)):Prop:=Sl w 1 (LdR w) v l
theorem LdR.keep{w w':World}{us:List Value}{x:List Dg}(h:LdR w us x)(k:Keeps w w'):LdR w' us x:=by
 obtain⟨A,c,e,h⟩:=h;exact⟨A,c,e,h.keep k⟩
theorem Ru.keep{w w':World}{v:Value}{l:List (List Dg)}(h:Ru w v l)(k:Keeps w w'):Ru w' v l:=Sl.keep h k fun _ _ h=>h.keep k
theorem Ru.form{w:World}{v:Value}{l:List (List Dg)}(h:Ru w v l):∃A c,v=.slice A l.length c∧l.length≤c∧c≤9223372036854775807:=Sl.form h
theorem Ru.get{w:World}{l:List (List Dg)}{A:Option Addr}{c n:Nat}(h:Ru w (.slice A n c) l){i:Nat}{x:List Dg}(hi:l[i]?=some x):
  ∃b off A' c',A=some ⟨b,off,none⟩∧w.cell? ⟨b,off+i,none⟩=some (.slice A' x.length c')∧qi w (.slice A' x.length c') x:=by
 obtain⟨b,off,us,e,⟨A',c',rfl,hd⟩,_,hc⟩:=Sl.get h hi fZ ;have:=hc 0 _ rfl;rw[Nat.mul_one,Nat.add_zero]at this;exact⟨b,off,A',c',e,this,hd⟩
def Smp(p:List It)(ls:List (List Dg)):Prop:=zR p∧p.length≤40∧(∀x∈p,x.2.length≤500)∧∀x∈ls,x.length≤10
theorem Rb{p:List It}(h:uH p=false):p.length≤40∧∀x∈p,x.2.length≤500:=by
 unfold uH at h;rw[Bool.or_eq_false_iff]at h;refine⟨by have:=of_decide_eq_false h.1;omega,fun x hx=>?_⟩;have:=List.any_eq_false.1 h.2 x hx;simp at this;omega
def SmE(p:List It)(ls:List (List Dg))(w0:World)(e:Ending)(w:World):Prop:=∃b,e=.returned (.bool b)∧(b=true→Smp p ls)∧Below w0.heap.size w0 w
theorem He(w:World)(v u:Value)(p:List It)(ls:List (List Dg))(h:og w v p)(g:Ru w u ls):
  Calls prog 7 #[v,u] w (SmE p ls w):=by
 obtain⟨A,c,rfl,hc,hm⟩:=h.form;obtain⟨B,d,rfl,hd,hn⟩:=g.form;have HP:=af h;have HG:=af g;clear h g;go_enter func7,ntmps7;go_wp2;go_loopw [9] (fun iv wr=>∃k:Nat,k≤ls.length∧iv=.int .i64 k∧wr=w∧Hid (∀x∈ls.take k,x.length≤10)) (fun iv _=>ls.length-(intOf iv).toNat)
 case atStart=>exact⟨0,by omega,by simp,by simp,by simp[Hid]⟩
 case round =>
  obtain⟨k,hk,rfl,rfl,HS⟩:=hrel;by_cases hlt:k<ls.length
  ·have hlt':(k:Int)<(ls.length:Int):=by omega
   obtain⟨x,hx⟩:∃x,ls[k]?=some x:=⟨_,au hlt⟩;obtain⟨b,off,A',c',rfl,q0,_⟩:=HG.out.get hx;by_cases hxl:x.length≤10
   ·have hxn:¬(10:Int)<(x.length:Int):=by omega
    have HS2:Hid (∀y∈ls.take (k+1),y.length≤10):=fun y hy=>by
     rw[take_snoc' hx]at hy;rcases bq.1 hy with h|h
     ·exact HS.out y h
     ·obtain rfl:y=x:=by simpa using h
      exact hxl
    clear HS hx hxl;go_wp2;go_roundw
    case rel=>exact⟨k+1,by omega,by go_num,by simp,HS2⟩
    case measure=>simp[intOf];omega
   ·have hxn:(10:Int)<(x.length:Int):=by omega
    clear HS hx hxl;go_wp2;go_ret;exact⟨false,rfl,fun h=>(by cases h),ah _ _⟩
  ·obtain rfl:k=ls.length:=by omega
   have hlt':¬(ls.length:Int)<(ls.length:Int):=by omega
   have HS2:Hid (∀x∈ls,x.length≤10):=by
    have h:=HS.out;rw[aF (ak _)]at h;exact h
   have CG:=Ot wr _ p HP.out;clear HS;cases hg:uH p with
   |true =>
    rw[hg]at CG;have CG:=af CG;clear hg;go_wp2_with fail;refine CG.out.mono ?_;rintro e w1 ⟨rfl,rfl⟩;go_wp2;go_ret;exact⟨false,rfl,fun h=>(by cases h),ah _ _⟩
   |false =>
    rw[hg]at CG;have CG:=af CG;have HN:=af (Rb hg);clear hg;have CK:=af (Mk wr _ p HP.out (by have:=HN.out.1;omega) (fun x hx=>by have:=HN.out.2 x hx;omega));go_wp2_with fail;refine CG.out.mono ?_;rintro e w1 ⟨rfl,rfl⟩;go_wp2_with fail;refine CK.out.mono ?_;rintro e w2 ⟨kk,rfl,hgd,hb⟩;have HB:=af hb;have HGD:=af hgd;clear hb hgd CK CG;by_cases hk0:kk=0
    ·subst hk0;go_wp2;go_ret;exact⟨true,rfl,fun _=>⟨HGD.out gu ,HN.out.1,HN.out.2,HS2.out⟩,HB.out⟩
    ·have hkb:(kk==0)=false:=by simpa using hk0
     clear hk0;go_wp2;go_ret;exact⟨false,rfl,fun h=>(by cases h),HB.out⟩
end Go.Proofs.YtichfhpgdhdiaaaGreat
namespace Go.Proofs.YtichfhpgdhdiaaaGreat
open Go.RowKit
def Jp:Ob:=⟨1,[104,105],[],(0,0),[],[],0,[]⟩
theorem PD:Cw Jp:=.inr (.inr ⟨.inl rfl,rfl,⟨rfl,rfl,rfl,rfl,rfl⟩,by simp[Jp]⟩)
theorem Fa:(jS Jp).length≤6:=by
 have h1:=ja 1 0 fZ ;have h2:=ja 2 0 fZ ;have e:jS Jp=gJ 1++(gJ 2++[104,105]):=rfl;rw[e];simp only[aj,aI,aM];omega
theorem Fb{x:It}(h:Q6 x):zR [x]:=⟨List.pairwise_singleton _ _,fun y hy=>by
 obtain rfl:y=x:=by simpa using hy
 exact h⟩
theorem Vb(x:It):nQ [] x=([x],0):=rfl
theorem Mv{x:It}:xB [x] [x.1] []:=⟨by simp,by simp,fun d hd=>by
 obtain rfl:d=x.1:=by simpa using hd
 exact rP gu ,fun d hd=>by simp at hd⟩
theorem Vd(x:It):jI [x] ([]++[x.1]) = [x]:=by simp[jI]
theorem Ya(w:World)(d:Dg):qi (w.alloc (.cells #[.int .u64 (d.1.toNat:Int),.int .u64 (d.2.toNat:Int)] 39)) (.slice (some ⟨w.heap.size,0,none⟩) 1 1) [d] :=
 ⟨_,1,[.int .u64 (d.1.toNat:Int),.int .u64 (d.2.toNat:Int)],rfl,ak _,by unfold maxLen;omega,by simpa using gY w #[.int .u64 (d.1.toNat:Int),.int .u64 (d.2.toNat:Int)] 39 (0,0),jF.one rfl rfl⟩
theorem Oy(w:World)(s:iX):vY (w.alloc (.cells #[.string (fu s)] 9)) (.slice (some ⟨w.heap.size,0,none⟩) 1 1) [s] :=
 ⟨_,1,[.string (fu s)],rfl,ak _,by unfold maxLen;omega,by simpa using gY w #[.string (fu s)] 9 (0,0),jF.one rfl rfl⟩
theorem Rc{w w':World}{g:Nat}{cs:Array Value}{z:Value}{t:TypeId}{p:List It}(h:og w z p)(hb:gV w g t cs)(hn:∀(k:Nat) s,cs[k]?≠some (Value.string s))(hg:w.grownBy w' (some g)):og w' z p:=by
 obtain⟨A,c,us,rfl,h1,h2,hc,he⟩:=h;refine⟨A,c,us,rfl,h1,h2,fun k x hk=>?_,he⟩;obtain⟨b,off,rfl,hx⟩:=hc k x hk;refine⟨b,off,rfl,uN hg (fun e=>?_) hx⟩;subst e;have hus:=pR _ _ he;cases p with
 |nil=>rw[hus]at hk;simp at hk
 |cons y p =>
  obtain⟨b',off',e',hx2⟩:=hc 2 (.string (fu y.2)) (by rw[hus];rfl);injection e' with e';injection e' with e1 e2;subst e1 e2;unfold World.cell? at hx2;simp only[show w.heap[b]?=_ from hb]at hx2;exact hn _ _ hx2
theorem Mw{w:World}{g:Nat}{A0 P0 A P:Option Addr}{c0 cp0 c cp:Nat}{d0 d:Dk}{z:Value}{p:List It}(h:og w z p)(V:Var w g A0 c0 P0 cp0 d0):og (mE w g A c P cp d) z p:=by
 refine Rc h V.blk (fun k s=>?_) ((((gG w g 0 (.int .i64 d.size)).trans (gG _ g 1 (.slice A d.secs.length c))).trans (gG _ g 2 (.slice P d.pend.length cp))).trans (gG _ g 3 (.int .i64 d.left)))
 match k with
 |0=>simp
 |1=>simp
 |2=>simp
 |3=>simp
 |k+4=>simp
theorem Ca(W:World):Calls prog 8 #[] W fun e w'=>e=.returned (.bool true)∧Below W.heap.size W w':=by
 have hgx:Q6 (VR Jp):=Mh PD (by have:=Fa;omega);have CP:=Pz W (.slice none 0 0) [] Jp none none 0 0 0 0 (og.nil W) List.Pairwise.nil gu ⟨N9.nil W,qi.nil W⟩ PD (by have:=Fa;omega);have hxl:(VR Jp).2.length≤6:=Fa;unfold XZ at CP;rw[Vb]at CP;have U7:je Jp (.slice none 0 0) (.slice none 0 0)=#[.int .i64 1,.string ⟨#[104,105]⟩,.slice none 0 0,.int .u64 0,.int .u64 0,.slice none 0 0,.string ⟨#[]⟩,.int .i64 0,.string ⟨#[]⟩]:=rfl;rw[U7]at CP;have CP:=af CP;generalize VR Jp=x at *;have UC:=af hgx;clear U7 hgx;go_enter func8,ntmps8
 go_wp2_with fail;refine CP.out.mono ?_;rintro e w1 ⟨A,n,c,hb1,⟨_,rfl,hp1⟩|⟨h,_⟩⟩
 ·have hal:=hb1.alloc hb1.size (.cells #[.int .u64 (x.1.1.toNat:Int),.int .u64 (x.1.2.toNat:Int)] 39);have HD:=af (gV.new w1 #[.int .u64 (x.1.1.toNat:Int),.int .u64 (x.1.2.toNat:Int)] 39);have HP:=af (hp1.keep (Keeps.alloc w1 (.cells #[.int .u64 (x.1.1.toNat:Int),.int .u64 (x.1.2.toNat:Int)] 39)));have HB:=af hal;clear CP hb1 hal hp1;go_upto_region 2 with (fail);generalize w1.alloc (.cells #[.int .u64 (x.1.1.toNat:Int),.int .u64 (x.1.2.toNat:Int)] 39)=w2 at *;generalize w1.heap.size=gx at *;obtain⟨q0,q1⟩:=kI HD.out
  have k2:=(ah w2.heap.size w2).alloc (ak _) (.cells #[.int .u64 (x.1.1.toNat:Int),.int .u64 (x.1.2.toNat:Int)] 39);have CK:=af (tq _ _ _ (.slice none 0 0) [x] [x.1] [] (HP.out.keep (dO k2)) (Ya w2 x.1) (qi.nil _) (Fb UC.out) gu gu gu );have Jb:=af (HP.out.keep (dO k2));have HB2:=(hTr HB k2);clear k2 HD HP HB;go_wp2_with fail;refine CK.out.mono ?_;rintro e w3 ⟨hb3,⟨hok,s,Uv,rfl⟩|⟨hno,_⟩⟩;rotate_left
  ·exact absurd Mv hno
  have hsl:s.length≤60:=by
   have h1:=Uv.len (m:=6) gu (fun d hd=>by
    obtain rfl:d=x.1:=by simpa using hd
    rw[ER (Fb UC.out).1 gu ];exact hxl) fZ
   simp only[aI,aM]at h1;omega
  obtain⟨d1,d2,x0,x1,x2,x3,x4⟩:=Rf hsl;have X0:=af x0;have X1:=af x1;have X2:=af x2;have X3:=af x3;have X4:=af x4;have X6:Hid ((zD 41 4).pend.length=0):=rfl;have HGK:=af Uv;have Gb:=af (Jb.out.keep (dO hb3));have HB3:=(hTr HB2 hb3);have CN:=U0 w3 41 4 fZ fZ fZ fZ ;rw[Xp]at CN;have CN:=af CN;generalize zD 41 4=d0 at *;clear x0 x1 x2 x3 x4 hsl hok Uv hb3 CK Jb HB2 q0 q1;go_wp2_with fail;refine CN.out.mono ?_;rintro e w4 ⟨vs,vp,rfl,hD,hb4⟩;obtain⟨Ad,cd,Pd,cpd,rfl,rfl,_,_,_,_⟩:=hD.form;have V:=Var.new hD;have hal:=hb4.alloc hb4.size (.cells #[.int .i64 d0.size,.slice Ad d0.secs.length cd,.slice Pd d0.pend.length cpd,.int .i64 d0.left] 56)
  have HP4:=af (Gb.out.keep (dO hal));have K:=HB3.out.trans (hal.mono HB3.out.size);have hlt:W.heap.size≤w4.heap.size:=aS HB3.out.size hb4.size;clear CN hb4 hD hal Gb HB3;go_upto_region 4 with (fail);generalize w4.alloc (.cells #[.int .i64 d0.size,.slice Ad d0.secs.length cd,.slice Pd d0.pend.length cpd,.int .i64 d0.left] 56)=w5 at *;generalize w4.heap.size=g at *;obtain⟨q0,q1,q2,q3,_⟩:=V.facts;have CF:=NU w5 _ _ d0 V.dk (by have:=X6.out;omega);rw[X0.out]at CF;have CF:=af CF;go_wp2_with fail;refine CF.out.mono ?_;rintro e w6 ⟨vs2,JS,rfl,hD2,hb6⟩
  obtain⟨A2,c2,P2,cp2,rfl,rfl,_,_,_,_⟩:=hD2.form;have V6:=V.keep hb6;have VX:=V6.assign hD2;have HP6:=af (HP4.out.keep (dO hb6));have hg6:=V6.blk;have KX:=jU (A:=A2) (c:=c2) (P:=P2) (cp:=cp2) (d:=d1) (K.trans (hb6.mono K.size)) hlt;have HP7:=af (Mw (A:=A2) (c:=c2) (P:=P2) (cp:=cp2) (d:=d1) HP6.out V6);obtain⟨t0,t1,t2,t3,r0,r1,r2,r3⟩:=V6.facts;clear CF V V6 K hb6 hD2 HP4 HP6 q0 q1 q2 q3;go_upto_region 5 with (fail);change Code.wp _ _ _ _ (mE w6 g A2 c2 P2 cp2 d1);clear t0 t1 t2 t3 r0 r1 r2 r3;generalize mE w6 g A2 c2 P2 cp2 d1=w7 at *;obtain⟨q0,q1,q2,q3,_⟩:=VX.facts
  have ht:=Oy w7 s;have Va:=VX.alloc (.cells #[.string (fu s)] 9);have CA:=Ls _ _ _ d1 Va.dk (by rw[X3.out];simp) (some ⟨w7.heap.size,0,none⟩) 1 [s] ht;rw[X1.out]at CA;have CA:=af CA;have Ka:=KX.alloc KX.size (.cells #[.string (fu s)] 9);have HP8:=af (HP7.out.keep (Keeps.alloc w7 (.cells #[.string (fu s)] 9)));clear ht VX KX HP7;go_wp2_with fail;refine CA.out.mono ?_;rintro e w8 ⟨vs4,vp4,rfl,hD4,Dj⟩;obtain⟨A4,c4,P4,cp4,rfl,rfl,_,_,_,_⟩:=hD4.form;have V8:=Va.keep Dj;have VX:=V8.assign hD4;have HP9:=af (Mw (A:=A4) (c:=c4) (P:=P4) (cp:=cp4) (d:=d2) (HP8.out.keep (dO Dj)) V8)
  have KX:=jU (A:=A4) (c:=c4) (P:=P4) (cp:=cp4) (d:=d2) (Ka.trans (Dj.mono Ka.size)) hlt;obtain⟨t0,t1,t2,t3,r0,r1,r2,r3⟩:=V8.facts;clear CA Va V8 Ka Dj hD4 HP8 q0 q1 q2 q3;go_upto_region 6 with (fail);change Code.wp _ _ _ _ (mE w8 g A4 c4 P4 cp4 d2);clear t0 t1 t2 t3 r0 r1 r2 r3;generalize mE w8 g A4 c4 P4 cp4 d2=w9 at *;obtain⟨q0,q1,q2,q3,_⟩:=VX.facts;have CC:=af (WV w9 _ _ (.slice none 0 0) d2 VX.dk (by rw[X4.out];simp) [] (Sl.nil _ _ _));have HPA:=HP9;go_wp2_with fail;refine CC.out.mono ?_;rintro e wA ⟨vsA,vpA,rfl,hDA,Rv⟩;have CR:=Lj wA _ _ (vw d2 []) hDA
  rw[X2.out]at CR;have CR:=af CR;have HPB:=af (HPA.out.keep (dO Rv));have KB:=af (KX.trans (Rv.mono KX.size));obtain⟨A5,c5,P5,cp5,rfl,rfl,_,_,_,_⟩:=hDA.form;clear CC hDA Rv HP9 HPA KX VX q0 q1 q2 q3;go_wp2_with fail;refine CR.out.mono ?_;rintro e wB ⟨vB,rfl,htB,hbB⟩;simp only at htB;obtain⟨A6,c6,rfl,_,_⟩:=htB.form;obtain⟨b6,o6,rfl,z0⟩:=htB.agj (i:=0) gu ;have HPC:=af (HPB.out.keep (dO hbB));have KC:=(hTr KB hbB);simp only[List.getElem_cons_zero,Nat.add_zero]at z0;have CU:=uE wB (.slice none 0 0) [x] [x.1] [] [] s (by rw[vR];exact og.nil _) (Fb UC.out) gu Mv HGK.out (fun b hb=>by simp at hb)
  rw[Vd]at CU;have CU:=af CU;clear CR htB hbB HPB KB;go_wp2_with fail;refine CU.out.mono ?_;rintro e wC ⟨A7,c7,rfl,hpC,hbC⟩;have Vu:=af (HPC.out.keep (dO hbC));have KD:=(hTr KC hbC);have CS:=Bw wC _ _ [x] [x] Vu.out hpC;rw[decide_eq_true rfl]at CS;have CS:=af CS;clear CU hpC hbC HPC KC z0;go_wp2_with fail;refine CS.out.mono ?_;rintro e wD ⟨rfl,hbD⟩;have KE:Hid (Below W.heap.size W wD):=KD.out.trans ((hbD.below _).mono KD.out.size);clear CS hbD KD Vu;go_wp2;go_ret;exact⟨rfl,KE.out⟩
 ·exact absurd rfl h
end Go.Proofs.YtichfhpgdhdiaaaGreat
namespace Go.Proofs.YtichfhpgdhdiaaaGreat
open Go.RowKit
theorem xQ:∀(l:List Dg) (vs:List Value),jF 2 (fun us x=>us=rq x) l vs→vs=l.flatMap rq
 |[],_,h=>h
 |x::xs,_,⟨us,ws,e,_,hR,h⟩=>by rw[e,hR,xQ xs ws h,aG]
theorem tu{w:World}{A:Option Addr}{n c:Nat}{l:List Dg}(h:qi w (.slice A n c) l):iM w A (l.flatMap rq):=by
 obtain⟨A',c',us,e,h1,h2,hc,he⟩:=h;injection e with e1 e2 e3;subst e1;rw[←xQ _ _ he];exact hc
theorem zY(l:List Dg):∀u∈l.flatMap rq,u.oneCell'=true:=fun u hu=>by
 obtain⟨x,_,hx⟩:=List.mem_flatMap.1 hu;simp only[rq,bC,List.not_mem_nil,or_false]at hx;rcases hx with rfl|rfl<;>rfl
end Go.Proofs.YtichfhpgdhdiaaaGreat
