/- Packs -/
import Derived.Test.YtichfhpgdhdiaaaGreatJ44
import Derived.Test.YtichfhpgdhdiaaaGreatJ42
import Derived.Test.YtichfhpgdhdiaaaGreatJ3
import Derived.Test.YtichfhpgdhdiaaaGreatJ4
set_option maxRecDepth 100000
set_option maxHeartbeats 8000000
set_option linter.unusedVariables false
set_option linter.unusedSimpArgs false
open Go.Proofs.Tryz
namespace Go.Proofs.YtichfhpgdhdiaaaGreat
open Go.RowKit
theorem Tryz.XG:(Tryz.prog.info? 89).map (fun i=>(i.zero,i.size,i.bytes))=some (some (.agg #[.int .u64 0,.int .u64 0,.int .i64 0,.int .u64 0,.int .u64 0,.int .i64 0,.int .i64 0]),7,56):=by kernel_rfl
theorem Pq{p:List It}{l base:List Dg}{d:Dg}{i:Nat}{c:lZ}(hp:zR p)(h:vP p l base d i c):(Fj p d c).length≤65536:=by
 unfold Fj;have:=qg hp d;split
 ·rename_i hc
  have:=Uq (Nat.lt_of_le_of_lt (Nat.le_add_right _ 16) (h.2 hc));omega
 ·exact this
theorem QS(w:World)(p:List It)(d:Dg)(c:lZ)(bd rest:List UInt8)(at_:Nat)(hd:bd.drop at_=xP p d c++rest)(hat:at_≤bd.length)(hbl:bd.length≤100000000)(htx:(Fj p d c).length≤65536):
  Calls prog 119 #[.string (fu bd),.int .i64 (at_:Int)] w (Xz (GK p d c at_) w):=by
 obtain⟨has,jQ,del,Rp⟩:=c;have e0:(gJ 0).length=1:=by rw[kK fZ ];rfl
 have e1:(gJ 1).length=1:=by rw[kK fZ ];rfl
 cases has with
 |false =>
  have hE:xP p d ⟨false,jQ,del,Rp⟩=jb d++(gJ 0++(gJ (iC p d).length++iC p d)):=rfl;have hT:Fj p d ⟨false,jQ,del,Rp⟩=iC p d:=rfl;rw[hT]at htx;have h:=LP w d (iC p d) bd rest at_ _ _ (at_+(xP p d ⟨false,jQ,del,Rp⟩).length-(iC p d).length) (by rw[hd,hE];simp[aA]) hat hbl htx rfl rfl (by
   rw[hE];simp only[aj,jh,e0];omega)
  exact h
 |true =>
  have hE:xP p d ⟨true,jQ,del,Rp⟩=jb d++(gJ 1++jb jQ++(gJ del.length++del)):=rfl;have hT:Fj p d ⟨true,jQ,del,Rp⟩=del:=rfl;rw[hT]at htx;have h:=LQ w d jQ del bd rest at_ _ _ (at_+(xP p d ⟨true,jQ,del,Rp⟩).length-del.length) (by rw[hd,hE];simp[aA]) hat hbl htx rfl rfl (by
   rw[hE];simp only[aj,jh,e1];omega)
  exact h
theorem zS{p:List It}{d:Dg}{c:lZ}(at_:Nat):(GK p d c at_).dg=d∧(GK p d c at_).off+(GK p d c at_).len=at_+(xP p d c).length:=by
 refine⟨rfl,?_⟩;have:(Fj p d c).length≤(xP p d c).length:=by
  unfold Fj xP;split<;>simp only[aj]<;>omega
 show at_+(xP p d c).length-(Fj p d c).length+(Fj p d c).length=_;omega
def yJ(p:List It)(l:List Dg)(cs:List lZ):List Pe:=(l.zip cs).zipIdx.map fun x=>GK p x.1.1 x.1.2 (lq p l cs x.2).length
theorem vQ{p:List It}{l:List Dg}{cs:List lZ}{k:Nat}{d:Dg}{c:lZ}(h:l[k]?=some d)(h2:cs[k]?=some c):(yJ p l cs)[k]?=some (GK p d c (lq p l cs k).length):=by
 have hz:(l.zip cs)[k]?=some (d,c):=by rw[List.getElem?_zip_eq_some];exact⟨h,h2⟩
 unfold yJ;rw[fG,List.getElem?_zipIdx,hz];simp
theorem LU{p:List It}{l:List Dg}{cs:List lZ}(h:cs.length=l.length):(yJ p l cs).length=l.length:=by
 unfold yJ;rw[cZ,List.length_zipIdx,List.length_zip];omega
theorem LV{p:List It}{l:List Dg}{cs:List lZ}{k:Nat}{d:Dg}{c:lZ}(h:l[k]?=some d)(h2:cs[k]?=some c):∃rest,(uS p l cs).drop (lq p l cs k).length=xP p d c++rest:=by
 have hz:(l.zip cs)[k]?=some (d,c):=by rw[List.getElem?_zip_eq_some];exact⟨h,h2⟩
 have hl:=(ay.1 hz).1;have e:l.zip cs=(l.zip cs).take k++((d,c)::(l.zip cs).drop (k+1)):=by
  conv=>lhs;rw[←bQ k (l.zip cs)]
  rw[aR hl,(ay.1 hz).2]
 refine⟨((l.zip cs).drop (k+1)).flatMap fun x=>xP p x.1 x.2,?_⟩;have e2:uS p l cs=lq p l cs k++(xP p d c++((l.zip cs).drop (k+1)).flatMap fun x=>xP p x.1 x.2):=by
  unfold uS lq
  conv=>lhs;rw[e]
  rw[aZ,aG,aA]
 rw[e2,cK]
def agP(x:List Pe)(w0:World)(e:Ending)(w:World):Prop:=∃A c,e=.returned (.tuple #[.slice A x.length c,.int .i64 0])∧Rq w (.slice A x.length c) x∧Below w0.heap.size w0 w
theorem LW(w:World)(p:List It)(l base:List Dg)(cs:List lZ)(hp:zR p)(ho:xB p l base)(hlc:cs.length=l.length)(hz:∀i d c,l[i]?=some d→cs[i]?=some c→vP p l base d i c):
  Calls prog 66 #[.string (fu (nH p l cs))] w (agP (yJ p l cs) w):=by
 obtain⟨i1,hi1,hy0,hy1,hy2⟩:=info_parts Tryz.XG;have hn:=ho.1;have HT:=af (EL hp hn hz);have VI:=af (EM (p:=p) hlc);have HT0:=af (GL p l cs);have HZ:=af hz;have HO:=af ho;have HLC:=af hlc;have HP:=af hp;have M5:=af (LU (p:=p) hlc);have HTX:=af (fun k d c (h1:l[k]?=some d) (h2:cs[k]?=some c)=>Pq hp (hz k d c h1 h2));have HDR:=af (fun k d c (h1:l[k]?=some d) (h2:cs[k]?=some c)=>LV (p:=p) h1 h2);obtain⟨bd,hbd⟩:∃bd,bd=uS p l cs:=⟨_,rfl⟩;have hbl:bd.length≤66000000:=by rw[hbd,←VI.out];exact HT.out _
 obtain⟨acQ,hbr⟩:∃r,bd=gJ l.length++r:=⟨_,hbd⟩;obtain⟨S,hS⟩:∃S,S=fu (nH p l cs):=⟨_,rfl⟩;have hpk:nH p l cs=bd++jb (jJ bd):=by rw[hbd];rfl
 have hSz:S.size=bd.length+16:=by rw[hS,hpk,gL,aj,jh]
 obtain⟨Z,hZ⟩:∃Z,Z=fu (jb (jJ bd)):=⟨_,rfl⟩;have e0:S.extract 0 bd.length=fu bd:=by
  rw[hS,hpk];apply dX;rw[dF];simp[fu]
 have ez:S.extract bd.length S.size=Z:=by rw[hZ,hS,hpk,oO,cK]
 have Uo:IntKind.i64.wrap ((S.size:Int)-16)=(bd.length:Int):=by rw[jo fZ fZ ];omega
 have EZ:=af ez;have KZ:Hid (bd.length≤S.size):=by show _≤_;omega
 have HQ:Hid ((((jJ bd).1.toNat:Int) != ((jJ bd).1.toNat:Int)||((jJ bd).2.toNat:Int) != ((jJ bd).2.toNat:Int))=false):=(LX _ _).trans gu ;have CO0:=fun w=>zq (fu bd) (by rw[gL];omega) w
 simp only[iI]at CO0;have CO:=af CO0;have CA0:=fun w=>qG w (jJ bd) []
 rw[aU,←hZ]at CA0;have CA:=af CA0;have QR:=fun w=>lH (fu bd) w
 simp only[iI,hbr,mI acQ (show l.length≤1099511627776 by omega),gI]at QR;rw[←hbr]at QR;obtain⟨dn,hdn⟩:∃dn,dn=(gJ l.length).length:=⟨_,rfl⟩;rw[←hdn]at QR;have CI:Hid (∀w,Calls prog 118 #[.string (fu bd)] w fun e w'=>e=.returned (.tuple #[.int .i64 (l.length:Int),.int .i64 (dn:Int),.int .i64 0])∧w'=w):=QR;have HDN:Hid (dn=(lq p l cs 0).length):=by show _=_;rw[HT0.out,hdn]
 have Yu:=af hbd;have k16:bd.length≤S.size:=by omega
 rw[←hS];clear hpk hS hZ ez CO0 CA0 QR hdn hbr hlc hz ho hp HT0 hbd;go_enter func66,ntmps66;have alZ:=af hSz;clear hSz;go_upto_region 5 with (fail);clear e0 Uo k16;refine iN gB 7 (fun i v ww=>match i with
  |0=>v=.string (fu bd)
  |1=>v=.agg #[.int .u64 ((jJ bd).1.toNat:Int),.int .u64 ((jJ bd).2.toNat:Int)]
  |2=>v=.string S
  |3=>v=.int .i64 (bd.length:Int)
  |4=>v=.string Z
  |5=>v=.agg #[.int .u64 ((jJ bd).1.toNat:Int),.int .u64 ((jJ bd).2.toNat:Int)]
  |_=>v=.bool false) 0 gB (fun i v w w' h hb=>?_) ?_ ?_
 ·exact PH
 ·rintro i o hi ho a w1 hdf hlen hold hbel gK K hK;clear hdf;have s0:=kZ hold 0 (.string S);have s4:=kZ hold 4 (.int .i64 (bd.length:Int));have s5:=kZ hold 5 (.string (fu bd));have hi':i=0∨i=1∨i=2∨i=3∨i=4∨i=5∨i=6:=by omega
  rcases hi' with rfl|rfl|rfl|rfl|rfl|rfl|rfl<;>obtain rfl:=aB ho
  ·exact iJ s5
  ·refine qM (iq gK 0 21) ?_;refine(CO.out w1).mono ?_;rintro e' w4 ⟨rfl,hb4⟩;exact hK _ w4 rfl hb4
  ·exact iJ s0
  ·exact iJ s4
  ·have e23:=iq gK 2 23;simp only at e23;have e24:=iq gK 3 24;simp only at e24;have uz:=EZ.out;have uk:=KZ.out;unfold Oper.wp;simp only[execOp,Act.eval,e23,e24];go_simp;exact hK _ w1 rfl gD
  ·refine qM (iq gK 4 25) ?_;refine(CA.out w1).mono ?_;rintro e' w4 ⟨rfl,hb4⟩;exact hK _ w4 rfl hb4
  ·refine sM (iq gK 1 22) (iq gK 5 26) ?_;exact hK _ w1 (by first|rfl|exact congrArg Value.bool HQ.out) gD
 ·rintro a w1 hdf hlen hold hbel hnew;have e27:=qH hnew 6 27;simp only at e27;obtain⟨uq,hu,hact⟩:=kL [21,22,23,24,25,26,27] hdf hlen hold;simp only[hu]at e27;simp only[List.foldl,e27,SA]at hact;clear hdf hlen hold hnew e27 hu;subst hact;refine iP ?_;have HW:=af ((gH w).trans hbel);clear hbel CO CA EZ KZ HQ;have hnn:¬(1000:Int)<(l.length:Int):=by omega
  have hmm:=@run_makeMap prog;go_wp2_with fail;refine(CI.out _).mono ?_;rintro e w2 ⟨rfl,rfl⟩;have HM0:Hid (ol (w2.alloc (.map #[] 0)) w2.heap.size 0 (nu (l.take 0))):=by
   have:(nu []:Dg→Option Value)=fun _=>none:=by funext y;simp[nu]
   show ol _ _ _ _;rw[bO,this];exact pJ w2
  have HW2:=af (HW.out.alloc HW.out.size (.map #[] 0));have hB0:w2.heap.size+1≤(w2.alloc (.map #[] 0)).heap.size:=by simp
  have hsw:=HW.out.size;rw[HDN.out];clear CI HW HDN;go_wp2;generalize w2.alloc (.map #[] 0)=W2 at *;generalize w2.heap.size=mb at *;go_loopw [7,9,42] (fun av lv iv wr=>∃(k:Nat) (A:Option Addr) (c:Nat),k≤l.length∧iv=.int .i64 k∧lv=.slice A k c∧av=.int .i64 ((lq p l cs k).length:Int)∧Hid (ol wr mb k (nu (l.take k)))∧Hid (wr.ownsRow (mb+1) 89 7 (.slice A k c) k (((yJ p l cs).take k).flatMap Ps))∧Hid (Below w.heap.size w wr)∧mb+1≤wr.heap.size) (fun _ _ iv _=>l.length-(intOf iv).toNat)
  case atStart=>exact⟨0,none,0,by omega,rfl,rfl,rfl,HM0,World.ownsRow_nil _ _ _ _,HW2,hB0⟩
  case round =>
   clear HM0 HW2 hB0;obtain⟨k,A,ca,hk,rfl,rfl,rfl,HM,HR,HB,acR⟩:=hrel;by_cases hlt:k<l.length
   ·have hlt':(k:Int)<(l.length:Int):=by omega
    obtain⟨d,hx⟩:∃d,l[k]?=some d:=⟨_,au hlt⟩;obtain⟨c,hcx⟩:∃c,cs[k]?=some c:=⟨_,au (by rw[HLC.out];exact hlt)⟩;obtain⟨rest,hdr⟩:=HDR.out k d c hx hcx;rw[←Yu.out]at hdr;have hpos:(lq p l cs k).length≤bd.length:=by
     have h1:=congrArg List.length hdr;rw[aC,aj]at h1;have h2:16≤(xP p d c).length:=by unfold xP;rw[aj,jh];omega
     omega
    have CE:=QS wr p d c bd rest _ hdr hpos fZ (HTX.out k d c hx hcx);have PX:Hid ((lq p l cs (k+1)).length=(lq p l cs k).length+(xP p d c).length):=by show _=_;rw[GN hx hcx,aj]
    have HG:=af (vQ (p:=p) hx hcx);obtain⟨hp1,hp2⟩:=zS (p:=p) (d:=d) (c:=c) (lq p l cs k).length;rw[←PX.out]at hp2;have hTn:=HT.out (k+1);obtain⟨pn,hpn⟩:∃pn,pn=(lq p l cs (k+1)).length:=⟨_,rfl⟩;rw[←hpn]at hp2 hTn;have HPN:=af hpn;generalize GK p d c (lq p l cs k).length=x at *;obtain⟨xd,xk,xb,xo,xl⟩:=x;simp only at hp1 hp2;have hp1:=hp1.symm;subst hp1;unfold Xz at CE;simp only at CE;have CE:=af CE;have hni:d∉l.take k:=fun hm=>by
     have h1:(l.take (k+1)).Nodup:=HO.out.2.1.sublist (List.take_sublist _ _);rw[take_snoc' hx]at h1;exact(List.nodup_append.1 h1).2.2 d hm d gu rfl
    have hv:(nu (l.take k) d).getD (.bool false)=.bool false:=by unfold nu;rw[if_neg hni];rfl
    have MH:Hid (nu (l.take (k+1))=uD (nu (l.take k)) d (.bool true)):=by show _=_;rw[take_snoc' hx,Bt]
    obtain⟨kl,hkl⟩:=nk d;have VJ:=af hkl;have Jb:=af hp2;have HTK:Hid (((yJ p l cs).take k).flatMap Ps++[.int .u64 (d.1.toNat:Int),.int .u64 (d.2.toNat:Int),.int .i64 (xk:Int),.int .u64 (xb.1.toNat:Int),.int .u64 (xb.2.toNat:Int),.int .i64 (xo:Int),.int .i64 (xl:Int)]=((yJ p l cs).take (k+1)).flatMap Ps):=nX (F:=Ps) HG.out;clear hdr hpos hx hcx hni hkl HG PX hp2 hpn;go_wp2_with fail;refine CE.out.mono ?_;rintro e w3 ⟨rfl,hb3⟩;have hal:=hb3.alloc hb3.size (.cells #[.int .u64 (d.1.toNat:Int),.int .u64 (d.2.toNat:Int),.int .i64 (xk:Int),.int .u64 (xb.1.toNat:Int),.int .u64 (xb.2.toNat:Int),.int .i64 (xo:Int),.int .i64 (xl:Int)] 89)
    have nG:=af (gV.new w3 #[.int .u64 (d.1.toNat:Int),.int .u64 (d.2.toNat:Int),.int .i64 (xk:Int),.int .u64 (xb.1.toNat:Int),.int .u64 (xb.2.toNat:Int),.int .i64 (xo:Int),.int .i64 (xl:Int)] 89);have Pt:=af (HM.out.keep hal);have HR4:=af (HR.out.kept (iF hal) (by cases Value.ownBlock (.slice A k ca)<;>simp));have kY:=(hTr HB hal);have hm4:=aS acR hal.size;have hne:∀q,Value.ownBlock (.slice A k ca)=some q→mb+1≤q∧q<w3.heap.size:=fun q e=>⟨(HR.out.lt q e).1,bM (HR.out.lt q e).2 hb3.size⟩
    have hgx:mb+1≤w3.heap.size:=aS acR hb3.size;have hlk:=Pt.out.look (P:=prog) false lX underlying75 kN (sW _) d VJ.out;simp only[hv]at hlk;unfold lS at hlk;clear CE HM HR HB hal hb3;go_upto_region 15 with (fail);generalize w3.alloc (.cells #[.int .u64 (d.1.toNat:Int),.int .u64 (d.2.toNat:Int),.int .i64 (xk:Int),.int .u64 (xb.1.toNat:Int),.int .u64 (xb.2.toNat:Int),.int .i64 (xo:Int),.int .i64 (xl:Int)] 89)=w4 at *;generalize w3.heap.size=gx at *;obtain⟨q0,q1,q2,q3,q4,q5,q6⟩:=rM nG.out;go_upto_region 17 with (fail)
    clear hlk;have hkl:=VJ.out;unfold lS at hkl;go_upto_region 18 with (at_mapUpdate;refine kC _ rfl _ _ _ _ rfl lX underlying75 kN Pt.out (by unfold maxLen;omega) rfl d rfl hkl _ rfl rfl ?_;intro w5 hM1 hg1 hs1);have HM5:Hid (ol w5 mb (k+1) (nu (l.take (k+1)))):=by
     show ol _ _ _ _;rw[MH.out];exact hM1
    have Oc:=af (nG.out.grown hg1 (by intro e;injection e with e;omega));have Xl:=af (HR4.out.kept hg1 (.inr (fun e=>by have:=(hne _ e).1;omega)));have pq:=af (kY.out.grown hg1 kY.out.size (fun q e=>by cases e;omega));have Yi:mb+1≤w5.heap.size:=by omega
    clear q0 q1 q2 q3 q4 q5 q6 hM1 hg1 hs1 Pt nG HR4 kY hkl;obtain⟨q0,q1,q2,q3,q4,q5,q6⟩:=rM Oc.out;have hal:=(ah w5.heap.size w5).alloc (ak _) (.cells #[.int .u64 (d.1.toNat:Int),.int .u64 (d.2.toNat:Int),.int .i64 (xk:Int),.int .u64 (xb.1.toNat:Int),.int .u64 (xb.2.toNat:Int),.int .i64 (xo:Int),.int .i64 (xl:Int)] 89);have YI:=af (HM5.out.keep hal);have Ur:=af (Oc.out.keep hal);have VK:=af (Xl.out.kept (iF hal) (by cases Value.ownBlock (.slice A k ca)<;>simp));have sI:=(hTr pq hal);have abd:=hal.size;clear HM5 Oc Xl pq hal;go_upto_region 19 with (at_builtin;go_must (refine iE _ rfl _ _ 83 rfl (mb+1) 89 i1 _ 7 56 underlying83 hi1 hy0 hy1 hy2 rfl fZ (.slice A k ca) k _ rfl VK.out _ 1 1 [.int .u64 (d.1.toNat:Int),.int .u64 (d.2.toNat:Int),.int .i64 (xk:Int),.int .u64 (xb.1.toNat:Int),.int .u64 (xb.2.toNat:Int),.int .i64 (xo:Int),.int .i64 (xl:Int)] rfl rfl (gY _ _ _ _) (by simp[Value.oneCell']) fZ fZ fZ ?_;intro v7 w7 Us Ut _;obtain⟨A7,c7,rfl⟩:=iw Us))
    clear q0 q1 q2 q3 q4 q5 q6;have HM7:=af (YI.out.grown Ut (fun e=>by have:=(hne _ e.symm).1;omega));have agR:=af (Ur.out.grown Ut (fun e=>by have:=(hne _ e.symm).2;omega));have Wp:=af (sI.out.grown Ut sI.out.size (fun q e=>by have:=(hne _ e).1;omega));have hs7:=Ut.size;have HR7:Hid (w7.ownsRow (mb+1) 89 7 (.slice A7 (k+1) c7) (k+1) (((yJ p l cs).take (k+1)).flatMap Ps)):=by rw[←HTK.out];exact Us
    obtain⟨q0,q1,q2,q3,q4,q5,q6⟩:=rM agR.out;have hwp:IntKind.i64.wrap ((xo:Int)+(xl:Int))=(pn:Int):=by have:=Jb.out;rw[jo fZ fZ ];omega
    clear Us Ut YI Ur VK sI HTK MH Jb;go_wp2;clear q0 q1 q2 q3 q4 q5 q6 hwp;go_roundw
    case rel=>exact⟨k+1,A7,c7,by omega,by go_num,rfl,congrArg (fun n:Nat=>Value.int .i64 (n:Int)) HPN.out,HM7,HR7,Wp,by omega⟩
    case measure=>simp[intOf];omega
   ·obtain rfl:k=l.length:=by omega
    have hlt':¬(l.length:Int)<(l.length:Int):=by omega
    have hend:(lq p l cs l.length).length=bd.length:=by rw[VI.out,←Yu.out]
    have hzb:(fu bd).size=bd.length:=gL bd;have HRe:Hid (wr.ownsRow (mb+1) 89 7 (.slice A (yJ p l cs).length ca) (yJ p l cs).length ((yJ p l cs).flatMap Ps)):=by
     have h:=HR.out;rw[aF (by rw[M5.out];omega)]at h;rw[M5.out];exact h
    have HE:=af (XH HRe.out);have agS:=M5.out;rw[hend];clear HM HR HRe hend;go_wp2;go_ret2;exact⟨A,ca,by rw[agS];rfl,HE.out,HB.out⟩
end Go.Proofs.YtichfhpgdhdiaaaGreat
namespace Go.Proofs.YtichfhpgdhdiaaaGreat
open Go.RowKit
def Uu(l:List Dg)(f:Dg→Option Value):Prop:=(∀(j:Nat) d,l[j]?=some d→f d=some (.int .i64 (j:Int)))∧∀d,d∉l→f d=none
theorem Uu.nil:Uu [] (fun _=>none):=⟨fun j d h=>by simp at h,fun _ _=>rfl⟩
theorem Uu.step{l:List Dg}{d:Dg}{f:Dg→Option Value}{k:Nat}(h:Uu l f)(hk:l.length=k)(hd:d∉l):Uu (l++[d]) (uD f d (.int .i64 (k:Int))):=by
 refine⟨fun j y hy=>?_,fun y hy=>?_⟩
 ·unfold uD;by_cases e:y=d
  ·rw[if_pos e];subst e;rcases aP j l.length with hj|hj
   ·rw[aY hj]at hy;exact absurd (aV hy) hd
   ·rw[bD hj]at hy;have:j-l.length=0:=by
     have:=(ay.1 hy).1;simp at this;omega
    rw[show j=k by omega]
  ·rw[if_neg e];rcases aP j l.length with hj|hj
   ·rw[aY hj]at hy;exact h.1 j y hy
   ·rw[bD hj]at hy;have h1:=aV hy;exact absurd (by simpa using h1) e
 ·unfold uD;rw[if_neg (fun e=>hy (by simp[e]))];exact h.2 y (fun hm=>hy (by simp[hm]))
structure MI(p:List It)(l:List Dg)(cs:List lZ)(q:List It)(vq:Value)(s:ByteArray)(g ib kb n:Nat)(w:World):Prop where
 rd:∃A c,gV w g 87 #[.string s,.slice A l.length c,vq,.map (some ib),.map (some kb)]∧Rq w (.slice A l.length c) (yJ p l cs)
 pool:og w vq q
 idx:∃m f,ol w ib m f∧Uu l f
 XI:∃f,xA w kb n f∧∀i u,f i=some u→∃d,l[i]?=some d∧u=.agg #[.string (fu (iC p d)),.int .i64 0]
 ne:ib≠kb
theorem Bu{K:Type}{P:Program}{k:TypeId}{kv:K→Value}{w w':World}{b n:Nat}{f:K→Option Value}(h:oM P k kv w b n f)(hg:w.grownBy w' (some b)):Keeps w w':=fun q o u hu=>by
 have hl:q<w.heap.size:=by
  unfold World.cell? at hu;rcases aP q w.heap.size with h|h
  ·exact h
  ·simp only[eu h]at hu;cases hu
 have hne:some q≠some b:=fun e=>by
  injection e with e;subst e;obtain⟨es,clock,hb,_⟩:=h;unfold World.cell? at hu;simp only[hb]at hu;cases hu
 have:=hg.block q hl hne;unfold World.cell? at *;simp only at *;rw[this];exact hu
section
variable {p:List It}{l:List Dg}{cs:List lZ}{q:List It}{vq:Value}{s:ByteArray}{g ib kb n:Nat}{w w':World}
theorem MI.below(h:MI p l cs q vq s g ib kb n w)(k:Below w.heap.size w w'):MI p l cs q vq s g ib kb n w':=by
 obtain⟨⟨A,c,h1,h2⟩,h3,⟨m,f,h4,h5⟩,⟨f2,h6,h7⟩,h8⟩:=h;exact⟨⟨A,c,h1.keep k,h2.keep (dO k)⟩,h3.keep (dO k),⟨m,f,h4.keep k,h5⟩,⟨f2,h6.keep k,h7⟩,h8⟩
theorem MI.know(h:MI p l cs q vq s g ib kb n w){n':Nat}(hg:w.grownBy w' (some kb))(hk:∃f,xA w' kb n' f∧∀i u,f i=some u→∃d,l[i]?=some d∧u=.agg #[.string (fu (iC p d)),.int .i64 0]):MI p l cs q vq s g ib kb n' w':=by
 obtain⟨⟨A,c,h1,h2⟩,h3,⟨m,f,h4,h5⟩,⟨f2,h6,h7⟩,h8⟩:=h;have hk2:=Bu h6 hg;have Uv:g≠kb:=fun e=>by
  subst e;obtain⟨es,clock,hb,_⟩:=h6;rw[show w.heap[g]?=_ from h1]at hb;cases hb
 exact⟨⟨A,c,h1.grown hg (by intro e;injection e with e;exact Uv e),h2.keep hk2⟩,h3.keep hk2,⟨m,f,h4.grown hg (by intro e;injection e with e;exact h8 e),h5⟩,hk,h8⟩
end
def NrE(p:List It)(l:List Dg)(cs:List lZ)(q:List It)(vq:Value)(s:ByteArray)(w0:World)(e:Ending)(w:World):Prop:=∃g ib kb,e=.returned (.tuple #[.pointer (some ⟨g,0,none⟩),.int .i64 0])∧MI p l cs q vq s g ib kb 0 w∧w0.heap.size≤g∧w0.heap.size≤kb∧Below w0.heap.size w0 w
theorem FJ(w:World)(vq:Value)(q p:List It)(l base:List Dg)(cs:List lZ)(h:og w vq q)(hp:zR p)(ho:xB p l base)(hlc:cs.length=l.length)(hz:∀i d c,l[i]?=some d→cs[i]?=some c→vP p l base d i c):
  Calls prog 29 #[.string (fu (nH p l cs)),vq] w (NrE p l cs q vq (fu (nH p l cs)) w):=by
 obtain⟨Aq,cq,rfl,hcq,hmq⟩:=h.form;have CE:=af (LW w p l base cs hp ho hlc hz);have HQ:=af h;have HN:=af ho.2.1;have hn:=ho.1;have M5:=af (LU (p:=p) hlc);have HPG:=af (fun k d c (h1:l[k]?=some d) (h2:cs[k]?=some c)=>vQ (p:=p) h1 h2);have HLC:=af hlc;generalize fu (nH p l cs)=s at *;have hmm:=@run_makeMap prog;clear h hp ho hz hlc;go_enter func29,ntmps29;go_wp2_with fail;refine CE.out.mono ?_;rintro e w1 ⟨A,c,rfl,hps,hb1⟩;rw[M5.out]at hps ⊢;have k1:=hb1.alloc hb1.size (.map #[] 0);have z1:(w1.alloc (.map #[] 0)).heap.size=w1.heap.size+1:=by simp
 have k2:=k1.alloc k1.size (.map #[] 0);have z2:((w1.alloc (.map #[] 0)).alloc (.map #[] 0)).heap.size=w1.heap.size+2:=by simp
 have k3:=k2.alloc k2.size (.cells #[.string s,.slice A l.length c,.slice Aq q.length cq,.map (some w1.heap.size),.map (some (w1.heap.size+1))] 87);have m1:=((pJ (P:=prog) (k:=39) (kv:=lS) w1).alloc (.map #[] 0)).alloc (.cells #[.string s,.slice A l.length c,.slice Aq q.length cq,.map (some w1.heap.size),.map (some (w1.heap.size+1))] 87);have m2:=(pJ (P:=prog) (k:=3) (kv:=iV) (w1.alloc (.map #[] 0))).alloc (.cells #[.string s,.slice A l.length c,.slice Aq q.length cq,.map (some w1.heap.size),.map (some (w1.heap.size+1))] 87)
 have b3:=gV.new ((w1.alloc (.map #[] 0)).alloc (.map #[] 0)) #[.string s,.slice A l.length c,.slice Aq q.length cq,.map (some w1.heap.size),.map (some (w1.heap.size+1))] 87;rw[z1]at m2;rw[z2]at b3;have hs1:=hb1.size;have kk:=dO ((((ah w1.heap.size w1).alloc (ak _) (.map #[] 0)).alloc gu (.map #[] 0)).alloc (by simp;omega) (.cells #[.string s,.slice A l.length c,.slice Aq q.length cq,.map (some w1.heap.size),.map (some (w1.heap.size+1))] 87));have HS:Hid (gV (((w1.alloc (.map #[] 0)).alloc (.map #[] 0)).alloc (.cells #[.string s,.slice A l.length c,.slice Aq q.length cq,.map (some w1.heap.size),.map (some (w1.heap.size+1))] 87)) (w1.heap.size+2) 87 #[.string s,.slice A l.length c,.slice Aq q.length cq,.map (some w1.heap.size),.map (some (w1.heap.size+1))]):=b3
 have Uw:=af (hps.keep kk);have Ri:=af m2;have HM1:Hid (∃f,ol (((w1.alloc (.map #[] 0)).alloc (.map #[] 0)).alloc (.cells #[.string s,.slice A l.length c,.slice Aq q.length cq,.map (some w1.heap.size),.map (some (w1.heap.size+1))] 87)) w1.heap.size 0 f∧Uu (l.take 0) f):=⟨_,m1,by rw[bO];exact Uu.nil⟩;have HB3:=af k3;clear CE hb1 k1 k2 k3 m1 m2 b3 kk hps;have HQ3:=af (HQ.out.keep (dO HB3.out));have hsz:w1.heap.size+3≤(((w1.alloc (.map #[] 0)).alloc (.map #[] 0)).alloc (.cells #[.string s,.slice A l.length c,.slice Aq q.length cq,.map (some w1.heap.size),.map (some (w1.heap.size+1))] 87)).heap.size:=by simp
 go_upto_region 3 with (fail);change Code.wp _ _ _ _ (((w1.alloc (.map #[] 0)).alloc (.map #[] 0)).alloc (.cells #[.string s,.slice A l.length c,.slice Aq q.length cq,.map (some w1.heap.size),.map (some (w1.heap.size+1))] 87));clear z1 z2;generalize ((w1.alloc (.map #[] 0)).alloc (.map #[] 0)).alloc (.cells #[.string s,.slice A l.length c,.slice Aq q.length cq,.map (some w1.heap.size),.map (some (w1.heap.size+1))] 87)=w3 at *;generalize w1.heap.size=mb at *;go_wp2;go_loopw [25] (fun iv wr=>∃k:Nat,k≤l.length∧iv=.int .i64 k∧Hid (∃f,ol wr mb k f∧Uu (l.take k) f)∧Hid (xA wr (mb+1) 0 (fun _=>none))∧Hid (gV wr (mb+2) 87 #[.string s,.slice A l.length c,.slice Aq q.length cq,.map (some mb),.map (some (mb+1))])∧Hid (Rq wr (.slice A l.length c) (yJ p l cs))∧Hid (og wr (.slice Aq q.length cq) q)∧Hid (Below w.heap.size w wr)) (fun iv _=>l.length-(intOf iv).toNat)
 case atStart=>exact⟨0,by omega,rfl,HM1,Ri,HS,Uw,HQ3,HB3⟩
 case round =>
  clear HM1 Ri HS Uw HQ3 HB3;obtain⟨k,hk,rfl,HM1,Ri,HS,Uw,HQ3,HB3⟩:=hrel;by_cases hlt:k<l.length
  ·have hlt':(k:Int)<(l.length:Int):=by omega
   obtain⟨d,hx⟩:∃d,l[k]?=some d:=⟨_,au hlt⟩;obtain⟨ch,hcx⟩:∃ch,cs[k]?=some ch:=⟨_,au (by rw[HLC.out];exact hlt)⟩;have hg:=HPG.out k d ch hx hcx;obtain⟨b1,o1,rfl,r0,r1,r2,r3,r4,r5,r6⟩:=Uw.out.get hg;have hp1:=(zS (p:=p) (d:=d) (c:=ch) (lq p l cs k).length).1.symm;generalize GK p d ch (lq p l cs k).length=x at *;obtain⟨xd,xk,xb,xo,xl⟩:=x;simp only at hp1 r0 r1 r2 r3 r4 r5 r6;subst hp1;have hni:d∉l.take k:=fun hm=>by
    have h1:(l.take (k+1)).Nodup:=HN.out.sublist (List.take_sublist _ _);rw[take_snoc' hx]at h1;exact(List.nodup_append.1 h1).2.2 d hm d gu rfl
   have XJ:=af (fun f (hf:Uu (l.take k) f)=>by
    have:=hf.step (k:=k) (by rw[aH];omega) hni;rw[←take_snoc' hx]at this;exact this)
   have hal:=(ah wr.heap.size wr).alloc (ak _) (.cells #[.int .u64 (d.1.toNat:Int),.int .u64 (d.2.toNat:Int),.int .i64 (xk:Int),.int .u64 (xb.1.toNat:Int),.int .u64 (xb.2.toNat:Int),.int .i64 (xo:Int),.int .i64 (xl:Int)] 89);have hall:=hal.trans ((gH (wr.alloc (.cells #[.int .u64 (d.1.toNat:Int),.int .u64 (d.2.toNat:Int),.int .i64 (xk:Int),.int .u64 (xb.1.toNat:Int),.int .u64 (xb.2.toNat:Int),.int .i64 (xo:Int),.int .i64 (xl:Int)] 89))).mono hal.size);have nG:=af ((gV.new wr #[.int .u64 (d.1.toNat:Int),.int .u64 (d.2.toNat:Int),.int .i64 (xk:Int),.int .u64 (xb.1.toNat:Int),.int .u64 (xb.2.toNat:Int),.int .i64 (xo:Int),.int .i64 (xl:Int)] 89).keep (gH _))
   obtain⟨f,hf1,hf2⟩:=HM1.out;have HMx:=af (hf1.keep hall);have HFx:=af hf2;have acS:=af (Ri.out.keep hall);have HSx:=af (HS.out.keep hall);have acT:=af (Uw.out.keep (dO hall));have HQx:=af (HQ3.out.keep (dO hall));have oU:=(hTr HB3 hall);obtain⟨kl,hkl⟩:=nk d;have VJ:=af hkl;have hgs:=HS.out.lt;clear hx hcx hg hni hal hall hf1 hf2 HM1 Ri HS Uw HQ3 HB3 hkl;go_upto_region 6 with (fail);clear r0 r1 r2 r3 r4 r5 r6;generalize wr.alloc (.cells #[.int .u64 (d.1.toNat:Int),.int .u64 (d.2.toNat:Int),.int .i64 (xk:Int),.int .u64 (xb.1.toNat:Int),.int .u64 (xb.2.toNat:Int),.int .i64 (xo:Int),.int .i64 (xl:Int)] 89)=w4 at *
   generalize wr.heap.size=gx at *;obtain⟨q0,q1,q2,q3,q4,q5,q6⟩:=rM (show gV w4 _ _ _ from nG.out);have s3:w4.cell? ⟨mb+2,3,none⟩=some (.map (some mb)):=(show gV w4 _ _ _ from HSx.out).cl 3;go_still_tail 7, gB ;have hkl:=VJ.out;unfold lS at hkl;go_wp2_with (at_mapUpdate;refine kC _ rfl _ _ _ _ rfl lX underlying84 kN HMx.out (by unfold maxLen;omega) rfl d rfl hkl _ rfl rfl ?_;intro w5 hM1 hg1 hs1);have hkk:=Bu HMx.out hg1;have H1:Hid (∃f,ol w5 mb (k+1) f∧Uu (l.take (k+1)) f):=⟨_,hM1,XJ.out _ HFx.out⟩;have H2:=af (acS.out.grown hg1 (by intro e;injection e with e;omega))
   have H3:=af (HSx.out.grown hg1 (by intro e;injection e with e;omega));have H4:=af (acT.out.keep hkk);have H5:=af (HQx.out.keep hkk);have H6:=af (oU.out.grown hg1 oU.out.size (fun q e=>by cases e;omega));clear hM1 hg1 hs1 hkk HMx HFx acS HSx acT HQx oU XJ VJ q0 q1 q2 q3 q4 q5 q6 s3 hkl;go_roundw
   case rel=>exact⟨k+1,by omega,by go_num,H1,H2,H3,H4,H5,H6⟩
   case measure=>simp[intOf];omega
  ·obtain rfl:k=l.length:=by omega
   have hlt':¬(l.length:Int)<(l.length:Int):=by omega
   have HE:Hid (MI p l cs q (.slice Aq q.length cq) s (mb+2) mb (mb+1) 0 wr):=by
    obtain⟨f,h1,h2⟩:=HM1.out;rw[aF (ak _)]at h2;exact⟨⟨A,c,HS.out,Uw.out⟩,HQ3.out,⟨_,f,h1,h2⟩,⟨_,Ri.out,fun i u h=>by cases h⟩,by omega⟩
   have hb2:=HB3;clear HM1 Ri HS Uw HQ3;go_wp2;go_ret2;exact⟨mb+2,mb,mb+1,rfl,HE.out,by omega,by omega,hb2.out⟩
end Go.Proofs.YtichfhpgdhdiaaaGreat
namespace Go.Proofs.YtichfhpgdhdiaaaGreat
open Go.RowKit
def FdE(p:List It)(l:List Dg)(cs:List lZ)(q:List It)(vq:Value)(s:ByteArray)(g ib kb:Nat)(d:Dg)(n m:Nat)(w0:World)(e:Ending)(w:World):Prop :=
 e=.returned (.agg #[.string (fu (iC p d)),.int .i64 0])∧w0.grownBy w (some kb)∧∃n',n'≤n+m∧MI p l cs q vq s g ib kb n' w
def XL(p:List It)(l:List Dg)(cs:List lZ)(q:List It)(vq:Value)(s:ByteArray)(g ib kb i:Nat):Prop:=∀(w:World) (n:Nat) (d:Dg),MI p l cs q vq s g ib kb n w→n+i+1≤2000000→l[i]?=some d →
 Calls prog 30 #[.pointer (some ⟨g,0,none⟩),.int .i64 (i:Int)] w (FdE p l cs q vq s g ib kb d n (i+1) w)
theorem uN{w w':World}{bx:Nat}{g o:Nat}{x:Value}(hg:w.grownBy w' (some bx))(hne:g≠bx)(h:w.cell? ⟨g,o,none⟩=some x):w'.cell? ⟨g,o,none⟩=some x:=by
 have hl:g<w.heap.size:=by
  unfold World.cell? at h;rcases aP g w.heap.size with k|k
  ·exact k
  ·simp only[eu k]at h;cases h
 have:=hg.block g hl (by intro e;injection e with e;exact hne e);unfold World.cell? at *;simp only at *;rw[this];exact h
theorem GQ{w w':World}{B bx:Nat}{ve vp:Value}{o:Ob}{cs:Array Value}(h:nC B w ve vp o)(hg:w.grownBy w' (some bx))(hb:gV w bx 44 cs):nC B w' ve vp o:=by
 have ne:∀{e:TypeId} {sz n:Nat} {v:Value} {xs:List Value},w.ownsRow B e sz v n xs→e≠44→v.ownBlock≠some bx:=fun ho he e1=>by
  rcases ho.2 with ⟨rfl,_⟩|⟨g',cap,cur,rfl,_,hc,_⟩
  ·cases e1
  ·have e2:g'=bx:=by simpa [Value.ownBlock] using e1
   rw[e2,show w.heap[bx]?=_ from hb]at hc;injection hc with hc;injection hc with _ hc;exact he hc.symm
 exact⟨h.1.kept hg (.inr (ne h.1 gm )),h.2.kept hg (.inr (ne h.2 gm ))⟩
theorem nP{w w':World}{r:Option Nat}(h:Below w.heap.size w w'):w.grownBy w' r:=⟨h.os,h.tape,h.output,h.size,fun k hk _=>h.block k hk⟩
theorem Od(w:World)(p:List It)(l base:List Dg)(cs:List lZ)(q:List It)(vq:Value)(s:ByteArray)(g ib kb n i:Nat)(d:Dg)(c:lZ)(hR:MI p l cs q vq s g ib kb n w)(hgt:∀j,j<i→XL p l cs q vq s g ib kb j)(hi:n+i+1≤2000000)(hx:l[i]?=some d)(hcx:cs[i]?=some c)(hc:c.has=true)(hbs:c.base∈base∨∃j,j<i∧l[j]?=some c.base)(hnd:l.Nodup)(hq:∀b∈base,∃o,Cw o∧(jS o).length≤65536∧jS o=iC p b∧(b,jS o)∈q)(VL:zR q)(Ux:q.length≤1000000)(hkl:kb<w.heap.size):
  Calls prog 120 #[.pointer (some ⟨g,0,none⟩),.int .i64 (i:Int)] w (FdE p l cs q vq s g ib kb c.base n i w):=by
 have yT:=af hR;have hg:=vQ (p:=p) hx hcx;have hxb:(GK p d c (lq p l cs i).length).base=c.base:=by unfold GK;simp[hc]
 have k0:=(ah w.heap.size w).alloc (ak _) (.cells #[.string ⟨#[]⟩,.int .i64 0] 91);have z0:(w.alloc (.cells #[.string ⟨#[]⟩,.int .i64 0] 91)).heap.size=w.heap.size+1:=by simp
 have Jc:=hR.below k0;obtain⟨⟨AE,cE,hrd,hpe⟩,hpl,_,_,_⟩:=Jc;obtain⟨be,oe,rfl,r0,r1,r2,r3,r4,r5,r6⟩:=hpe.get hg;have hil:=(ay.1 hx).1;have Uy:(i:Int)<(l.length:Int):=by omega
 rw[hxb]at r3 r4;have xC:=gV.new w #[.string ⟨#[]⟩,.int .i64 0] 91;have y1:=hrd.cl 1;obtain⟨cb,hcb⟩:∃cb,cb=c.base:=⟨_,rfl⟩;rw[←hcb]at r3 r4 hbs ⊢;have k1:=k0.alloc fZ (.cells #[.int .u64 (cb.1.toNat:Int),.int .u64 (cb.2.toNat:Int)] 39);have HF:=af (xC.alloc (.cells #[.int .u64 (cb.1.toNat:Int),.int .u64 (cb.2.toNat:Int)] 39));have hD:=gV.new (w.alloc (.cells #[.string ⟨#[]⟩,.int .i64 0] 91)) #[.int .u64 (cb.1.toNat:Int),.int .u64 (cb.2.toNat:Int)] 39;rw[z0]at hD;have HD:=af hD
 have HB:=af k1;have HR:=af (hR.below k1);have acU:=af HR.out.idx;have HGq:=af VL;have HQL:=af Ux;have HHx:=af hx;have HBS:=af hbs;have HND:=af hnd;have HQ:=af hq;have HGT:=af hgt;have hsz:((w.alloc (.cells #[.string ⟨#[]⟩,.int .i64 0] 91)).alloc (.cells #[.int .u64 (cb.1.toNat:Int),.int .u64 (cb.2.toNat:Int)] 39)).heap.size=w.heap.size+2:=by simp
 clear hR hg hxb k0 k1 hrd hpe hpl hD xC hx hcx hc hbs hnd hq VL Ux hgt hcb r0 r1 r2 r5 r6;go_enter func120,ntmps120;go_upto_region 1 with (fail);generalize hwa:w.alloc (.cells #[.string ⟨#[]⟩,.int .i64 0] 91)=wa at *;go_upto_region 2 with (fail);change Code.wp _ _ _ _ (wa.alloc (.cells #[.int .u64 (cb.1.toNat:Int),.int .u64 (cb.2.toNat:Int)] 39));clear y1 r3 r4 z0;subst hwa;generalize (w.alloc (.cells #[.string ⟨#[]⟩,.int .i64 0] 91)).alloc (.cells #[.int .u64 (cb.1.toNat:Int),.int .u64 (cb.2.toNat:Int)] 39)=wr at *
 obtain⟨mx,f,hmx,hix⟩:=acU.out;have XJ:=af hmx;clear hmx acU;by_cases hin:cb∈l
 ·obtain⟨j,hj⟩:=bU hin;have HFV:=af (hix.1 j cb hj);have HJ:=af hj;have hjl:=(ay.1 hj).1;have hjm:(j:Int)≤1000000000000∨True:=.inr trivial;by_cases hji:j<i
  ·have HJI:=af hji;have al7:(j:Int)<(i:Int):=by omega
   clear hix hin hj hji hjm;refine iN gB 11 (fun i v ww=>match i with
    |0=>v=.pointer (some ⟨g,0,none⟩)
    |1=>v=.pointer (some ⟨g,0,none⟩)
    |2=>v=.pointer (some ⟨g,3,none⟩)
    |3=>v=.map (some ib)
    |4=>v=.agg #[.int .u64 (cb.1.toNat:Int),.int .u64 (cb.2.toNat:Int)]
    |5=>v=.tuple #[.int .i64 (j:Int),.bool true]
    |6=>v=.tuple #[.int .i64 (j:Int),.bool true]
    |7=>v=.int .i64 (j:Int)
    |8=>v=.bool true
    |9=>v=.int .i64 (j:Int)
    |_=>v=.bool true) 0 gB (fun i v w w' h hb=>?_) ?_ ?_
   ·exact PH
   ·rintro i o hi ho a w1 hdf hlen hold hbel gK K hK;clear hdf;have oW:=(gH wr).trans hbel;obtain⟨⟨AE,cE,hrd,_⟩,hpl,_,_,_⟩:=HR.out.below oW;have y3:=hrd.cl 3;obtain⟨yd0,yd1⟩:=kI (HD.out.keep oW);obtain⟨kl,hkl⟩:=nk cb;have hlk:=(XJ.out.keep oW).look (P:=prog) true lX underlying84 kN (EC _) cb hkl;rw[HFV.out]at hlk;unfold lS at hlk;have s0:=kZ hold 0 (.pointer (some ⟨g,0,none⟩));have s5:=kZ hold 5 (.pointer (some ⟨w.heap.size+1,0,none⟩));have hi':i=0∨i=1∨i=2∨i=3∨i=4∨i=5∨i=6∨i=7∨i=8∨i=9∨i=10:=by omega
    rcases hi' with rfl|rfl|rfl|rfl|rfl|rfl|rfl|rfl|rfl|rfl|rfl<;>obtain rfl:=aB ho
    ·exact iJ s0
    ·exact iJ (iq gK 0 20)
    ·exact iJ (iq gK 1 21)
    ·exact iJ (iq gK 2 22)
    ·exact iJ s5
    ·refine sM (iq gK 3 23) (iq gK 4 24) ?_;exact hK _ w1 (by first|rfl|simp) gD
    ·exact iJ (iq gK 5 25)
    ·exact iJ (iq gK 6 19)
    ·exact iJ (iq gK 6 19)
    ·exact iJ (iq gK 7 26)
    ·exact iJ (iq gK 8 27)
   ·rintro a w1 hdf hlen hold hbel hnew;have e6:=qH hnew 9 6;simp only at e6;have e7:=qH hnew 10 7;simp only at e7;obtain⟨uq,hu,hact⟩:=kL [20,21,22,23,24,25,19,26,27,6,7] hdf hlen hold;simp only[hu]at e6 e7;simp only[List.foldl,e6,e7,SA]at hact;clear hdf hlen hold hnew e6 e7 hu;subst hact;refine iP ?_;have om:=(gH wr).trans hbel;have HR1:=af (HR.out.below om);have xC:=af (HF.out.keep om);have HB1:=(hTr HB om);have CG:=af (HGT.out j HJI.out w1 n cb HR1.out (by have:=HJI.out;omega) HJ.out);clear hbel om HR HF HB HD XJ HFV;go_wp2_with fail;refine CG.out.mono ?_;rintro e w6 ⟨rfl,hg2,n2,hn2,hR6⟩
    have Bv:=af (xC.out.grown hg2 (by intro e;injection e with e;omega));have VK:=af hR6;have x0:=Bv.out.cl 0;have x1:=Bv.out.cl 1;obtain⟨g0,g1⟩:=JO Bv.out;have GR:=af (iO (iO ((nP (r:=some kb) HB1.out).trans hg2) (ak _) 0 (.string (fu (iC p cb)))) (ak _) 1 (.int .i64 0));have EO:=af ((Bv.out.set 0 (.string (fu (iC p cb)))).set 1 (.int .i64 0));have Ar:Hid (∃f,xA ((w6.setCell ⟨w.heap.size,0,none⟩ (.string (fu (iC p cb)))).setCell ⟨w.heap.size,1,none⟩ (.int .i64 0)) kb n2 f∧∀i u,f i=some u→∃d,l[i]?=some d∧u=.agg #[.string (fu (iC p d)),.int .i64 0]):=by
     obtain⟨f,h1,h2⟩:=VK.out.XI;exact⟨f,(h1.grown (gG _ w.heap.size 0 _) (by intro e;injection e with e;omega)).grown (gG _ w.heap.size 1 _) (by intro e;injection e with e;omega),h2⟩
    have hjo:=HJI.out;clear hR6 hg2 CG HR1 xC HB1;go_wp2;clear x0 x1 g0 g1;change bodyPost _ _ _ _ _ ((w6.setCell ⟨w.heap.size,0,none⟩ (.string (fu (iC p cb)))).setCell ⟨w.heap.size,1,none⟩ (.int .i64 0));generalize (w6.setCell ⟨w.heap.size,0,none⟩ (.string (fu (iC p cb)))).setCell ⟨w.heap.size,1,none⟩ (.int .i64 0)=wz at *;have k0:=EO.out.cl 0;have k1:=EO.out.cl 1;exact bodyPost_ret (v:=.agg #[.string (fu (iC p cb)),.int .i64 0]) (by simp[results,results120,go_sem,k0,k1]) rfl ⟨rfl,GR.out,n2,by omega,yT.out.know GR.out Ar.out⟩
  ·have hba:cb∈base:=by
    rcases HBS.out with h|⟨j',h1,h2⟩
    ·exact h
    ·have:=(List.getElem?_inj hjl HND.out).1 (hj.trans h2.symm);omega
   obtain⟨ob,Nj,hol,hoe,hom⟩:=HQ.out cb hba;have HOO:=af Nj;have HOL:=af hol;have Jz:=af hoe;have HOM:=af hom;have hjd:decide ((j:Int)<(i:Int))=false:=by simp;omega
   have al8:decide (j<i)=false:=by simp;omega
   clear hix hin hj hji hjm hba Nj hol hoe hom HJ hjl;refine iN gB 11 (fun i v ww=>match i with
    |0=>v=.pointer (some ⟨g,0,none⟩)
    |1=>v=.pointer (some ⟨g,0,none⟩)
    |2=>v=.pointer (some ⟨g,3,none⟩)
    |3=>v=.map (some ib)
    |4=>v=.agg #[.int .u64 (cb.1.toNat:Int),.int .u64 (cb.2.toNat:Int)]
    |5=>v=.tuple #[.int .i64 (j:Int),.bool true]
    |6=>v=.tuple #[.int .i64 (j:Int),.bool true]
    |7=>v=.int .i64 (j:Int)
    |8=>v=.bool true
    |9=>v=.int .i64 (j:Int)
    |_=>v=.bool true) 0 gB (fun i v w w' h hb=>?_) ?_ ?_
   ·exact PH
   ·rintro i o hi ho a w1 hdf hlen hold hbel gK K hK;clear hdf;have oW:=(gH wr).trans hbel;obtain⟨⟨AE,cE,hrd,_⟩,hpl,_,_,_⟩:=HR.out.below oW;have y3:=hrd.cl 3;obtain⟨yd0,yd1⟩:=kI (HD.out.keep oW);obtain⟨kl,hkl⟩:=nk cb;have hlk:=(XJ.out.keep oW).look (P:=prog) true lX underlying84 kN (EC _) cb hkl;rw[HFV.out]at hlk;unfold lS at hlk;have s0:=kZ hold 0 (.pointer (some ⟨g,0,none⟩));have s5:=kZ hold 5 (.pointer (some ⟨w.heap.size+1,0,none⟩));have hi':i=0∨i=1∨i=2∨i=3∨i=4∨i=5∨i=6∨i=7∨i=8∨i=9∨i=10:=by omega
    rcases hi' with rfl|rfl|rfl|rfl|rfl|rfl|rfl|rfl|rfl|rfl|rfl<;>obtain rfl:=aB ho
    ·exact iJ s0
    ·exact iJ (iq gK 0 20)
    ·exact iJ (iq gK 1 21)
    ·exact iJ (iq gK 2 22)
    ·exact iJ s5
    ·refine sM (iq gK 3 23) (iq gK 4 24) ?_;exact hK _ w1 (by first|rfl|simp) gD
    ·exact iJ (iq gK 5 25)
    ·exact iJ (iq gK 6 19)
    ·exact iJ (iq gK 6 19)
    ·exact iJ (iq gK 7 26)
    ·exact iJ (iq gK 8 27)
   ·rintro a w1 hdf hlen hold hbel hnew;have e6:=qH hnew 9 6;simp only at e6;have e7:=qH hnew 10 7;simp only at e7;obtain⟨uq,hu,hact⟩:=kL [20,21,22,23,24,25,19,26,27,6,7] hdf hlen hold;simp only[hu]at e6 e7;simp only[List.foldl,e6,e7,SA]at hact;clear hdf hlen hold hnew e6 e7 hu;subst hact;refine iP ?_;have om:=(gH wr).trans hbel;have HR1:=af (HR.out.below om);have xC:=af (HF.out.keep om);have HB1:=(hTr HB om);have HD1:=af (HD.out.keep om);clear hbel om HR HF HB HD XJ HFV;have HR:=HR1;have HF:=xC;have HB:=HB1;have HD:=HD1;clear HR1 xC HB1 HD1;generalize w1=wr at *
    go_upto_region 5 with (fail);obtain⟨h5,hh5⟩:∃h,h=wr.heap.size:=⟨_,rfl⟩;refine BV gB 10 8 [7] (fun i v ww=>match i with
     |0=>v=.pointer (some ⟨g,0,none⟩)
     |1=>v=.pointer (some ⟨g,0,none⟩)
     |2=>v=.pointer (some ⟨g,2,none⟩)
     |3=>v=vq
     |4=>v=.agg #[.int .u64 (cb.1.toNat:Int),.int .u64 (cb.2.toNat:Int)]
     |5=>∃A n c A' n' c',v=.tuple #[.agg #[.int .i64 ob.kind,.string (fu ob.data),.slice A n c,.int .u64 (ob.tree.1.toNat:Int),.int .u64 (ob.tree.2.toNat:Int),.slice A' n' c',.string (fu ob.gM),.int .i64 ob.time,.string (fu ob.msg)],.int .i64 0]∧nC h5 ww (.slice A n c) (.slice A' n' c') ob
     |6=>∃A n c A' n' c',v=.tuple #[.agg #[.int .i64 ob.kind,.string (fu ob.data),.slice A n c,.int .u64 (ob.tree.1.toNat:Int),.int .u64 (ob.tree.2.toNat:Int),.slice A' n' c',.string (fu ob.gM),.int .i64 ob.time,.string (fu ob.msg)],.int .i64 0]∧nC h5 ww (.slice A n c) (.slice A' n' c') ob
     |7=>∃A n c A' n' c',v=.agg #[.int .i64 ob.kind,.string (fu ob.data),.slice A n c,.int .u64 (ob.tree.1.toNat:Int),.int .u64 (ob.tree.2.toNat:Int),.slice A' n' c',.string (fu ob.gM),.int .i64 ob.time,.string (fu ob.msg)]∧nC h5 ww (.slice A n c) (.slice A' n' c') ob
     |8=>v=.int .i64 0
     |_=>∃b,v=.pointer (some ⟨b,0,none⟩)∧gV ww b 44 (je jO (.slice none 0 0) (.slice none 0 0))∧h5≤b) gB (fun i v w w' h hb=>?_) ?_ ?_ ?_
    ·match i,h with
     |0,h=>exact h
     |1,h=>exact h
     |2,h=>exact h
     |3,h=>exact h
     |4,h=>exact h
     |5,h=>exact(by obtain⟨A,n,c,A',n',c',h1,h2⟩:=h;exact⟨A,n,c,A',n',c',h1,h2.below hb⟩)
     |6,h=>exact(by obtain⟨A,n,c,A',n',c',h1,h2⟩:=h;exact⟨A,n,c,A',n',c',h1,h2.below hb⟩)
     |7,h=>exact(by obtain⟨A,n,c,A',n',c',h1,h2⟩:=h;exact⟨A,n,c,A',n',c',h1,h2.below hb⟩)
     |8,h=>exact h
     |9,h=>exact(by obtain⟨b,h1,h2,h3⟩:=h;exact⟨b,h1,h2.keep hb,h3⟩)
     |_+10,h=>exact(by obtain⟨b,h1,h2,h3⟩:=h;exact⟨b,h1,h2.keep hb,h3⟩)
    ·rintro i o hi hix ho a w1 hdf hlen hold hbel gK K hK;clear hdf;have sF:∀{A:Prop},i=8→A:=fun e=>absurd e hix
     clear hix;have oW:=(gH wr).trans hbel;obtain⟨⟨AE,cE,hrd,_⟩,hpl,_,_,_⟩:=HR.out.below oW;have y2:=hrd.cl 2;obtain⟨yd0,yd1⟩:=kI (HD.out.keep oW);have s0:=kZ hold 0 (.pointer (some ⟨g,0,none⟩));have s5:=kZ hold 5 (.pointer (some ⟨w.heap.size+1,0,none⟩));have hi':i=0∨i=1∨i=2∨i=3∨i=4∨i=5∨i=6∨i=7∨i=8∨i=9:=by omega
     rcases hi' with rfl|rfl|rfl|rfl|rfl|rfl|rfl|rfl|rfl|rfl
     ·clear sF;obtain rfl:=aB ho;unfold Oper.wp;simp only[execOp,Act.eval,s0];go_simp;exact hK _ w1 rfl gD
     ·clear sF;obtain rfl:=aB ho;have e38:=iq gK 0 38;simp only at e38;unfold Oper.wp;simp only[execOp,Act.eval,e38];go_simp;exact hK _ w1 rfl gD
     ·clear sF;obtain rfl:=aB ho;have e39:=iq gK 1 39;simp only at e39;unfold Oper.wp;simp only[execOp,Act.eval,e39];go_simp;exact hK _ w1 rfl gD
     ·clear sF;obtain rfl:=aB ho;have e40:=iq gK 2 40;simp only at e40;unfold Oper.wp;simp only[execOp,Act.eval,e40];go_simp;exact hK _ w1 rfl gD
     ·clear sF;obtain rfl:=aB ho;unfold Oper.wp;simp only[execOp,Act.eval,s5];go_simp;exact hK _ w1 rfl gD
     ·clear sF;obtain rfl:=aB ho;have e41:=iq gK 3 41;simp only at e41;have e42:=iq gK 4 42;simp only at e42;unfold Oper.wp;simp only[execOp,Act.eval,e41,e42];go_simp;have CG:=Jd w1 vq q cb ob hpl HGq.out HOM.out HOO.out HOL.out HQL.out;unfold lS at CG;refine CG.mono ?_;rintro e' w4 ⟨A4,n4,c4,A5,n5,c5,rfl,hO4,hb4⟩;exact hK _ w4 ⟨A4,n4,c4,A5,n5,c5,rfl,hO4.lower (by have:=hbel.size;have:=(gH wr).size;omega)⟩ hb4
     ·clear sF;obtain rfl:=aB ho;have e43:=iq gK 5 43;simp only at e43;obtain⟨A4,n4,c4,A5,n5,c5,aak,aal⟩:=e43;unfold Oper.wp;simp only[execOp,Act.eval,aak];go_simp;exact hK _ w1 ⟨A4,n4,c4,A5,n5,c5,rfl,aal⟩ gD
     ·clear sF;obtain rfl:=aB ho;have e37:=iq gK 6 37;simp only at e37;obtain⟨A4,n4,c4,A5,n5,c5,Oe,Uz⟩:=e37;unfold Oper.wp;simp only[execOp,Act.eval,Oe];go_simp;exact hK _ w1 ⟨A4,n4,c4,A5,n5,c5,rfl,Uz⟩ gD
     ·exact sF rfl
     ·clear sF;obtain rfl:=aB ho;unfold Oper.wp;simp only[execOp,Act.eval];go_simp;exact hK _ _ ⟨w1.heap.size,rfl,gV.new w1 _ _,by have:=hbel.size;have:=(gH wr).size;omega⟩ ((ah _ _).alloc (ak _) _)
    ·rintro o ho a w1 hlen hold hbel gK;obtain rfl:=aB ho;have e37:=iq gK 6 37;simp only at e37;obtain⟨A4,n4,c4,A5,n5,c5,Oe,Uz⟩:=e37;refine⟨_,rfl,fun w'=>?_⟩;simp only[execOp,Act.eval,Oe];go_simp
    ·rintro a w1 hdf hlen hold hbel hnew;have e44:=qH hnew 7 44;simp only at e44;have e45:=qH hnew 8 45;simp only at e45;have e8:=qH hnew 9 8;simp only at e8;obtain⟨A4,n4,c4,A5,n5,c5,e44,hO4⟩:=e44;obtain⟨bx,e8,hbx,hb5⟩:=e8;obtain⟨uq,hu,hact⟩:=kL [38,39,40,41,42,43,37,44,45,8] hdf hlen hold;simp only[hu]at e45 e44 e8;simp only[List.foldl,e45,e44,e8,SA]at hact;clear hdf hlen hold hnew e45 e44 e8 hu;subst hact;have oW:=(gH wr).trans hbel;obtain⟨t0,t1,t2,t3,t4,t5,t6,t7,t8⟩:=iB hbx;obtain⟨Un,Uo,XA,VH,XB,XC,XE,w7f,w8f⟩:=mP hbx;have PB:=af (jG (o:=ob) (ve:=.slice A4 n4 c4) (vp:=.slice A5 n5 c5) hbx)
     have PG:=iR w1 bx ob (.slice A4 n4 c4) (.slice A5 n5 c5);have PO:=af (GQ hO4 PG hbx).at;have hk5:=oW.grown PG oW.size (fun q e=>by cases e;omega);have PR:=af (HR.out.below hk5);have PK:=(hTr HB hk5);have PF:=af (HF.out.keep hk5);clear hbel oW hk5 PG hO4 hbx;refine kF.lt 10 ?_;intro K hK;go_simp;refine hK _ _ ?_;clear hK K;change kF _ _ _ _ _ _ _ _ _ (kJ w1 bx ob (.slice A4 n4 c4) (.slice A5 n5 c5));clear t0 t1 t2 t3 t4 t5 t6 t7 t8 Un Uo XA VH XB XC XE w7f w8f;generalize kJ w1 bx ob (.slice A4 n4 c4) (.slice A5 n5 c5)=w5 at *;refine kF.lt 11 ?_;intro K hK;go_simp
     refine hK _ _ (iP ?_);clear hK K;obtain⟨k0,k1,k2,k3,k4,k5,k6,k7,k8⟩:=iB PB.out;have CE:=qK w5 ob _ _ PO.out HOO.out HOL.out;unfold je at CE;have CE:=af CE;go_wp2_with fail;refine CE.out.mono ?_;rintro e w6 ⟨rfl,hb6⟩;rw[Jz.out];have VK:=af (PR.out.below hb6);have HK6:=(hTr PK hb6);have Bv:=af (PF.out.keep hb6);clear CE PR PK PF PB PO hb6 k0 k1 k2 k3 k4 k5 k6 k7 k8;have x0:=Bv.out.cl 0;have x1:=Bv.out.cl 1;obtain⟨g0,g1⟩:=JO Bv.out;have GR:=af (iO (iO (nP (r:=some kb) HK6.out) (ak _) 0 (.string (fu (iC p cb)))) (ak _) 1 (.int .i64 0))
     have EO:=af ((Bv.out.set 0 (.string (fu (iC p cb)))).set 1 (.int .i64 0));have hkb:=VK.out.XI;have Ar:Hid (∃f,xA ((w6.setCell ⟨w.heap.size,0,none⟩ (.string (fu (iC p cb)))).setCell ⟨w.heap.size,1,none⟩ (.int .i64 0)) kb n f∧∀i u,f i=some u→∃d,l[i]?=some d∧u=.agg #[.string (fu (iC p d)),.int .i64 0]):=by
      obtain⟨f,h1,h2⟩:=hkb;exact⟨f,(h1.grown (gG _ w.heap.size 0 _) (by intro e;injection e with e;omega)).grown (gG _ w.heap.size 1 _) (by intro e;injection e with e;omega),h2⟩
     clear hkb;go_wp2;clear x0 x1 g0 g1;change bodyPost _ _ _ _ _ ((w6.setCell ⟨w.heap.size,0,none⟩ (.string (fu (iC p cb)))).setCell ⟨w.heap.size,1,none⟩ (.int .i64 0));generalize (w6.setCell ⟨w.heap.size,0,none⟩ (.string (fu (iC p cb)))).setCell ⟨w.heap.size,1,none⟩ (.int .i64 0)=wz at *;have k0:=EO.out.cl 0;have k1:=EO.out.cl 1;exact bodyPost_ret (v:=.agg #[.string (fu (iC p cb)),.int .i64 0]) (by simp[results,results120,go_sem,k0,k1]) rfl ⟨rfl,GR.out,n,by omega,yT.out.know GR.out Ar.out⟩
 ·have hba:cb∈base:=by
   rcases HBS.out with h|⟨j',h1,h2⟩
   ·exact h
   ·exact absurd (aV h2) hin
  obtain⟨ob,Nj,hol,hoe,hom⟩:=HQ.out cb hba;have HOO:=af Nj;have HOL:=af hol;have Jz:=af hoe;have HOM:=af hom;have HFV:=af (hix.2 cb hin);clear hix hin hba Nj hol hoe hom;refine iN gB 11 (fun i v ww=>match i with
   |0=>v=.pointer (some ⟨g,0,none⟩)
   |1=>v=.pointer (some ⟨g,0,none⟩)
   |2=>v=.pointer (some ⟨g,3,none⟩)
   |3=>v=.map (some ib)
   |4=>v=.agg #[.int .u64 (cb.1.toNat:Int),.int .u64 (cb.2.toNat:Int)]
   |5=>v=.tuple #[.int .i64 0,.bool false]
   |6=>v=.tuple #[.int .i64 0,.bool false]
   |7=>v=.int .i64 0
   |8=>v=.bool false
   |9=>v=.int .i64 0
   |_=>v=.bool false) 0 gB (fun i v w w' h hb=>?_) ?_ ?_
  ·exact PH
  ·rintro i o hi ho a w1 hdf hlen hold hbel gK K hK;clear hdf;have oW:=(gH wr).trans hbel;obtain⟨⟨AE,cE,hrd,_⟩,hpl,_,_,_⟩:=HR.out.below oW;have y3:=hrd.cl 3;obtain⟨yd0,yd1⟩:=kI (HD.out.keep oW);obtain⟨kl,hkl⟩:=nk cb;have hlk:=(XJ.out.keep oW).look (P:=prog) true lX underlying84 kN (EC _) cb hkl;rw[HFV.out]at hlk;unfold lS at hlk;have s0:=kZ hold 0 (.pointer (some ⟨g,0,none⟩));have s5:=kZ hold 5 (.pointer (some ⟨w.heap.size+1,0,none⟩));have hi':i=0∨i=1∨i=2∨i=3∨i=4∨i=5∨i=6∨i=7∨i=8∨i=9∨i=10:=by omega
   rcases hi' with rfl|rfl|rfl|rfl|rfl|rfl|rfl|rfl|rfl|rfl|rfl<;>obtain rfl:=aB ho
   ·exact iJ s0
   ·exact iJ (iq gK 0 20)
   ·exact iJ (iq gK 1 21)
   ·exact iJ (iq gK 2 22)
   ·exact iJ s5
   ·refine sM (iq gK 3 23) (iq gK 4 24) ?_;exact hK _ w1 (by first|rfl|simp) gD
   ·exact iJ (iq gK 5 25)
   ·exact iJ (iq gK 6 19)
   ·exact iJ (iq gK 6 19)
   ·exact iJ (iq gK 7 26)
   ·exact iJ (iq gK 8 27)
  ·rintro a w1 hdf hlen hold hbel hnew;have e6:=qH hnew 9 6;simp only at e6;have e7:=qH hnew 10 7;simp only at e7;obtain⟨uq,hu,hact⟩:=kL [20,21,22,23,24,25,19,26,27,6,7] hdf hlen hold;simp only[hu]at e6 e7;simp only[List.foldl,e6,e7,SA]at hact;clear hdf hlen hold hnew e6 e7 hu;subst hact;refine iP ?_;have om:=(gH wr).trans hbel;have HR1:=af (HR.out.below om);have xC:=af (HF.out.keep om);have HB1:=(hTr HB om);have HD1:=af (HD.out.keep om);clear hbel om HR HF HB HD XJ HFV;have HR:=HR1;have HF:=xC;have HB:=HB1;have HD:=HD1;clear HR1 xC HB1 HD1;generalize w1=wr at *
   go_upto_region 5 with (fail);obtain⟨h5,hh5⟩:∃h,h=wr.heap.size:=⟨_,rfl⟩;refine BV gB 10 8 [7] (fun i v ww=>match i with
    |0=>v=.pointer (some ⟨g,0,none⟩)
    |1=>v=.pointer (some ⟨g,0,none⟩)
    |2=>v=.pointer (some ⟨g,2,none⟩)
    |3=>v=vq
    |4=>v=.agg #[.int .u64 (cb.1.toNat:Int),.int .u64 (cb.2.toNat:Int)]
    |5=>∃A n c A' n' c',v=.tuple #[.agg #[.int .i64 ob.kind,.string (fu ob.data),.slice A n c,.int .u64 (ob.tree.1.toNat:Int),.int .u64 (ob.tree.2.toNat:Int),.slice A' n' c',.string (fu ob.gM),.int .i64 ob.time,.string (fu ob.msg)],.int .i64 0]∧nC h5 ww (.slice A n c) (.slice A' n' c') ob
    |6=>∃A n c A' n' c',v=.tuple #[.agg #[.int .i64 ob.kind,.string (fu ob.data),.slice A n c,.int .u64 (ob.tree.1.toNat:Int),.int .u64 (ob.tree.2.toNat:Int),.slice A' n' c',.string (fu ob.gM),.int .i64 ob.time,.string (fu ob.msg)],.int .i64 0]∧nC h5 ww (.slice A n c) (.slice A' n' c') ob
    |7=>∃A n c A' n' c',v=.agg #[.int .i64 ob.kind,.string (fu ob.data),.slice A n c,.int .u64 (ob.tree.1.toNat:Int),.int .u64 (ob.tree.2.toNat:Int),.slice A' n' c',.string (fu ob.gM),.int .i64 ob.time,.string (fu ob.msg)]∧nC h5 ww (.slice A n c) (.slice A' n' c') ob
    |8=>v=.int .i64 0
    |_=>∃b,v=.pointer (some ⟨b,0,none⟩)∧gV ww b 44 (je jO (.slice none 0 0) (.slice none 0 0))∧h5≤b) gB (fun i v w w' h hb=>?_) ?_ ?_ ?_
   ·match i,h with
    |0,h=>exact h
    |1,h=>exact h
    |2,h=>exact h
    |3,h=>exact h
    |4,h=>exact h
    |5,h=>exact(by obtain⟨A,n,c,A',n',c',h1,h2⟩:=h;exact⟨A,n,c,A',n',c',h1,h2.below hb⟩)
    |6,h=>exact(by obtain⟨A,n,c,A',n',c',h1,h2⟩:=h;exact⟨A,n,c,A',n',c',h1,h2.below hb⟩)
    |7,h=>exact(by obtain⟨A,n,c,A',n',c',h1,h2⟩:=h;exact⟨A,n,c,A',n',c',h1,h2.below hb⟩)
    |8,h=>exact h
    |9,h=>exact(by obtain⟨b,h1,h2,h3⟩:=h;exact⟨b,h1,h2.keep hb,h3⟩)
    |_+10,h=>exact(by obtain⟨b,h1,h2,h3⟩:=h;exact⟨b,h1,h2.keep hb,h3⟩)
   ·rintro i o hi hix ho a w1 hdf hlen hold hbel gK K hK;clear hdf;have sF:∀{A:Prop},i=8→A:=fun e=>absurd e hix
    clear hix;have oW:=(gH wr).trans hbel;obtain⟨⟨AE,cE,hrd,_⟩,hpl,_,_,_⟩:=HR.out.below oW;have y2:=hrd.cl 2;obtain⟨yd0,yd1⟩:=kI (HD.out.keep oW);have s0:=kZ hold 0 (.pointer (some ⟨g,0,none⟩));have s5:=kZ hold 5 (.pointer (some ⟨w.heap.size+1,0,none⟩));have hi':i=0∨i=1∨i=2∨i=3∨i=4∨i=5∨i=6∨i=7∨i=8∨i=9:=by omega
    rcases hi' with rfl|rfl|rfl|rfl|rfl|rfl|rfl|rfl|rfl|rfl
    ·clear sF;obtain rfl:=aB ho;unfold Oper.wp;simp only[execOp,Act.eval,s0];go_simp;exact hK _ w1 rfl gD
    ·clear sF;obtain rfl:=aB ho;have e38:=iq gK 0 38;simp only at e38;unfold Oper.wp;simp only[execOp,Act.eval,e38];go_simp;exact hK _ w1 rfl gD
    ·clear sF;obtain rfl:=aB ho;have e39:=iq gK 1 39;simp only at e39;unfold Oper.wp;simp only[execOp,Act.eval,e39];go_simp;exact hK _ w1 rfl gD
    ·clear sF;obtain rfl:=aB ho;have e40:=iq gK 2 40;simp only at e40;unfold Oper.wp;simp only[execOp,Act.eval,e40];go_simp;exact hK _ w1 rfl gD
    ·clear sF;obtain rfl:=aB ho;unfold Oper.wp;simp only[execOp,Act.eval,s5];go_simp;exact hK _ w1 rfl gD
    ·clear sF;obtain rfl:=aB ho;have e41:=iq gK 3 41;simp only at e41;have e42:=iq gK 4 42;simp only at e42;unfold Oper.wp;simp only[execOp,Act.eval,e41,e42];go_simp;have CG:=Jd w1 vq q cb ob hpl HGq.out HOM.out HOO.out HOL.out HQL.out;unfold lS at CG;refine CG.mono ?_;rintro e' w4 ⟨A4,n4,c4,A5,n5,c5,rfl,hO4,hb4⟩;exact hK _ w4 ⟨A4,n4,c4,A5,n5,c5,rfl,hO4.lower (by have:=hbel.size;have:=(gH wr).size;omega)⟩ hb4
    ·clear sF;obtain rfl:=aB ho;have e43:=iq gK 5 43;simp only at e43;obtain⟨A4,n4,c4,A5,n5,c5,aak,aal⟩:=e43;unfold Oper.wp;simp only[execOp,Act.eval,aak];go_simp;exact hK _ w1 ⟨A4,n4,c4,A5,n5,c5,rfl,aal⟩ gD
    ·clear sF;obtain rfl:=aB ho;have e37:=iq gK 6 37;simp only at e37;obtain⟨A4,n4,c4,A5,n5,c5,Oe,Uz⟩:=e37;unfold Oper.wp;simp only[execOp,Act.eval,Oe];go_simp;exact hK _ w1 ⟨A4,n4,c4,A5,n5,c5,rfl,Uz⟩ gD
    ·exact sF rfl
    ·clear sF;obtain rfl:=aB ho;unfold Oper.wp;simp only[execOp,Act.eval];go_simp;exact hK _ _ ⟨w1.heap.size,rfl,gV.new w1 _ _,by have:=hbel.size;have:=(gH wr).size;omega⟩ ((ah _ _).alloc (ak _) _)
   ·rintro o ho a w1 hlen hold hbel gK;obtain rfl:=aB ho;have e37:=iq gK 6 37;simp only at e37;obtain⟨A4,n4,c4,A5,n5,c5,Oe,Uz⟩:=e37;refine⟨_,rfl,fun w'=>?_⟩;simp only[execOp,Act.eval,Oe];go_simp
   ·rintro a w1 hdf hlen hold hbel hnew;have e44:=qH hnew 7 44;simp only at e44;have e45:=qH hnew 8 45;simp only at e45;have e8:=qH hnew 9 8;simp only at e8;obtain⟨A4,n4,c4,A5,n5,c5,e44,hO4⟩:=e44;obtain⟨bx,e8,hbx,hb5⟩:=e8;obtain⟨uq,hu,hact⟩:=kL [38,39,40,41,42,43,37,44,45,8] hdf hlen hold;simp only[hu]at e45 e44 e8;simp only[List.foldl,e45,e44,e8,SA]at hact;clear hdf hlen hold hnew e45 e44 e8 hu;subst hact;have oW:=(gH wr).trans hbel;obtain⟨t0,t1,t2,t3,t4,t5,t6,t7,t8⟩:=iB hbx;obtain⟨Un,Uo,XA,VH,XB,XC,XE,w7f,w8f⟩:=mP hbx;have PB:=af (jG (o:=ob) (ve:=.slice A4 n4 c4) (vp:=.slice A5 n5 c5) hbx)
    have PG:=iR w1 bx ob (.slice A4 n4 c4) (.slice A5 n5 c5);have PO:=af (GQ hO4 PG hbx).at;have hk5:=oW.grown PG oW.size (fun q e=>by cases e;omega);have PR:=af (HR.out.below hk5);have PK:=(hTr HB hk5);have PF:=af (HF.out.keep hk5);clear hbel oW hk5 PG hO4 hbx;refine kF.lt 10 ?_;intro K hK;go_simp;refine hK _ _ ?_;clear hK K;change kF _ _ _ _ _ _ _ _ _ (kJ w1 bx ob (.slice A4 n4 c4) (.slice A5 n5 c5));clear t0 t1 t2 t3 t4 t5 t6 t7 t8 Un Uo XA VH XB XC XE w7f w8f;generalize kJ w1 bx ob (.slice A4 n4 c4) (.slice A5 n5 c5)=w5 at *;refine kF.lt 11 ?_;intro K hK;go_simp
    refine hK _ _ (iP ?_);clear hK K;obtain⟨k0,k1,k2,k3,k4,k5,k6,k7,k8⟩:=iB PB.out;have CE:=qK w5 ob _ _ PO.out HOO.out HOL.out;unfold je at CE;have CE:=af CE;go_wp2_with fail;refine CE.out.mono ?_;rintro e w6 ⟨rfl,hb6⟩;rw[Jz.out];have VK:=af (PR.out.below hb6);have HK6:=(hTr PK hb6);have Bv:=af (PF.out.keep hb6);clear CE PR PK PF PB PO hb6 k0 k1 k2 k3 k4 k5 k6 k7 k8;have x0:=Bv.out.cl 0;have x1:=Bv.out.cl 1;obtain⟨g0,g1⟩:=JO Bv.out;have GR:=af (iO (iO (nP (r:=some kb) HK6.out) (ak _) 0 (.string (fu (iC p cb)))) (ak _) 1 (.int .i64 0))
    have EO:=af ((Bv.out.set 0 (.string (fu (iC p cb)))).set 1 (.int .i64 0));have hkb:=VK.out.XI;have Ar:Hid (∃f,xA ((w6.setCell ⟨w.heap.size,0,none⟩ (.string (fu (iC p cb)))).setCell ⟨w.heap.size,1,none⟩ (.int .i64 0)) kb n f∧∀i u,f i=some u→∃d,l[i]?=some d∧u=.agg #[.string (fu (iC p d)),.int .i64 0]):=by
     obtain⟨f,h1,h2⟩:=hkb;exact⟨f,(h1.grown (gG _ w.heap.size 0 _) (by intro e;injection e with e;omega)).grown (gG _ w.heap.size 1 _) (by intro e;injection e with e;omega),h2⟩
    clear hkb;go_wp2;clear x0 x1 g0 g1;change bodyPost _ _ _ _ _ ((w6.setCell ⟨w.heap.size,0,none⟩ (.string (fu (iC p cb)))).setCell ⟨w.heap.size,1,none⟩ (.int .i64 0));generalize (w6.setCell ⟨w.heap.size,0,none⟩ (.string (fu (iC p cb)))).setCell ⟨w.heap.size,1,none⟩ (.int .i64 0)=wz at *;have k0:=EO.out.cl 0;have k1:=EO.out.cl 1;exact bodyPost_ret (v:=.agg #[.string (fu (iC p cb)),.int .i64 0]) (by simp[results,results120,go_sem,k0,k1]) rfl ⟨rfl,GR.out,n,by omega,yT.out.know GR.out Ar.out⟩
end Go.Proofs.YtichfhpgdhdiaaaGreat
