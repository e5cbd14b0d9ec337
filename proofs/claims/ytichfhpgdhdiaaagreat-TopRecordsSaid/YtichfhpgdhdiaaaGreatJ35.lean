/- Objects -/
import Derived.Test.YtichfhpgdhdiaaaGreatJ34
import Derived.Test.YtichfhpgdhdiaaaGreatJ3
import Derived.Laws.IdiomStrings
import Derived.Test.YtichfhpgdhdiaaaGreatJ31
set_option maxRecDepth 100000
set_option maxHeartbeats 8000000
set_option linter.unusedVariables false
set_option linter.unusedSimpArgs false
open Go.Proofs.Tryz
namespace Go.Proofs.YtichfhpgdhdiaaaGreat
open Go.RowKit
def ZQ(l:List En)(k:Nat):Prop:=(∀i x,i<k→l[i]?=some x→Ro x.name=true∧x.dg≠(0,0))∧∀i x y,i+1<k→l[i]?=some x→l[i+1]?=some y→N8 x.name y.name=true
theorem ZQ.done{l:List En}(h:ZQ l l.length)(hl:l.length≤200):Ug l :=
 ⟨hl,fun x hx=>by
  obtain⟨i,hi⟩:=bU hx;exact h.1 i x (ay.1 hi).1 hi,fun i x y hx hy=>h.2 i x y (ay.1 hy).1 hx hy⟩
theorem ZQ.step{l:List En}{k:Nat}{x:En}(h:ZQ l k)(hx:l[k]?=some x)(h1:Ro x.name=true)(h2:x.dg≠(0,0))(h3:∀y,0<k→l[k-1]?=some y→N8 y.name x.name=true):ZQ l (k+1):=by
 refine⟨fun i y hi hy=>?_,fun i y z hi hy hz=>?_⟩
 ·rcases dD (eX.1 hi)with h5|rfl
  ·exact h.1 i y h5 hy
  ·rw[hx]at hy;cases hy;exact⟨h1,h2⟩
 ·rcases dD (eX.1 hi)with h5|h5
  ·exact h.2 i y z h5 hy hz
  ·have hz':z=x:=by rw[h5,hx]at hz;exact(aB hz).symm
   subst hz';exact h3 y fZ (by rw[←h5];exact hy)
theorem I7(w:World)(v:Value)(l:List En)(h:N9 w v l)(hn:∀x∈l,x.name.length≤1000000)(hl:l.length≤1000000):
  Calls prog 172 #[v] w (qd (Ug l) w):=by
 obtain⟨A,c,rfl,hc,hm⟩:=h.form;by_cases hb:200<l.length
 ·have hb':(200:Int)<(l.length:Int):=by omega
  go_enter func172,ntmps172;go_wp2;go_ret;exact qd.bad gm (ah _ _)
 ·have hb':¬(200:Int)<(l.length:Int):=by omega
  have HP:=af h;have HN:=af hn;have H0:Hid (ZQ l 0):=⟨fun i x hi=>by omega,fun i x y hi=>by omega⟩;clear h hn;go_enter func172,ntmps172;go_wp2;clear hb';go_loopw [3] (fun iv wr=>∃k:Nat,k≤l.length∧iv=.int .i64 k∧Hid (ZQ l k)∧Below w.heap.size w wr) (fun iv _=>l.length-(intOf iv).toNat)
  case atStart=>exact⟨0,by omega,rfl,H0,ah _ _⟩
  case round =>
   clear H0;obtain⟨k,hk,rfl,HR,hbw⟩:=hrel;have HB:=af hbw;by_cases hlt:k<l.length
   ·obtain⟨x,hx⟩:∃x,l[k]?=some x:=⟨_,au hlt⟩;have hpw:=HP.out.keep (dO hbw);obtain⟨b1,o1,rfl,c0,c1,c2,c3⟩:=hpw.get hx;have hlt':(k:Int)<(l.length:Int):=by omega
    have HX:=af hx;have CV:=af (EF x.name wr (by have:=HN.out x (aV hx);omega));have CZ:=af (fun w'=>oN x.dg w');unfold lS at CZ;by_cases hk0:0<k
    ·obtain⟨y,hy⟩:∃y,l[k-1]?=some y:=⟨_,au fZ ⟩;obtain⟨b2,o2,e2,d0,d1,d2,d3⟩:=hpw.get hy;cases e2;have HY:=af hy;have hk0':(0:Int)<(k:Int):=by omega
     have hk1:IntKind.i64.wrap ((k:Int)-1)=((k-1:Nat):Int):=by rw[jo fZ fZ ];omega
     have hk2:((k-1:Nat):Int)<(l.length:Int):=by omega
     clear hx hy hpw hbw;go_wp2_with fail;refine CV.out.mono ?_;rintro e w1 ⟨b,rfl,hbn,rfl⟩;have Uh:=af hbn;clear hbn CV;cases b with
     |false =>
      go_wp2;go_ret;exact qd.bad gm HB.out
     |true =>
      generalize hkm:k-1=km at *;by_cases hlx:N8 y.name x.name=true
      ·have hl1:Op.bytesLess (fu y.name).toList (fu x.name).toList=true:=by rw[gQ,gQ];exact hlx
       have HLX:=af hlx;clear hlx;go_wp2;go_quiet (fail);by_cases hz:x.dg=(0,0)
       ·have F8:=af (fun w'=>by have h:=CZ.out w';rw[decide_eq_true hz]at h;exact h);clear CZ hz;go_wp2_with fail;refine(F8.out _).mono ?_;rintro e w2 ⟨rfl,hb2⟩;have HB2:=af ((below_drewN' HB.out _).trans (hb2.mono (below_drewN' HB.out _).size));clear hb2;go_wp2;go_ret;exact qd.bad gm HB2.out
       ·have F8:=af (fun w'=>by have h:=CZ.out w';rw[decide_eq_false hz]at h;exact h);have HR2:=af (HR.out.step HX.out (Uh.out (by first|trivial|rfl)) hz (fun y' _ hy'=>by rw[hkm,HY.out]at hy';cases hy';exact HLX.out));clear CZ hz HR;go_wp2_with fail;refine(F8.out _).mono ?_;rintro e w2 ⟨rfl,hb2⟩;have HB2:=af ((below_drewN' HB.out _).trans (hb2.mono (below_drewN' HB.out _).size));clear hb2;go_wp2;go_roundw
        case rel=>exact⟨k+1,by omega,by go_num,HR2,HB2.out⟩
        case measure=>simp[intOf];omega
      ·have hl0:N8 y.name x.name=false:=by simpa using hlx
       have hl1:Op.bytesLess (fu y.name).toList (fu x.name).toList=false:=by rw[gQ,gQ];exact hl0
       clear hl0;clear hlx;go_wp2;go_quiet (fail);go_wp2;go_ret;exact qd.bad gm (below_drewN' HB.out _)
    ·have hk0':¬(0:Int)<(k:Int):=by omega
     clear hx hpw hbw;go_wp2_with fail;refine CV.out.mono ?_;rintro e w1 ⟨b,rfl,hbn,rfl⟩;have Uh:=af hbn;clear hbn CV;cases b with
     |false =>
      go_wp2;go_ret;exact qd.bad gm HB.out
     |true =>
      go_wp2;go_quiet (fail);by_cases hz:x.dg=(0,0)
      ·have F8:=af (fun w'=>by have h:=CZ.out w';rw[decide_eq_true hz]at h;exact h);clear CZ hz;go_wp2_with fail;refine(F8.out _).mono ?_;rintro e w2 ⟨rfl,hb2⟩;have HB2:=af ((below_drewN' HB.out _).trans (hb2.mono (below_drewN' HB.out _).size));clear hb2;go_wp2;go_ret;exact qd.bad gm HB2.out
      ·have F8:=af (fun w'=>by have h:=CZ.out w';rw[decide_eq_false hz]at h;exact h);have HR2:=af (HR.out.step HX.out (Uh.out (by first|trivial|rfl)) hz (fun y' hy0=>absurd hy0 hk0));clear CZ hz HR;go_wp2_with fail;refine(F8.out _).mono ?_;rintro e w2 ⟨rfl,hb2⟩;have HB2:=af ((below_drewN' HB.out _).trans (hb2.mono (below_drewN' HB.out _).size));clear hb2;go_wp2;go_roundw
       case rel=>exact⟨k+1,by omega,by go_num,HR2,HB2.out⟩
       case measure=>simp[intOf];omega
   ·obtain rfl:k=l.length:=by omega
    have HD:=af (HR.out.done fZ );have hlt':¬(l.length:Int)<(l.length:Int):=by omega
    go_wp2;go_ret;exact⟨0,rfl,fun _=>HD.out,HB.out⟩
end Go.Proofs.YtichfhpgdhdiaaaGreat
namespace Go.Proofs.YtichfhpgdhdiaaaGreat
open Go.RowKit
def CoP(tree:Dg)(gU:List Dg)(gM:List UInt8)(time:Int)(msg:List UInt8):Prop:=tree≠(0,0)∧gU.length≤8∧(∀d∈gU,d≠(0,0))∧gU.Nodup∧Ro gM=true∧0≤time∧time≤1099511627776∧msg.length≤200
def ZR(l:List Dg)(k:Nat):Prop:=(∀i x,i<k→l[i]?=some x→x≠(0,0))∧∀i j x y,i<j→j<k→l[i]?=some x→l[j]?=some y→x≠y
theorem ZR.done{l:List Dg}(h:ZR l l.length):(∀d∈l,d≠(0,0))∧l.Nodup:=by
 refine⟨fun d hd=>?_,?_⟩
 ·obtain⟨i,hi⟩:=bU hd;exact h.1 i d (ay.1 hi).1 hi
 ·exact List.pairwise_iff_getElem.2 fun i j hi hj hij=>h.2 i j _ _ hij hj (au hi) (au hj)
theorem ZR.step{l:List Dg}{k:Nat}{x:Dg}(h:ZR l k)(hx:l[k]?=some x)(h1:x≠(0,0))(h2:∀i y,i<k→l[i]?=some y→y≠x):ZR l (k+1):=by
 refine⟨fun i y hi hy=>?_,fun i j y z hij hj hy hz=>?_⟩
 ·rcases dD (eX.1 hi)with h5|rfl
  ·exact h.1 i y h5 hy
  ·rw[hx]at hy;cases hy;exact h1
 ·rcases dD (eX.1 hj)with h5|rfl
  ·exact h.2 i j y z hij h5 hy hz
  ·rw[hx]at hz;cases hz;exact h2 i y hij hy
theorem Lx(w:World)(o:Ob)(ve vp:Value)(h:wU w ve vp o)(hl:o.gU.length≤1000000)(hau:o.gM.length≤1000000):
  Calls prog 173 #[.agg (je o ve vp)] w (qd (CoP o.tree o.gU o.gM o.time o.msg) w):=by
 obtain⟨kind,data,gW,tree,gU,gM,time,msg⟩:=o;obtain⟨yG,yH⟩:=h;obtain⟨eA,ec,rfl,he1,he2⟩:=yG.form;obtain⟨pA,pc,rfl,hp1,hp2⟩:=yH.form;unfold je;simp only at *;have HK:=af ((ah w.heap.size w).alloc (ak _) (.cells #[.int .i64 kind,.string (fu data),.slice eA gW.length ec,.int .u64 (tree.1.toNat:Int),.int .u64 (tree.2.toNat:Int),.slice pA gU.length pc,.string (fu gM),.int .i64 time,.string (fu msg)] 44));have HB:=af (gV.new w #[.int .i64 kind,.string (fu data),.slice eA gW.length ec,.int .u64 (tree.1.toNat:Int),.int .u64 (tree.2.toNat:Int),.slice pA gU.length pc,.string (fu gM),.int .i64 time,.string (fu msg)] 44)
 have Fg:=af (yG.keep (dO HK.out));have Fh:=af (yH.keep (dO HK.out));clear yG yH;obtain⟨q0,q1,q2,q3,q4,q5,q6,q7,q8⟩:=iB HB.out;have hzm:=gL msg;go_enter func173,ntmps173;go_upto_region 1 with (fail);generalize w.alloc (.cells #[.int .i64 kind,.string (fu data),.slice eA gW.length ec,.int .u64 (tree.1.toNat:Int),.int .u64 (tree.2.toNat:Int),.slice pA gU.length pc,.string (fu gM),.int .i64 time,.string (fu msg)] 44)=w1 at *;by_cases t0:tree=(0,0)
 ·have CZ:=af (fun w'=>by have h:=oN tree w';rw[decide_eq_true t0]at h;unfold lS at h;exact h);clear t0;go_wp2_with fail;refine(CZ.out _).mono ?_;rintro e w2 ⟨rfl,hb⟩;have HB2:=(hTr HK hb);clear hb;go_wp2;go_ret;exact qd.bad gm HB2.out
 ·have CZ:=af (fun w'=>by have h:=oN tree w';rw[decide_eq_false t0]at h;unfold lS at h;exact h);have HT0:=af t0;clear t0;go_wp2_with fail;refine(CZ.out _).mono ?_;rintro e w2 ⟨rfl,hb⟩;have HB2:=(hTr HK hb);have HBo:=af (HB.out.keep hb);have HDo:=af (Fh.out.keep (dO hb));clear q0 q1 q2 q3 q4 q5 q6 q7 q8 hb CZ HB Fh Fg HK;obtain⟨q0,q1,q2,q3,q4,q5,q6,q7,q8⟩:=iB HBo.out;by_cases h8:(8:Int)<(gU.length:Int)
  ·go_wp2;go_ret;exact qd.bad gm HB2.out
  have HP0:Hid (ZR gU 0):=⟨fun i x hi=>by omega,fun i j x y _ hj=>by omega⟩;go_wp2;clear q0 q1 q2 q3 q4 q5 q6 q7 q8;go_loopw [3] (fun iv wr=>∃k:Nat,k≤gU.length∧iv=.int .i64 k∧Hid (ZR gU k)∧Below w2.heap.size w2 wr) (fun iv _=>gU.length-(intOf iv).toNat)
  case atStart=>exact⟨0,by omega,rfl,HP0,ah _ _⟩
  case round =>
   clear HP0;obtain⟨k,hk,rfl,HR,hbw⟩:=hrel;have o8:=af hbw;have I8:=af (HBo.out.keep hbw);have qY:=af (HDo.out.keep (dO hbw));clear hbw;obtain⟨q0,q1,q2,q3,q4,q5,q6,q7,q8⟩:=iB I8.out;by_cases hlt:k<gU.length
   ·obtain⟨x,hx⟩:∃x,gU[k]?=some x:=⟨_,au hlt⟩;obtain⟨b1,o1,rfl,c0,c1⟩:=qY.out.get hx;have hlt':(k:Int)<(gU.length:Int):=by omega
    have HX:=af hx;clear hx;by_cases hz:x=(0,0)
    ·have CZ:=af (fun w'=>by have h:=oN x w';rw[decide_eq_true hz]at h;unfold lS at h;exact h);clear hz;go_wp2_with fail;refine(CZ.out _).mono ?_;rintro e w3 ⟨rfl,hb3⟩;have HB3:=af (HB2.out.trans ((o8.out.trans (hb3.mono o8.out.size)).mono HB2.out.size));clear hb3;go_wp2;go_ret;exact qd.bad gm HB3.out
    ·have CZ:=af (fun w'=>by have h:=oN x w';rw[decide_eq_false hz]at h;unfold lS at h;exact h);have HZ:=af hz;clear hz;go_wp2_with fail;refine(CZ.out _).mono ?_;rintro e w3 ⟨rfl,hb3⟩;have HB3:=(hTr o8 hb3);have Ui:=af (I8.out.keep hb3);have HDq:=af (qY.out.keep (dO hb3));clear hb3 q0 q1 q2 q3 q4 q5 q6 q7 q8 c0 c1 I8 qY o8;have HJ0:Hid (∀i y,i<0→gU[i]?=some y→y≠x):=fun i y hi=>by omega
     go_wp2;go_loopw [4] (fun jv wr=>∃j:Nat,j≤k∧jv=.int .i64 j∧Hid (∀i y,i<j→gU[i]?=some y→y≠x)∧jZ w3 wr) (fun jv _=>k-(intOf jv).toNat)
     case atStart=>exact⟨0,by omega,rfl,HJ0,jZ.refl _⟩
     case round =>
      clear HJ0;obtain⟨j,hj,rfl,HJ,hdr⟩:=hrel;have HDR:=af hdr;have hbx:=Ui.out.keep (hdr.below _);obtain⟨q0,q1,q2,q3,q4,q5,q6,q7,q8⟩:=iB hbx;clear q0 q1 q2 q3 q4 q6 q7 q8 hbx;by_cases hjk:j<k
      ·obtain⟨y,hy⟩:∃y,gU[j]?=some y:=⟨_,au fZ ⟩;obtain⟨b2,o2,e2,d0,d1⟩:=(HDq.out.keep hdr.keeps).get hy;cases e2;obtain⟨b3,o3,e3,c0,c1⟩:=(HDq.out.keep hdr.keeps).get HX.out;cases e3;have hj':(j:Int)<(gU.length:Int):=by omega
       have agm:(j:Int)<(k:Int):=by omega
       clear hdr;by_cases hyx:y=x
       ·have hb2:=xG y x;rw[decide_eq_true hyx]at hb2;clear hyx hy;go_wp2;go_quiet (fail);go_wp2;go_ret;exact qd.bad gm (HB2.out.trans ((HB3.out.trans ((((HDR.out.drewN _).below _)).mono HB3.out.size)).mono HB2.out.size))
       ·have hb2:=xG y x;rw[decide_eq_false hyx]at hb2;have HJ2:Hid (∀i y,i<j+1→gU[i]?=some y→y≠x):=fun i y' hi hy'=>by
         rcases dD (eX.1 hi)with h5|rfl
         ·exact HJ.out i y' h5 hy'
         ·rw[hy]at hy';cases hy';exact hyx
        clear hyx hy;go_wp2;go_quiet (fail);go_wp2;go_roundw
        case rel=>exact⟨j+1,by omega,by go_num,HJ2,HDR.out.drewN _⟩
        case measure=>simp[intOf];omega
      ·obtain rfl:j=k:=by omega
       have agm:¬(j:Int)<(j:Int):=by omega
       have HR2:=af (HR.out.step HX.out HZ.out HJ.out);have kY:=af (HB3.out.trans ((HDR.out.below _).mono HB3.out.size));clear hdr HJ HR;go_wp2;go_roundw
       case rel=>exact⟨j+1,by omega,by go_num,HR2,kY.out⟩
       case measure=>simp[intOf];omega
   ·obtain rfl:k=gU.length:=by omega
    have HD:=af HR.out.done;have hlt':¬(gU.length:Int)<(gU.length:Int):=by omega
    have CV:=af (EF gM wr fZ );have HB3:=af (HB2.out.trans (o8.out.mono HB2.out.size));clear HR hlt;go_wp2_with fail;refine CV.out.mono ?_;rintro e w4 ⟨b,rfl,hbn,rfl⟩;have Uh:=af hbn;clear hbn CV;cases b with
    |false =>
     go_wp2;go_ret;exact qd.bad gm HB3.out
    |true =>
     by_cases ht0:time<0
     ·go_wp2;go_ret;exact qd.bad gm HB3.out
     by_cases ht1:1099511627776<time
     ·go_wp2;go_ret;exact qd.bad gm HB3.out
     by_cases hm:(200:Int)<(msg.length:Int)
     ·go_wp2;go_ret;exact qd.bad gm HB3.out
     have HO:Hid (CoP tree gU gM time msg):=⟨HT0.out,by omega,HD.out.1,HD.out.2,Uh.out (by first|trivial|rfl),by omega,by omega,by omega⟩;go_wp2;go_ret;exact⟨0,rfl,fun _=>HO.out,HB3.out⟩
end Go.Proofs.YtichfhpgdhdiaaaGreat
namespace Go.Proofs.YtichfhpgdhdiaaaGreat
open Go.RowKit
theorem Tryz.uY:(Tryz.prog.info? 5).map (fun i=>(i.zero,i.size,i.bytes))=some (some (.int .u8 0),1,1):=by kernel_rfl
def Vv(l:List UInt8):Array Value:=(l.map fun b=>Value.int .u8 (b.toNat:Int)).toArray
theorem WH(l:List UInt8)(j:Nat)(b:UInt8):(Vv l).setIfInBounds j (.int .u8 (b.toNat:Int))=Vv (l.set j b):=by
 unfold Vv;rw[List.setIfInBounds_toArray,List.map_set]
theorem Np{P:Program}(W:World)(src e dst:TypeId)(hs:P.underlying src=some (.slice e))(he:P.underlying e=some (.int .u8))(hd:P.underlying dst=some .string)(g cap:Nat)(l:List UInt8)(hb:gV W g e (Vv l)):(convert src dst (.slice (some ⟨g,0,none⟩) l.length cap)).run P W=.ok (.string (fu l)) W :=
 run_convert_bytes_back (P:=P) W src dst e ⟨g,0,none⟩ cap l hs he hd fun j hj=>by
  have h1:=hb.cell (j:=j) (u:=.int .u8 (l[j].toNat:Int)) (by unfold Vv;simp[hj]);rw[show ((⟨g,0,none⟩:Addr).add j)=⟨g,j,none⟩ by simp[Addr.add];omega,h1]
def wd(d:Dg)(i:Nat):Nat:=if i=0 then d.1.toNat else d.2.toNat
theorem RZ(d:Dg)(i:Nat):wd d i<18446744073709551616:=by
 unfold wd;split
 ·exact d.1.toNat_lt
 ·exact d.2.toNat_lt
def xH(n m:Nat):List UInt8:=List.replicate m 0++(Nq n).drop m
def Ir(d:Dg)(i m:Nat):List UInt8:=if i=0 then xH d.1.toNat m++List.replicate 8 0 else Nq d.1.toNat++xH d.2.toNat m
theorem Aw(n m:Nat)(h:m≤8):(xH n m).length=8:=by
 unfold xH;rw[aj,eF,aC];show m+(8-m)=8;omega
theorem WI(d:Dg)(i m:Nat)(h:m≤8):(Ir d i m).length=16:=by
 unfold Ir;split
 ·rw[aj,Aw _ _ h];rfl
 ·rw[aj,Aw _ _ h];rfl
theorem DZ(n m:Nat)(h:m<8):(xH n (m+1)).set m (UInt8.ofNat (n/256^(7-m)))=xH n m:=by
 have hm:m=0∨m=1∨m=2∨m=3∨m=4∨m=5∨m=6∨m=7:=by omega
 rcases hm with rfl|rfl|rfl|rfl|rfl|rfl|rfl|rfl<;>simp[xH,Nq,List.replicate]
theorem SF(d:Dg)(i m:Nat)(hi:i<2)(h:m<8):(Ir d i (m+1)).set (8*i+m) (UInt8.ofNat (wd d i/256^(7-m)))=Ir d i m:=by
 have hi2:i=0∨i=1:=by omega
 rcases hi2 with rfl|rfl
 ·unfold Ir wd;rw[if_pos rfl,if_pos rfl,if_pos rfl,Nat.mul_zero,bH,List.set_append_left _ _ (by rw[Aw _ _ fZ ];omega),DZ _ _ h]
 ·unfold Ir wd;rw[if_neg fZ ,if_neg fZ ,if_neg fZ ,Nat.mul_one,fD _ _ (by show 8≤_;omega)];rw[show 8+m-(Nq d.1.toNat).length=m by show 8+m-8=m;omega,DZ _ _ h]
theorem SG(d:Dg):Ir d 0 0=Ir d 1 8:=by simp[Ir,xH,Nq,List.replicate]
theorem WJ(d:Dg):Ir d 1 0=jb d:=by simp[Ir,xH,jb]
theorem Ql(d:Dg):Ir d 0 8=List.replicate 16 0:=by simp[Ir,xH,Nq,List.replicate]
def ByI(d:Dg)(i m n:Nat)(bs:List UInt8):Prop:=bs=Ir d i m∧n=wd d i/256^(8-m)
theorem ByI.step{d:Dg}{i m n:Nat}{bs:List UInt8}(h:ByI d i (m+1) n bs)(hi:i<2)(hm:m<8):ByI d i m (n/256) (bs.set (8*i+m) (UInt8.ofNat n)):=by
 obtain⟨rfl,rfl⟩:=h;refine⟨?_,?_⟩
 ·rw[show 8-(m+1)=7-m by omega,SF d i m hi hm]
 ·rw[Nat.div_div_eq_div_mul,show 8-m=(8-(m+1))+1 by omega,Nat.pow_succ]
theorem ofNat_mod(n:Nat):((UInt8.ofNat n).toNat:Int)=((n%256:Nat):Int):=by
 rw[UInt8.toNat_ofNat']
theorem Ko{x:Int}(h:0≤x∧x≤255):IntKind.u8.wrap x=x:=IntWalk.u8_in x h
theorem x9(d:Dg)(w:World):Calls prog 162 #[lS d] w fun e w'=>e=.returned (.string (fu (jb d)))∧Below w.heap.size w w':=by
 obtain⟨i0,hi,hy0,hy1,hy2⟩:=info_parts Tryz.uY;have HK:=af ((ah w.heap.size w).alloc (ak _) (.cells #[.int .u64 (d.1.toNat:Int),.int .u64 (d.2.toNat:Int)] 39));have HB:=af (gV.new w #[.int .u64 (d.1.toNat:Int),.int .u64 (d.2.toNat:Int)] 39);unfold lS;go_enter func162,ntmps162;go_upto_region 1 with (fail);generalize w.alloc (.cells #[.int .u64 (d.1.toNat:Int),.int .u64 (d.2.toNat:Int)] 39)=w1 at *;go_wp2_with (at_make;refine Ch _ rfl _ _ _ rfl 5 i0 (.int .u8 0) underlying120 hi hy0 hy1 rfl .i64 .i64 _ _ 16 rfl rfl fZ fZ (by rw[hy2];omega) fZ ?_;intro g w2 hg hblk hbel)
 have HB2:=af (HB.out.keep hbel);have lG:=(hTr HK hbel);have hgw:w.heap.size<g:=by have:=HB.out.lt;omega
 have HG:Hid (gV w2 g 5 (Vv (Ir d 0 8))):=by
  show gV _ _ _ _;rw[Ql];exact hblk
 clear HB HK hblk hbel;go_loopw [4] (fun iv wr=>∃i:Nat,i≤2∧iv=.int .i64 i∧gV wr g 5 (Vv (if i=2 then jb d else Ir d i 8))∧gV wr w.heap.size 39 #[.int .u64 (d.1.toNat:Int),.int .u64 (d.2.toNat:Int)]∧Below w.heap.size w wr) (fun iv _=>2-(intOf iv).toNat)
 case atStart=>exact⟨0,by omega,rfl,HG.out,HB2.out,lG.out⟩
 case round =>
  clear HG HB2 lG;obtain⟨i,hi2,rfl,hgb,hdb,hbw⟩:=hrel;have k0:=hdb.cl 0;have k1:=hdb.cl 1;by_cases hlt:i<2
  ·rw[if_neg fZ ]at hgb;have HG:=af hgb;have HD:=af hdb;have HW:=af hbw;have hci:wr.cell? ⟨w.heap.size,i,none⟩=some (.int .u64 (wd d i:Int)):=by
    have:i=0∨i=1:=by omega
    rcases this with rfl|rfl
    ·exact k0
    ·exact k1
   have hlt':(i:Int)<2:=by omega
   have HI0:Hid (ByI d i 8 (wd d i) (Ir d i 8)):=⟨rfl,by simp⟩;clear hgb hdb hbw k0 k1;go_wp2;clear hci;generalize wr=wa at *;go_loopw [5,6] (fun nv kv wr=>∃(m n:Nat) (bs:List UInt8),m≤8∧nv=.int .u64 (n:Int)∧kv=.int .i64 ((m:Int)-1)∧n<18446744073709551616∧Hid (ByI d i m n bs)∧bs.length=16∧gV wr g 5 (Vv bs)∧wa.grownBy wr (some g)) (fun _ kv _=>(intOf kv+1).toNat)
   case atStart=>exact⟨8,wd d i,Ir d i 8,by omega,rfl,rfl,RZ d i,HI0,WI d i 8 fZ ,HG.out,World.grownBy.refl _ _⟩
   case round =>
    clear HI0 HG;obtain⟨m,n,bs,hm,rfl,rfl,hn,HI,hbl,hgb,hgr⟩:=hrel;have HGb:=af hgb;have Jt:=af hgr;rcases m with _|m
    ·have hm0:¬(0:Int)≤((0:Nat):Int)-1:=by omega
     have hend:bs=(if i+1=2 then jb d else Ir d (i+1) 8):=by
      rw[HI.out.1];have:i=0∨i=1:=by omega
      rcases this with rfl|rfl
      ·rw[if_neg fZ ,SG]
      ·rw[if_pos rfl,WJ]
     have HE:=af hend;have HD2:=af (HD.out.grown hgr (by intro h;cases h;omega));have HW2:=af (HW.out.grown hgr HW.out.size (fun q h=>by cases h;omega));clear HI hgb hgr hend;go_wp2;go_roundw
     case rel=>exact⟨i+1,by omega,by go_num,by rw[←HE.out];exact HGb.out,HD2.out,HW2.out⟩
     case measure=>simp[intOf];omega
    ·have RX:m<8:=by omega
     have e0:(((m+1:Nat):Int)-1)=(m:Int):=by omega
     have e1:IntKind.i64.wrap (8*(i:Int))=((8*i:Nat):Int):=by rw[jo fZ fZ ];omega
     have e2:IntKind.i64.wrap (((8*i:Nat):Int)+(m:Int))=((8*i+m:Nat):Int):=by rw[jo fZ fZ ];omega
     have e3:(n:Int).tmod 256=((n%256:Nat):Int):=by rw[Int.tmod_eq_emod_of_nonneg fZ ];rfl
     have e4:IntKind.u8.wrap ((n%256:Nat):Int)=((UInt8.ofNat n).toNat:Int):=by
      rw[ofNat_mod];exact Ko fZ
     have e6:((8*i+m:Nat):Int)<16:=by omega
     have hfz:=hgb.frozen (8*i+m);have hcl:wr.cell? ⟨g,8*i+m,none⟩=some (.int .u8 ((bs[8*i+m]' fZ ).toNat:Int)):=hgb.cell (by unfold Vv;simp[hbl,show 8*i+m<16 by omega]);have hset:=hgb.set (8*i+m) (.int .u8 ((n:Int)%256));have en:((n:Int)%256)=((UInt8.ofNat n).toNat:Int):=by rw[ofNat_mod];omega
     rw[show (Value.int .u8 ((n:Int)%256))=Value.int .u8 ((UInt8.ofNat n).toNat:Int) by rw[en],WH]at hset;have HSt:Hid (gV (wr.setCell ⟨g,8*i+m,none⟩ (.int .u8 ((n:Int)%256))) g 5 (Vv (bs.set (8*i+m) (UInt8.ofNat n)))):=by
      show gV _ _ _ _;rw[en];exact hset
     have HGs:Hid (wa.grownBy (wr.setCell ⟨g,8*i+m,none⟩ (.int .u8 ((n:Int)%256))) (some g)):=hgr.trans ⟨rfl,rfl,rfl,by simp,fun k hk hne=>bf _ _ _ _ (by rintro rfl;exact hne rfl)⟩;have HI2:=af (HI.out.step fZ RX);clear HI hgb hgr hset en;go_wp2;go_roundw
     case rel=>exact⟨m,n/256,bs.set (8*i+m) (UInt8.ofNat n),by omega,rfl,rfl,by omega,HI2,by rw[aX];exact hbl,HSt.out,HGs.out⟩
     case measure=>first|(simp[intOf];done)|(simp[intOf];omega)
  ·obtain rfl:i=2:=by omega
   rw[if_pos rfl]at hgb;have HW:=af hbw;have hcv:=Np (P:=prog) wr 120 5 9 underlying120 underlying5 underlying9 g 16 (jb d) hgb;rw[jh]at hcv;clear hgb hdb hbw k0 k1;go_wp2;go_ret;exact⟨rfl,HW.out⟩
end Go.Proofs.YtichfhpgdhdiaaaGreat
namespace Go.Proofs.YtichfhpgdhdiaaaGreat
open Go.RowKit
theorem jD(a b:List UInt8):fu a++fu b=fu (a++b):=by
 apply dX;simp[fu]
theorem vM(n:Int)(w:World):Calls prog 160 #[.int .i64 n] w fun e w'=>e=.returned (.string (fu (jc n).1))∧Below w.heap.size w w':=by
 have CP:=af (JG n w);generalize jc n=r at *;obtain⟨s,k⟩:=r;simp only at CP;go_enter func160,ntmps160;go_wp2_with fail;refine CP.out.mono ?_;rintro e w1 ⟨rfl,hb⟩;have HB:=af hb;go_wp2;go_ret;exact⟨rfl,HB.out⟩
theorem zO(t:List UInt8)(w:World)(hl:t.length≤1000000000000):Calls prog 161 #[.string (fu t)] w fun e w'=>e=.returned (.string (fu (jP t).1))∧Below w.heap.size w w':=by
 have CP:=af (Hu t w hl);generalize jP t=r at *;obtain⟨s,k⟩:=r;simp only at CP;go_enter func161,ntmps161;go_wp2_with fail;refine CP.out.mono ?_;rintro e w1 ⟨rfl,hb⟩;have HB:=af hb;go_wp2;go_ret;exact⟨rfl,HB.out⟩
def Xu(x:En):List UInt8:=(jP x.name).1++(jc (if x.dir then 1 else 0)).1++jb x.dg
def encR(o:Ob):List UInt8 :=
 if o.kind=2 then(jc o.kind).1++(jc o.gW.length).1++o.gW.flatMap Xu
 else if o.kind=3 then(jc o.kind).1++jb o.tree++(jc o.gU.length).1++o.gU.flatMap jb++(jP o.gM).1++(jc o.time).1++(jP o.msg).1
 else(jc o.kind).1++(jP o.data).1
theorem Xv(x:En):(Xu x).length≤70000:=by
 unfold Xu;have h1:=pY x.name;have h2:=kX (if x.dir then 1 else 0);rw[aj,aj,jh];omega
theorem GI{α β : Type}{f : α→List β}{l:List α}{k:Nat}{x : α}(hx:l[k]?=some x):(l.take (k+1)).flatMap f=(l.take k).flatMap f++f x:=by
 rw[take_snoc' hx,aZ];simp
def EnA(p:List UInt8)(l:List En)(k:Nat)(acc:List UInt8):Prop:=acc=p++(l.take k).flatMap Xu∧acc.length≤100+k*70000
def PaA(p:List UInt8)(l:List Dg)(k:Nat)(acc:List UInt8):Prop:=acc=p++(l.take k).flatMap jb∧acc.length≤100+k*16
theorem EnA.step{p:List UInt8}{l:List En}{k:Nat}{acc:List UInt8}{x:En}(h:EnA p l k acc)(hx:l[k]?=some x):EnA p l (k+1) (acc++((jP x.name).1++((jc (if x.dir then 1 else 0)).1++jb x.dg))):=by
 obtain⟨h1,h2⟩:=h;have h3:=Xv x;have e:acc++((jP x.name).1++((jc (if x.dir then 1 else 0)).1++jb x.dg))=acc++Xu x:=by unfold Xu;simp only[aA]
 rw[e];exact⟨by rw[GI hx,←aA,←h1],by rw[aj];omega⟩
theorem PaA.step{p:List UInt8}{l:List Dg}{k:Nat}{acc:List UInt8}{x:Dg}(h:PaA p l k acc)(hx:l[k]?=some x):PaA p l (k+1) (acc++jb x):=by
 obtain⟨h1,h2⟩:=h;exact⟨by rw[GI hx,←aA,←h1],by rw[aj,jh];omega⟩
theorem BU(W:World)(o:Ob)(ve vp:Value)(h:wU W ve vp o)(hs:zP o):
  Calls prog 140 #[.agg (je o ve vp)] W fun e w'=>e=.returned (.string (fu (encR o)))∧Below W.heap.size W w':=by
 have HR:Hid (encR o=if o.kind=2 then(jc o.kind).1++(jc o.gW.length).1++o.gW.flatMap Xu
 else if o.kind=3 then(jc o.kind).1++jb o.tree++(jc o.gU.length).1++o.gU.flatMap jb++(jP o.gM).1++(jc o.time).1++(jP o.msg).1
 else(jc o.kind).1++(jP o.data).1):=rfl
 generalize encR o=R at *;obtain⟨s1,s2,s3,s4,s5,s6,s7,s8,s9,s10⟩:=hs;obtain⟨kind,data,gW,tree,gU,gM,time,msg⟩:=o;obtain⟨yG,yH⟩:=h;obtain⟨eA,ec,rfl,he1,he2⟩:=yG.form;obtain⟨pA,pc,rfl,hp1,hp2⟩:=yH.form;unfold je;simp only at *;have HK:=af ((ah W.heap.size W).alloc (ak _) (.cells #[.int .i64 kind,.string (fu data),.slice eA gW.length ec,.int .u64 (tree.1.toNat:Int),.int .u64 (tree.2.toNat:Int),.slice pA gU.length pc,.string (fu gM),.int .i64 time,.string (fu msg)] 44));have HB:=af (gV.new W #[.int .i64 kind,.string (fu data),.slice eA gW.length ec,.int .u64 (tree.1.toNat:Int),.int .u64 (tree.2.toNat:Int),.slice pA gU.length pc,.string (fu gM),.int .i64 time,.string (fu msg)] 44)
 have Fg:=af (yG.keep (dO HK.out));have Fh:=af (yH.keep (dO HK.out));clear yG yH;obtain⟨q0,q1,q2,q3,q4,q5,q6,q7,q8⟩:=iB HB.out;have agn:=af s10;clear s10;have CNK:=af (fun w=>vM kind w);have lk:=kX kind;go_enter func140,ntmps140;go_upto_region 1 with (fail);generalize W.alloc (.cells #[.int .i64 kind,.string (fu data),.slice eA gW.length ec,.int .u64 (tree.1.toNat:Int),.int .u64 (tree.2.toNat:Int),.slice pA gU.length pc,.string (fu gM),.int .i64 time,.string (fu msg)] 44)=w1 at *
 go_wp2_with fail;refine(CNK.out _).mono ?_;rintro e w2 ⟨rfl,hb⟩;have HB2:=af (HB.out.keep hb);have lG:=(hTr HK hb);have HE2:=af (Fg.out.keep (dO hb));have HD2:=af (Fh.out.keep (dO hb));clear q0 q1 q2 q3 q4 q5 q6 q7 q8 hb CNK HB Fg Fh HK;obtain⟨q0,q1,q2,q3,q4,q5,q6,q7,q8⟩:=iB HB2.out;by_cases k2:kind=2
 ·have b2:(kind==2)=true:=by rw[k2];rfl
  have HR2:Hid (R=(jc kind).1++(jc gW.length).1++gW.flatMap Xu):=by show _=_;rw[HR.out,if_pos k2]
  have CNE:=af (fun w=>vM gW.length w);have le:=kX gW.length;obtain⟨p,hp⟩:∃p,p=(jc kind).1:=⟨_,rfl⟩;obtain⟨p2,ZT⟩:∃p2,p2=(jc (gW.length:Int)).1:=⟨_,rfl⟩;rw[←hp]at lk HR2;rw[←ZT]at le HR2;have acF:=af (fun w=>by have h:=CNE.out w;rw[←ZT]at h;exact h);have z1:=gL p;have z2:=gL p2;have YC:Hid (EnA (p++p2) gW 0 (p++p2)):=⟨by simp,by rw[aj];omega⟩;rw[←hp];clear k2 HR hp ZT CNE;go_wp2_with fail;refine(acF.out _).mono ?_;rintro e w3 ⟨rfl,hb⟩;have HB3:=af (HB2.out.keep hb);have Cf:=(hTr lG hb);have HE3:=af (HE2.out.keep (dO hb))
  clear q0 q1 q2 q3 q4 q5 q6 q7 q8 hb HB2 HE2 HD2 lG acF;have z3:((fu p).size:Int)+((fu p2).size:Int)≤9223372036854775807:=by omega
  go_wp2;rw[jD];clear z1 z2 z3 lk le;go_loopw [3,4] (fun sv iv wr=>∃(k:Nat) (acc:List UInt8),k≤gW.length∧sv=.string (fu acc)∧iv=.int .i64 k∧Hid (EnA (p++p2) gW k acc)∧Below w3.heap.size w3 wr) (fun _ iv _=>gW.length-(intOf iv).toNat)
  case atStart=>exact⟨0,p++p2,by omega,rfl,rfl,YC,ah _ _⟩
  case round =>
   clear YC;obtain⟨k,acc,hk,rfl,rfl,HA,hbw⟩:=hrel;have Ui:=af (HB3.out.keep hbw);have HW:=af hbw;have heq:=HE3.out.keep (dO hbw);have la:=HA.out.2;obtain⟨q0,q1,q2,q3,q4,q5,q6,q7,q8⟩:=iB Ui.out;by_cases hlt:k<gW.length
   ·obtain⟨x,hx⟩:∃x,gW[k]?=some x:=⟨_,au hlt⟩;obtain⟨b1,o1,rfl,c0,c1,c2,c3⟩:=heq.get hx;have HA2:=af (HA.out.step hx);have hlt':(k:Int)<(gW.length:Int):=by omega
    have lx:=agn.out x (aV hx);have l1:=pY x.name;have l2:=kX (if x.dir then 1 else 0);have l3:=jh x.dg;have CT:=af (fun w=>zO x.name w fZ );have CN:=af (fun w=>vM (if x.dir then 1 else 0) w);have CB:=x9 x.dg;unfold lS at CB;have CB:=af CB;clear hx heq hbw HA HE3;obtain⟨dv,hdv⟩:∃dv:Int,dv=if x.dir then 1 else 0:=⟨_,rfl⟩;rw[←hdv]at CN HA2 l2;cases hd:x.dir with
    |false =>
     rw[hd]at c1;have hd0:dv=0:=by rw[hdv,hd];rfl
     subst hd0;clear hdv hd;go_upto_region 11 with (fail);refine iN gB 20 (fun i v w=>match i with
      |0=>v=.string (fu acc)
      |1=>v=.pointer (some ⟨W.heap.size,2,none⟩)
      |2=>v=.slice (some ⟨b1,o1,none⟩) gW.length ec
      |3=>v=.int .i64 (k:Int)
      |4=>v=.pointer (some ⟨b1,o1+k*4,none⟩)
      |5=>v=.pointer (some ⟨b1,o1+k*4,none⟩)
      |6=>v=.string (fu x.name)
      |7=>v=.string (fu (jP x.name).1)
      |8=>v=.string (fu (acc++(jP x.name).1))
      |9=>v=.int .i64 0
      |10=>v=.string (fu (jc 0).1)
      |11=>v=.string (fu (acc++((jP x.name).1++(jc 0).1)))
      |12=>v=.pointer (some ⟨W.heap.size,2,none⟩)
      |13=>v=.slice (some ⟨b1,o1,none⟩) gW.length ec
      |14=>v=.int .i64 (k:Int)
      |15=>v=.pointer (some ⟨b1,o1+k*4,none⟩)
      |16=>v=.pointer (some ⟨b1,o1+k*4+2,none⟩)
      |17=>v=.agg #[.int .u64 (x.dg.1.toNat:Int),.int .u64 (x.dg.2.toNat:Int)]
      |18=>v=.string (fu (jb x.dg))
      |_=>v=.string (fu (acc++((jP x.name).1++((jc 0).1++jb x.dg))))) 0 gB (fun i v w w' h hb=>?_) ?_ ?_
     ·exact PH
     ·rintro i o hi ho a w1 hdf hlen hold hbel gK K hK;clear hdf;have hbx:=(Ui.out.keep (gH _)).keep hbel;obtain⟨q0,q1,q2,q3,q4,q5,q6,q7,q8⟩:=iB hbx;have c0':=dO hbel _ _ _ (dO (gH _) _ _ _ c0);have c1':=dO hbel _ _ _ (dO (gH _) _ _ _ c1);have c2':=dO hbel _ _ _ (dO (gH _) _ _ _ c2);have c3':=dO hbel _ _ _ (dO (gH _) _ _ _ c3);have s1:=kZ hold 1 (.pointer (some ⟨W.heap.size,0,none⟩));have s3:=kZ hold 3 (.string (fu acc));have s4:=kZ hold 4 (.int .i64 (k:Int))
      have s5:=kZ hold 5 (.int .i64 0);have hi':i=0∨i=1∨i=2∨i=3∨i=4∨i=5∨i=6∨i=7∨i=8∨i=9∨i=10∨i=11∨i=12∨i=13∨i=14∨i=15∨i=16∨i=17∨i=18∨i=19:=by omega
      rcases hi' with rfl|rfl|rfl|rfl|rfl|rfl|rfl|rfl|rfl|rfl|rfl|rfl|rfl|rfl|rfl|rfl|rfl|rfl|rfl|rfl<;>obtain rfl:=aB ho
      ·exact iJ s3
      ·exact iJ s1
      ·exact iJ (iq gK 1 34)
      ·exact iJ s4
      ·exact yM (iq gK 2 35) (iq gK 3 36)
      ·exact iJ (iq gK 4 37)
      ·exact iJ (iq gK 5 38)
      ·refine qM (iq gK 6 39) ?_;refine(CT.out w1).mono ?_;rintro e' w4 ⟨rfl,hb4⟩;exact hK _ w4 (rfl) hb4
      ·refine sM (iq gK 0 33) (iq gK 7 40) ?_;have z1:=gL (acc);have z2:=gL ((jP x.name).1);try simp only[aj]at z1
       try simp only[aj]at z2
       first|exact hK _ w1 (congrArg Value.string (by rw[jD];try simp only[aA])) gD|(rw[if_neg fZ ];exact hK _ w1 (congrArg Value.string (by rw[jD];try simp only[aA])) gD)
      ·exact iJ s5
      ·refine qM (iq gK 9 42) ?_;refine(CN.out w1).mono ?_;rintro e' w4 ⟨rfl,hb4⟩;exact hK _ w4 (rfl) hb4
      ·refine sM (iq gK 8 41) (iq gK 10 43) ?_;have z1:=gL (acc++(jP x.name).1);have z2:=gL ((jc 0).1);try simp only[aj]at z1
       try simp only[aj]at z2
       first|exact hK _ w1 (congrArg Value.string (by rw[jD];try simp only[aA])) gD|(rw[if_neg fZ ];exact hK _ w1 (congrArg Value.string (by rw[jD];try simp only[aA])) gD)
      ·exact iJ s1
      ·exact iJ (iq gK 12 45)
      ·exact iJ s4
      ·exact yM (iq gK 13 46) (iq gK 14 47)
      ·exact iJ (iq gK 15 48)
      ·exact iJ (iq gK 16 49)
      ·refine qM (iq gK 17 50) ?_;refine(CB.out w1).mono ?_;rintro e' w4 ⟨rfl,hb4⟩;exact hK _ w4 (rfl) hb4
      ·refine sM (iq gK 11 44) (iq gK 18 51) ?_;have z1:=gL (acc++((jP x.name).1++(jc 0).1));have z2:=gL (jb x.dg);try simp only[aj]at z1
       try simp only[aj]at z2
       first|exact hK _ w1 (congrArg Value.string (by rw[jD];try simp only[aA])) gD|(rw[if_neg fZ ];exact hK _ w1 (congrArg Value.string (by rw[jD];try simp only[aA])) gD)
     ·rintro a w1 hdf hlen hold hbel hnew;have e52:=qH hnew 19 52;simp only at e52;obtain⟨uq,hu,hact⟩:=kL [33,34,35,36,37,38,39,40,41,42,43,44,45,46,47,48,49,50,51,52] hdf hlen hold;simp only[hu]at e52;simp only[List.foldl,e52,SA]at hact;clear hdf hlen hold hnew e52 hu;subst hact;refine gP 20 ?_;refine iP ?_;have HN:=af (HW.out.trans (((gH _).trans hbel).mono HW.out.size));clear hbel;go_wp2;go_roundw
      case rel=>exact⟨k+1,_,by omega,rfl,by go_num,HA2,HN.out⟩
      case measure=>simp[intOf];omega
    |true =>
     rw[hd]at c1;have hd0:dv=1:=by rw[hdv,hd];rfl
     subst hd0;clear hdv hd;go_upto_region 11 with (fail);refine iN gB 20 (fun i v w=>match i with
      |0=>v=.string (fu acc)
      |1=>v=.pointer (some ⟨W.heap.size,2,none⟩)
      |2=>v=.slice (some ⟨b1,o1,none⟩) gW.length ec
      |3=>v=.int .i64 (k:Int)
      |4=>v=.pointer (some ⟨b1,o1+k*4,none⟩)
      |5=>v=.pointer (some ⟨b1,o1+k*4,none⟩)
      |6=>v=.string (fu x.name)
      |7=>v=.string (fu (jP x.name).1)
      |8=>v=.string (fu (acc++(jP x.name).1))
      |9=>v=.int .i64 1
      |10=>v=.string (fu (jc 1).1)
      |11=>v=.string (fu (acc++((jP x.name).1++(jc 1).1)))
      |12=>v=.pointer (some ⟨W.heap.size,2,none⟩)
      |13=>v=.slice (some ⟨b1,o1,none⟩) gW.length ec
      |14=>v=.int .i64 (k:Int)
      |15=>v=.pointer (some ⟨b1,o1+k*4,none⟩)
      |16=>v=.pointer (some ⟨b1,o1+k*4+2,none⟩)
      |17=>v=.agg #[.int .u64 (x.dg.1.toNat:Int),.int .u64 (x.dg.2.toNat:Int)]
      |18=>v=.string (fu (jb x.dg))
      |_=>v=.string (fu (acc++((jP x.name).1++((jc 1).1++jb x.dg))))) 0 gB (fun i v w w' h hb=>?_) ?_ ?_
     ·exact PH
     ·rintro i o hi ho a w1 hdf hlen hold hbel gK K hK;clear hdf;have hbx:=(Ui.out.keep (gH _)).keep hbel;obtain⟨q0,q1,q2,q3,q4,q5,q6,q7,q8⟩:=iB hbx;have c0':=dO hbel _ _ _ (dO (gH _) _ _ _ c0);have c1':=dO hbel _ _ _ (dO (gH _) _ _ _ c1);have c2':=dO hbel _ _ _ (dO (gH _) _ _ _ c2);have c3':=dO hbel _ _ _ (dO (gH _) _ _ _ c3);have s1:=kZ hold 1 (.pointer (some ⟨W.heap.size,0,none⟩));have s3:=kZ hold 3 (.string (fu acc));have s4:=kZ hold 4 (.int .i64 (k:Int))
      have s5:=kZ hold 5 (.int .i64 1);have hi':i=0∨i=1∨i=2∨i=3∨i=4∨i=5∨i=6∨i=7∨i=8∨i=9∨i=10∨i=11∨i=12∨i=13∨i=14∨i=15∨i=16∨i=17∨i=18∨i=19:=by omega
      rcases hi' with rfl|rfl|rfl|rfl|rfl|rfl|rfl|rfl|rfl|rfl|rfl|rfl|rfl|rfl|rfl|rfl|rfl|rfl|rfl|rfl<;>obtain rfl:=aB ho
      ·exact iJ s3
      ·exact iJ s1
      ·exact iJ (iq gK 1 34)
      ·exact iJ s4
      ·exact yM (iq gK 2 35) (iq gK 3 36)
      ·exact iJ (iq gK 4 37)
      ·exact iJ (iq gK 5 38)
      ·refine qM (iq gK 6 39) ?_;refine(CT.out w1).mono ?_;rintro e' w4 ⟨rfl,hb4⟩;exact hK _ w4 (rfl) hb4
      ·refine sM (iq gK 0 33) (iq gK 7 40) ?_;have z1:=gL (acc);have z2:=gL ((jP x.name).1);try simp only[aj]at z1
       try simp only[aj]at z2
       first|exact hK _ w1 (congrArg Value.string (by rw[jD];try simp only[aA])) gD|(rw[if_neg fZ ];exact hK _ w1 (congrArg Value.string (by rw[jD];try simp only[aA])) gD)
      ·exact iJ s5
      ·refine qM (iq gK 9 42) ?_;refine(CN.out w1).mono ?_;rintro e' w4 ⟨rfl,hb4⟩;exact hK _ w4 (rfl) hb4
      ·refine sM (iq gK 8 41) (iq gK 10 43) ?_;have z1:=gL (acc++(jP x.name).1);have z2:=gL ((jc 1).1);try simp only[aj]at z1
       try simp only[aj]at z2
       first|exact hK _ w1 (congrArg Value.string (by rw[jD];try simp only[aA])) gD|(rw[if_neg fZ ];exact hK _ w1 (congrArg Value.string (by rw[jD];try simp only[aA])) gD)
      ·exact iJ s1
      ·exact iJ (iq gK 12 45)
      ·exact iJ s4
      ·exact yM (iq gK 13 46) (iq gK 14 47)
      ·exact iJ (iq gK 15 48)
      ·exact iJ (iq gK 16 49)
      ·refine qM (iq gK 17 50) ?_;refine(CB.out w1).mono ?_;rintro e' w4 ⟨rfl,hb4⟩;exact hK _ w4 (rfl) hb4
      ·refine sM (iq gK 11 44) (iq gK 18 51) ?_;have z1:=gL (acc++((jP x.name).1++(jc 1).1));have z2:=gL (jb x.dg);try simp only[aj]at z1
       try simp only[aj]at z2
       first|exact hK _ w1 (congrArg Value.string (by rw[jD];try simp only[aA])) gD|(rw[if_neg fZ ];exact hK _ w1 (congrArg Value.string (by rw[jD];try simp only[aA])) gD)
     ·rintro a w1 hdf hlen hold hbel hnew;have e52:=qH hnew 19 52;simp only at e52;obtain⟨uq,hu,hact⟩:=kL [33,34,35,36,37,38,39,40,41,42,43,44,45,46,47,48,49,50,51,52] hdf hlen hold;simp only[hu]at e52;simp only[List.foldl,e52,SA]at hact;clear hdf hlen hold hnew e52 hu;subst hact;refine gP 20 ?_;refine iP ?_;have HN:=af (HW.out.trans (((gH _).trans hbel).mono HW.out.size));clear hbel;go_wp2;go_roundw
      case rel=>exact⟨k+1,_,by omega,rfl,by go_num,HA2,HN.out⟩
      case measure=>simp[intOf];omega
   ·obtain rfl:k=gW.length:=by omega
    have hlt':¬(gW.length:Int)<(gW.length:Int):=by omega
    have HE:Hid (R=acc):=by
     show _=_;rw[HR2.out,HA.out.1,aF (ak _)]
    have HN:=(hTr Cf hbw);clear heq hbw HA;go_wp2;go_ret;exact⟨by rw[HE.out];rfl,HN.out⟩
 ·have b2:(kind==2)=false:=by simpa using k2
  by_cases k3:kind=3
  ·have b3:(kind==3)=true:=by rw[k3];rfl
   have HR2:Hid (R=(jc kind).1++jb tree++(jc gU.length).1++gU.flatMap jb++(jP gM).1++(jc time).1++(jP msg).1):=by show _=_;rw[HR.out,if_neg k2,if_pos k3]
   obtain⟨acc,hacc⟩:∃acc,acc=(jc kind).1:=⟨_,rfl⟩;rw[←hacc]at lk HR2;rw[←hacc];have lp:=kX gU.length;have lt:=jh tree;have CB:=x9 tree;unfold lS at CB;have CB:=af CB;have CN:=af (fun w=>vM gU.length w);have Ui:=af HB2.out;clear k2 k3 HR hacc;go_upto_region 14 with (fail);refine iN gB 10 (fun i v w=>match i with
    |0=>v=.string (fu acc)
    |1=>v=.pointer (some ⟨W.heap.size,3,none⟩)
    |2=>v=.agg #[.int .u64 (tree.1.toNat:Int),.int .u64 (tree.2.toNat:Int)]
    |3=>v=.string (fu (jb tree))
    |4=>v=.string (fu (acc++jb tree))
    |5=>v=.pointer (some ⟨W.heap.size,5,none⟩)
    |6=>v=.slice pA gU.length pc
    |7=>v=.int .i64 (gU.length:Int)
    |8=>v=.string (fu (jc gU.length).1)
    |_=>v=.string (fu (acc++(jb tree++(jc gU.length).1)))) 0 gB (fun i v w w' h hb=>?_) ?_ ?_
   ·exact PH
   ·rintro i o hi ho a w1 hdf hlen hold hbel gK K hK;clear hdf;have hbx:=(Ui.out.keep (gH _)).keep hbel;obtain⟨q0,q1,q2,q3,q4,q5,q6,q7,q8⟩:=iB hbx;have s1:=kZ hold 1 (.pointer (some ⟨W.heap.size,0,none⟩));have s3:=kZ hold 3 (.string (fu acc));have hi':i=0∨i=1∨i=2∨i=3∨i=4∨i=5∨i=6∨i=7∨i=8∨i=9:=by omega
    rcases hi' with rfl|rfl|rfl|rfl|rfl|rfl|rfl|rfl|rfl|rfl<;>obtain rfl:=aB ho
    ·exact iJ s3
    ·exact iJ s1
    ·exact iJ (iq gK 1 57)
    ·refine qM (iq gK 2 58) ?_;refine(CB.out w1).mono ?_;rintro e' w4 ⟨rfl,hb4⟩;exact hK _ w4 (rfl) hb4
    ·refine sM (iq gK 0 56) (iq gK 3 59) ?_;have z1:=gL (acc);have z2:=gL (jb tree);try simp only[aj]at z1
     try simp only[aj]at z2
     first|exact hK _ w1 (congrArg Value.string (by rw[jD];try simp only[aA])) gD|(rw[if_neg fZ ];exact hK _ w1 (congrArg Value.string (by rw[jD];try simp only[aA])) gD)
    ·exact iJ s1
    ·exact iJ (iq gK 5 61)
    ·exact iJ (iq gK 6 62)
    ·refine qM (iq gK 7 63) ?_;refine(CN.out w1).mono ?_;rintro e' w4 ⟨rfl,hb4⟩;exact hK _ w4 (rfl) hb4
    ·refine sM (iq gK 4 60) (iq gK 8 64) ?_;have z1:=gL (acc++jb tree);have z2:=gL ((jc gU.length).1);try simp only[aj]at z1
     try simp only[aj]at z2
     first|exact hK _ w1 (congrArg Value.string (by rw[jD];try simp only[aA])) gD|(rw[if_neg fZ ];exact hK _ w1 (congrArg Value.string (by rw[jD];try simp only[aA])) gD)
   ·rintro a w1 hdf hlen hold hbel hnew;have e65:=qH hnew 9 65;simp only at e65;obtain⟨uq,hu,hact⟩:=kL [56,57,58,59,60,61,62,63,64,65] hdf hlen hold;simp only[hu]at e65;simp only[List.foldl,e65,SA]at hact;clear hdf hlen hold hnew e65 hu;subst hact;refine gP 10 ?_;refine iP ?_;have hw3:=(gH w2).trans hbel;have HB3:=af (HB2.out.keep hw3);have Cf:=(hTr lG hw3);have HD3:=af (HD2.out.keep (dO hw3));obtain⟨p,hp⟩:∃p,p=acc++(jb tree++(jc gU.length).1):=⟨_,rfl⟩;have YC:Hid (PaA p gU 0 p):=⟨by simp,by rw[hp,aj,aj];omega⟩;have HR3:Hid (R=p++gU.flatMap jb++(jP gM).1++(jc time).1++(jP msg).1):=by show _=_;rw[HR2.out,hp];simp only[aA]
    clear hw3 hbel q0 q1 q2 q3 q4 q5 q6 q7 q8 Ui HB2 lG HD2 HE2 HR2 CB CN lt lp lk;have HPp:=af hp;clear hp;go_wp2;go_loopw [3,6] (fun sv iv wr=>∃(k:Nat) (acc:List UInt8),k≤gU.length∧sv=.string (fu acc)∧iv=.int .i64 k∧Hid (PaA p gU k acc)∧Below w1.heap.size w1 wr) (fun _ iv _=>gU.length-(intOf iv).toNat)
    case atStart=>exact⟨0,p,by omega,by rw[HPp.out],rfl,YC,ah _ _⟩
    case round =>
     clear YC;obtain⟨k,acc,hk,rfl,rfl,HA,hbw⟩:=hrel;have Ui:=af (HB3.out.keep hbw);have HW:=af hbw;have hdq:=HD3.out.keep (dO hbw);have la:=HA.out.2;obtain⟨q0,q1,q2,q3,q4,q5,q6,q7,q8⟩:=iB Ui.out;by_cases hlt:k<gU.length
     ·obtain⟨x,hx⟩:∃x,gU[k]?=some x:=⟨_,au hlt⟩;obtain⟨b1,o1,rfl,c0,c1⟩:=hdq.get hx;have HA2:=af (HA.out.step hx);have hlt':(k:Int)<(gU.length:Int):=by omega
      have l3:=jh x;have CB:=x9 x;unfold lS at CB;have CB:=af CB;have z1:=gL acc;have z2:=gL (jb x);have z3:((fu acc).size:Int)+((fu (jb x)).size:Int)≤9223372036854775807:=by omega
      clear hx hdq hbw HA;go_wp2_with fail;refine(CB.out _).mono ?_;rintro e w4 ⟨rfl,hb⟩;have HN:=(hTr HW hb);clear hb CB;go_wp2;go_roundw
      case rel=>exact⟨k+1,acc++jb x,by omega,by rw[jD],by go_num,HA2,HN.out⟩
      case measure=>simp[intOf];omega
     ·obtain rfl:k=gU.length:=by omega
      have hlt':¬(gU.length:Int)<(gU.length:Int):=by omega
      have HR4:Hid (R=acc++(jP gM).1++(jc time).1++(jP msg).1):=by
       show _=_;rw[HR3.out,HA.out.1,aF (ak _)]
      have HN:=(hTr Cf hbw);have l1:=pY gM;have l2:=kX time;have l3:=pY msg;have CA:=af (fun w=>zO gM w fZ );have CN:=af (fun w=>vM time w);have CM:=af (fun w=>zO msg w fZ );clear hdq hbw HA HR3;go_upto_region 19 with (fail);refine iN gB 13 (fun i v w=>match i with
       |0=>v=.string (fu acc)
       |1=>v=.pointer (some ⟨W.heap.size,6,none⟩)
       |2=>v=.string (fu gM)
       |3=>v=.string (fu (jP gM).1)
       |4=>v=.string (fu (acc++(jP gM).1))
       |5=>v=.pointer (some ⟨W.heap.size,7,none⟩)
       |6=>v=.int .i64 time
       |7=>v=.string (fu (jc time).1)
       |8=>v=.string (fu (acc++((jP gM).1++(jc time).1)))
       |9=>v=.pointer (some ⟨W.heap.size,8,none⟩)
       |10=>v=.string (fu msg)
       |11=>v=.string (fu (jP msg).1)
       |_=>v=.string (fu (acc++((jP gM).1++((jc time).1++(jP msg).1))))) 0 gB (fun i v w w' h hb=>?_) ?_ ?_
      ·exact PH
      ·rintro i o hi ho a w1 hdf hlen hold hbel gK K hK;clear hdf;have hbx:=(Ui.out.keep (gH _)).keep hbel;obtain⟨q0,q1,q2,q3,q4,q5,q6,q7,q8⟩:=iB hbx;have s1:=kZ hold 1 (.pointer (some ⟨W.heap.size,0,none⟩));have s3:=kZ hold 3 (.string (fu acc));have hi':i=0∨i=1∨i=2∨i=3∨i=4∨i=5∨i=6∨i=7∨i=8∨i=9∨i=10∨i=11∨i=12:=by omega
       rcases hi' with rfl|rfl|rfl|rfl|rfl|rfl|rfl|rfl|rfl|rfl|rfl|rfl|rfl<;>obtain rfl:=aB ho
       ·exact iJ s3
       ·exact iJ s1
       ·exact iJ (iq gK 1 82)
       ·refine qM (iq gK 2 83) ?_;refine(CA.out w1).mono ?_;rintro e' w4 ⟨rfl,hb4⟩;exact hK _ w4 (rfl) hb4
       ·refine sM (iq gK 0 81) (iq gK 3 84) ?_;have z1:=gL (acc);have z2:=gL ((jP gM).1);try simp only[aj]at z1
        try simp only[aj]at z2
        first|exact hK _ w1 (congrArg Value.string (by rw[jD];try simp only[aA])) gD|(rw[if_neg fZ ];exact hK _ w1 (congrArg Value.string (by rw[jD];try simp only[aA])) gD)
       ·exact iJ s1
       ·exact iJ (iq gK 5 86)
       ·refine qM (iq gK 6 87) ?_;refine(CN.out w1).mono ?_;rintro e' w4 ⟨rfl,hb4⟩;exact hK _ w4 (rfl) hb4
       ·refine sM (iq gK 4 85) (iq gK 7 88) ?_;have z1:=gL (acc++(jP gM).1);have z2:=gL ((jc time).1);try simp only[aj]at z1
        try simp only[aj]at z2
        first|exact hK _ w1 (congrArg Value.string (by rw[jD];try simp only[aA])) gD|(rw[if_neg fZ ];exact hK _ w1 (congrArg Value.string (by rw[jD];try simp only[aA])) gD)
       ·exact iJ s1
       ·exact iJ (iq gK 9 90)
       ·refine qM (iq gK 10 91) ?_;refine(CM.out w1).mono ?_;rintro e' w4 ⟨rfl,hb4⟩;exact hK _ w4 (rfl) hb4
       ·refine sM (iq gK 8 89) (iq gK 11 92) ?_;have z1:=gL (acc++((jP gM).1++(jc time).1));have z2:=gL ((jP msg).1);try simp only[aj]at z1
        try simp only[aj]at z2
        first|exact hK _ w1 (congrArg Value.string (by rw[jD];try simp only[aA])) gD|(rw[if_neg fZ ];exact hK _ w1 (congrArg Value.string (by rw[jD];try simp only[aA])) gD)
      ·rintro a w1 hdf hlen hold hbel hnew;have e93:=qH hnew 12 93;simp only at e93;obtain⟨uq,hu,hact⟩:=kL [81,82,83,84,85,86,87,88,89,90,91,92,93] hdf hlen hold;simp only[hu]at e93;simp only[List.foldl,e93,SA]at hact;clear hdf hlen hold hnew e93 hu;subst hact;refine gP 13 ?_;refine iP ?_;have hw5:=(gH wr).trans hbel;have HN2:=(hTr HN hw5);clear hw5 hbel;go_wp2;go_ret;exact⟨by rw[HR4.out];simp only[aA];rfl,HN2.out⟩
  ·have b3:(kind==3)=false:=by simpa using k3
   have HR2:Hid (R=(jc kind).1++(jP data).1):=by show _=_;rw[HR.out,if_neg k2,if_neg k3]
   have CD:=af (fun w=>zO data w fZ );have l1:=pY data;have z1:=gL (jc kind).1;have z2:=gL (jP data).1;have z3:((fu (jc kind).1).size:Int)+((fu (jP data).1).size:Int)≤9223372036854775807:=by omega
   clear k2 k3 HR;go_wp2_with fail;refine(CD.out _).mono ?_;rintro e w3 ⟨rfl,hb⟩;have HN:=(hTr lG hb);clear hb CD;go_wp2;go_ret;exact⟨by rw[HR2.out,←jD];rfl,HN.out⟩
end Go.Proofs.YtichfhpgdhdiaaaGreat
namespace Go.Proofs.YtichfhpgdhdiaaaGreat
open Go.RowKit
theorem zQ{s:List UInt8}(h:s.length≤65536):(jP s).1=jL s:=by unfold jP jL;rw[if_pos h]
theorem rH{n:Int}(h0:0≤n)(h1:n≤1099511627776):(jc n).1=gJ n.toNat:=by unfold jc;rw[if_pos ⟨h0,h1⟩]
theorem wu{s:List UInt8}(h:Ro s=true):s.length≤24:=by
 unfold Ro at h;simp only[aK,decide_eq_true_eq]at h;exact h.1.1.1.2
theorem EI{α β : Type}{f g : α→List β}:∀{l:List α},(∀x∈l,f x=g x)→l.flatMap f=l.flatMap g
 |[],_=>rfl
 |x::l,h=>by rw[aG,aG,h x gu ,EI fun y hy=>h y (by simp[hy])]
theorem Uj{o:Ob}(h:Cw o):encR o=jS o:=by
 unfold encR jS;rcases h with ⟨hk,_,_,h1,h2,h3⟩|⟨hk,_,_,h1,h2,h3,h4,h5,h6,h7,h8⟩|⟨hk,_,_,hd⟩
 ·rw[if_pos hk,if_pos hk,hk,rH fZ fZ ,rH fZ fZ ];rw[EI (g:=qI) fun x hx=>by
   unfold Xu qI;have hl:=wu (h2 x hx).1;rw[zQ fZ ];cases x.dir<;>rw[rH gu gu ]<;>rfl]
  rfl
 ·rw[if_neg (show ¬o.kind=2 by omega),if_pos hk,if_neg (show ¬o.kind=2 by omega),if_pos hk,hk,rH fZ fZ ,rH fZ fZ ,rH h6 h7];have hl:=wu h5;rw[zQ fZ ,zQ fZ ];rfl
 ·rw[if_neg (show ¬o.kind=2 by omega),if_neg (show ¬o.kind=3 by omega),if_neg (show ¬o.kind=2 by omega),if_neg (show ¬o.kind=3 by omega),rH fZ fZ ,zQ hd]
end Go.Proofs.YtichfhpgdhdiaaaGreat
