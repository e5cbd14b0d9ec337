/- slices.Grow of nil and slices.Concat of two slices of pending writes. -/
import Derived.Test.YtichfhpgdhdiaaaGreatJ7
import Derived.Lib.AppendZerosOnto
import Derived.ArgAppend
import Derived.Test.YtichfhpgdhdiaaaGreatJ10
import Derived.Deep.RegionHeld3
import Derived.Test.YtichfhpgdhdiaaaGreatKDkCut1
import Derived.RangeFuncNested
import Derived.RangeFuncBound
import Derived.RangeFuncCalls
import Derived.RangeFuncLeaves
import Derived.Shelf.Abstract
import Derived.Shelf.RegionOpen
import Derived.WalkKit
import Derived.OwnWalkIn
import Derived.TacticsInMore
import Derived.LoopNIn
import Derived.LoopIn
import Derived.Test.YtichfhpgdhdiaaaGreatJ3
set_option maxRecDepth 100000
set_option maxHeartbeats 8000000
set_option linter.unusedVariables false
set_option linter.unusedSimpArgs false
open Go.Proofs.Tryz
namespace Go.Proofs.YtichfhpgdhdiaaaGreat
open Go.RowKit
def WR(p:List (Int×ByteArray))(x:Int×ByteArray):Nat→List (Int×ByteArray)
 |0=>[]
 |1=>p
 |_=>p++[x]
end Go.Proofs.YtichfhpgdhdiaaaGreat
namespace Go.Proofs.YtichfhpgdhdiaaaGreat
open Go.RowKit
theorem WS{n:Nat}{i:Int}(h:hasB n i=false):i<0∨(n:Int)≤i:=Eb h
theorem Zi{n:Nat}{i:Int}(h:hasB n i=true):¬(i<0∨(n:Int)≤i):=by have:=Ay h;omega
end Go.Proofs.YtichfhpgdhdiaaaGreat
namespace Go.Proofs.YtichfhpgdhdiaaaGreat
open Go.RowKit
theorem AO(W:World)(A:Option Addr)(c:Nat)(xs:List ByteArray)(h:Strs W (.slice A xs.length c) xs)(h1:1≤xs.length)(h2:xs.length≤100000):
  Calls prog 92 #[.slice A xs.length c] W fun e w'=>∃v,e=.returned v∧qp w' W.heap.size v xs∧Below W.heap.size W w':=by
 obtain⟨b,off,rfl,_⟩:=h.get (show 0<xs.length by omega);refine(slices_Clone_string b off xs.length c xs W (ak _) fZ (fun j hj=>?_)).mono ?_
 ·obtain⟨b',off',e,h3⟩:=h.get hj;cases e;rw[h3,bW,au hj];rfl
 ·rintro e w' ⟨v,rfl,ho,_,hb⟩;rw[bG]at ho;exact⟨v,rfl,ho,hb⟩
theorem Qu(s t:ByteArray)(w:World):Calls prog 90 #[.string s,.string t] w fun e w'=>e=.returned (.string t)∧w=w':=by
 go_enter func90,ntmps90;go_wp2;go_ret;exact⟨rfl,rfl⟩
def Tc(W:World)(z l:Int)(L:List ByteArray)(e:Ending)(w':World):Prop :=
 ∃v,e=.returned (.agg #[.int .i64 z,v,.slice none 0 0,.int .i64 l])∧qp w' (W.heap.size+2) v L∧Below W.heap.size W w'
theorem Iu(W:World)(vs vp:Value)(d:Dk)(h:lK W vs vp d)(hv:Valid d):
  Calls prog 50 #[.agg #[.int .i64 d.size,vs,vp,.int .i64 d.left],.func (.func 90) #[] #[]] W (Tc W d.size d.left (cur d)):=by
 obtain⟨A,c,rfl,hc,hm⟩:=h.sec.form;obtain⟨P,cp,rfl,hcp,hmp⟩:=h.pen.form;have V:=af hv;have v1:=hv.s1;have v2:=hv.s2;have v3:=hv.n1;have v4:=hv.n2;clear hv;have hbk0:=gV.new W #[.int .i64 d.size,.slice A d.secs.length c,.slice P d.pend.length cp,.int .i64 d.left] 56;have hbk:=hbk0.alloc (.cells #[.int .i64 0,.slice none 0 0,.slice none 0 0,.int .i64 0] 56);have hbr:=gV.new (W.alloc (.cells #[.int .i64 d.size,.slice A d.secs.length c,.slice P d.pend.length cp,.int .i64 d.left] 56)) #[.int .i64 0,.slice none 0 0,.slice none 0 0,.int .i64 0] 56
 rw[aJ]at hbr;have hd1:=((ah W.heap.size W).alloc (ak _) (.cells #[.int .i64 d.size,.slice A d.secs.length c,.slice P d.pend.length cp,.int .i64 d.left] 56)).alloc gu (.cells #[.int .i64 0,.slice none 0 0,.slice none 0 0,.int .i64 0] 56);have hD1:=h.keep (dO hd1);have cl:=AO _ A c d.secs hD1.sec v3 fZ ;have hs2:((W.alloc (.cells #[.int .i64 d.size,.slice A d.secs.length c,.slice P d.pend.length cp,.int .i64 d.left] 56)).alloc (.cells #[.int .i64 0,.slice none 0 0,.slice none 0 0,.int .i64 0] 56)).heap.size=W.heap.size+2:=by simp
 rw[hs2]at cl;clear hbk0 hs2;go_enter func50,ntmps50;go_upto_region 1 with (fail);generalize (W.alloc (.cells #[.int .i64 d.size,.slice A d.secs.length c,.slice P d.pend.length cp,.int .i64 d.left] 56)).alloc (.cells #[.int .i64 0,.slice none 0 0,.slice none 0 0,.int .i64 0] 56)=w1 at *;obtain⟨q0,q1,q2,q3⟩:=ku hbk gD;have CL:=af cl;clear cl;go_wp2_with fail;refine CL.out.mono ?_;clear CL q0 q1 q2 q3;rintro e w2 ⟨vl,rfl,hown,hb2⟩;have hd2:=hd1.trans (hb2.mono fZ );have hbk2:=hbk.below hb2 fZ
 have kQ:=hbr.below hb2 fZ ;clear hbk hbr hd1 hb2 hD1;obtain⟨g,cap,rfl,hg0,hg1,hg2,hg3⟩:=CQ hown fZ ;have hown0:w2.ownsRow (W.heap.size+2) 9 1 (.slice (some ⟨g,0,none⟩) d.secs.length cap) d.secs.length (((d.pend.take 0).foldl si d.secs).map .string):=hown;have hg4:=hg1;clear hown;obtain⟨q0,q1,q2,q3⟩:=ku hbk2 gD;go_wp2;go_loopw [14] (fun t wr=>∃k:Nat,k≤d.pend.length∧t=.int .i64 k∧wr.ownsRow (W.heap.size+2) 9 1 (.slice (some ⟨g,0,none⟩) d.secs.length cap) d.secs.length (((d.pend.take k).foldl si d.secs).map .string)∧gV wr W.heap.size 56 #[.int .i64 d.size,.slice A d.secs.length c,.slice P d.pend.length cp,.int .i64 d.left] ∧
  gV wr (W.heap.size+1) 56 #[.int .i64 0,.slice none 0 0,.slice none 0 0,.int .i64 0]∧Below W.heap.size W wr) (fun t _=>d.pend.length-(intOf t).toNat)
 case atStart=>exact⟨0,by omega,rfl,hown0,hbk2,kQ,hd2⟩
 case round =>
  clear hown0 hbk2 kQ hd2 hg1 hg4 q0 q1 q2 q3;obtain⟨k,hk,rfl,hown,hbk,hbr,hd⟩:=hrel;have hpk:=h.pen.keep (dO hd);have hbl:=hbk.lt;have hgl:=(hown.lt g rfl).2;obtain⟨q0,q1,q2,q3⟩:=ku hbk gD;by_cases hlt:k<d.pend.length
  ·obtain⟨b,off,rfl,a1,a2,a3,a4⟩:=hpk.get hlt;obtain⟨e1,e2,e3⟩:=V.out.ws _ (dA hlt);obtain⟨m,hm1⟩:=fA e1;generalize hs1:d.pend[k].2=s at *;have HS:=af (Kv d.secs hlt hm1 hs1);have hml:m<d.secs.length:=by omega
   rw[hm1]at a1;have hlen:((d.pend.take k).foldl si d.secs).length=d.secs.length:=lF _ _;generalize (d.pend.take k).foldl si d.secs=L at *;have hmL:m<L.length:=by omega
   have HL:=af hlen;clear hlen hm1 hs1 e1 e2 e3 a3 a4;have hbw:=gV.new wr #[.int .i64 (m:Int),.string s] 173;have p9:=hbk.alloc (.cells #[.int .i64 (m:Int),.string s] 173);have oQ:=hbr.alloc (.cells #[.int .i64 (m:Int),.string s] 173);have hown3:=World.ownsRow.alloc hown (.cells #[.int .i64 (m:Int),.string s] 173);have hd3:=hd.alloc hd.size (.cells #[.int .i64 (m:Int),.string s] 173);go_upto_region 5 with (fail);generalize wr.alloc (.cells #[.int .i64 (m:Int),.string s] 173)=w3 at *
   generalize wr.heap.size=gw at *;obtain⟨o1,o2⟩:=AB hown3 (i:=m) (u:=.string (L[m]'hmL)) gu ;generalize (L[m]'hmL)=old at *;clear q0 q1 q2 q3 a1 a2 hown hbk hbr hd;have p0:=hbw.cl 0;have p1:=hbw.cl 1;go_still_tail 13, gB
   still_call ((Qu old s w3.drew).mono (fun e w' h=>⟨h.1,h.2.symm⟩))
   repeat still_step
   refine wpStill_nil ?_;change wpList _ _ _ _ _ w3.drew;have Fy:=p9.drew;have rz:=oQ.drew;have iU:=zx hown3;have hd4:=kG hd3;have o3:w3.drew.cell? ⟨g,m,none⟩=some (.string old):=o1;have o4:w3.drew.frozen? ⟨g,m,none⟩=false:=o2;clear p9 oQ hown3 hd3 hbw o1 o2 p0 p1;generalize w3.drew=w4 at *;go_wp2;go_roundw
   case rel =>
    refine⟨k+1,by omega,by go_num,?_,?_,?_,?_⟩
    ·rw[HS.out,List.map_set];exact CY iU (.string s)
    ·exact Fy.far (p:=⟨g,m,none⟩) (by simp;omega) _
    ·exact rz.far (p:=⟨g,m,none⟩) (by simp;omega) _
    ·exact hd4.setCell (p:=⟨g,m,none⟩) (show W.heap.size≤g by omega) _
   case measure=>simp[intOf]<;>omega
  ·have hk':d.pend.take k=d.pend:=aF fZ ;have Rm:qp wr (W.heap.size+2) (.slice (some ⟨g,0,none⟩) d.secs.length cap) (cur d):=by
    unfold qp;rw[jT];unfold cur;rw[←hk'];exact hown
   obtain⟨t0,t1,t2,t3,r0,r1,r2,r3⟩:=nD hbr gD;obtain⟨Vt,q1',q2',q3',s0,s1,s2,s3⟩:=nD hbk gD;have hlt1:=hbr.lt;have hx:=((hbr.far (p:=⟨W.heap.size,1,none⟩) gu (.slice (some ⟨g,0,none⟩) d.secs.length cap)).far (p:=⟨W.heap.size,2,none⟩) gu (.slice none 0 0)).uR (.int .i64 d.size) (.slice (some ⟨g,0,none⟩) d.secs.length cap) (.slice none 0 0) (.int .i64 d.left);have uJ:=kr ((hd.setCell (p:=⟨W.heap.size,1,none⟩) (ak _) (.slice (some ⟨g,0,none⟩) d.secs.length cap)).setCell (p:=⟨W.heap.size,2,none⟩) (ak _) (.slice none 0 0)) (show W.heap.size≤W.heap.size+1 by omega) (.int .i64 d.size) (.slice (some ⟨g,0,none⟩) d.secs.length cap) (.slice none 0 0) (.int .i64 d.left)
   have Qv:=KF ((Rm.far (p:=⟨W.heap.size,1,none⟩) gu (.slice (some ⟨g,0,none⟩) d.secs.length cap)).far (p:=⟨W.heap.size,2,none⟩) gu (.slice none 0 0)) (show g≠W.heap.size+1 by omega) (.int .i64 d.size) (.slice (some ⟨g,0,none⟩) d.secs.length cap) (.slice none 0 0) (.int .i64 d.left);clear hk' hown Rm;go_wp2;clear r0 r1 r2 r3 t0 t1 t2 t3 q0 q1 q2 q3 Vt q1' q2' q3' s0 s1 s2 s3;generalize (((((wr.setCell ⟨W.heap.size,1,none⟩ (.slice (some ⟨g,0,none⟩) d.secs.length cap)).setCell ⟨W.heap.size,2,none⟩ (.slice none 0 0)).setCell ⟨W.heap.size+1,0,none⟩ (.int .i64 d.size)).setCell ⟨W.heap.size+1,1,none⟩ (.slice (some ⟨g,0,none⟩) d.secs.length cap)).setCell ⟨W.heap.size+1,2,none⟩ (.slice none 0 0)).setCell ⟨W.heap.size+1,3,none⟩ (.int .i64 d.left)=wx at *
   obtain⟨k0,k1,k2,k3⟩:=ku hx gD;exact bodyPost_ret (v:=.agg #[.int .i64 d.size,.slice (some ⟨g,0,none⟩) d.secs.length cap,.slice none 0 0,.int .i64 d.left]) (by simp[results,results50,go_sem,k0,k1,k2,k3]) rfl ⟨_,rfl,Qv,uJ⟩
end Go.Proofs.YtichfhpgdhdiaaaGreat
namespace Go.Proofs.YtichfhpgdhdiaaaGreat
open Go.RowKit
theorem Td(W:World)(vs vp:Value)(d:Dk)(h:lK W vs vp d):
  Calls prog 44 #[.agg #[.int .i64 d.size,vs,vp,.int .i64 d.left]] W (lV W (Qp d) (Kw d)):=by
 obtain⟨A,c,rfl,hc,hm⟩:=h.sec.form;obtain⟨P,cp,rfl,hcp,hmp⟩:=h.pen.form;have hbk0:=gV.new W #[.int .i64 d.size,.slice A d.secs.length c,.slice P d.pend.length cp,.int .i64 d.left] 56;have hbk:=hbk0.alloc (.cells #[.int .i64 0,.slice none 0 0,.slice none 0 0,.int .i64 0] 56);have hbr:=gV.new (W.alloc (.cells #[.int .i64 d.size,.slice A d.secs.length c,.slice P d.pend.length cp,.int .i64 d.left] 56)) #[.int .i64 0,.slice none 0 0,.slice none 0 0,.int .i64 0] 56;rw[aJ]at hbr;have hd1:=((ah W.heap.size W).alloc (ak _) (.cells #[.int .i64 d.size,.slice A d.secs.length c,.slice P d.pend.length cp,.int .i64 d.left] 56)).alloc gu (.cells #[.int .i64 0,.slice none 0 0,.slice none 0 0,.int .i64 0] 56)
 have hD1:=h.keep (dO hd1);clear hbk0;go_enter func44,ntmps44;go_upto_region 1 with (fail);generalize (W.alloc (.cells #[.int .i64 d.size,.slice A d.secs.length c,.slice P d.pend.length cp,.int .i64 d.left] 56)).alloc (.cells #[.int .i64 0,.slice none 0 0,.slice none 0 0,.int .i64 0] 56)=w1 at *;have q0:=hbk.cl 0;have q1:=hbk.cl 1;have q2:=hbk.cl 2;have q3:=hbk.cl 3;have c1:=wH _ _ _ d hD1;go_wp2_with fail;refine c1.mono ?_;clear c1 q0 q1 q2 q3;rintro e w2 ⟨rfl,hb2⟩;have hd2:=hd1.trans (hb2.mono hd1.size)
 have hbk2:=hbk.keep hb2;have kQ:=hbr.keep hb2;have hD2:=hD1.keep (dO hb2);clear hbk hbr hd1 hD1 hb2;by_cases hk:sJ d=0
 ·have HK:=af hk;rw[hk];clear hk;have q0:=hbk2.cl 0;have q1:=hbk2.cl 1;have q2:=hbk2.cl 2;have q3:=hbk2.cl 3;by_cases hl:d.left=0
  ·have HE:=af (WM HK.out hl);have hb:(d.left==0)=true:=by simp[hl]
   clear hl;obtain⟨r0,r1,r2,r3⟩:=fz4 kQ;have t0:=kQ.cl 0;have t1:=kQ.cl 1;have t2:=kQ.cl 2;have t3:=kQ.cl 3;go_wp2;have hx:=kQ.uR (.int .i64 d.size) (.slice A d.secs.length c) (.slice P d.pend.length cp) (.int .i64 d.left);have uJ:=kr hd2 (show W.heap.size≤W.heap.size+1 by omega) (.int .i64 d.size) (.slice A d.secs.length c) (.slice P d.pend.length cp) (.int .i64 d.left);clear r0 r1 r2 r3 t0 t1 t2 t3 q0 q1 q2 q3;generalize (((w2.setCell ⟨W.heap.size+1,0,none⟩ (.int .i64 d.size)).setCell ⟨W.heap.size+1,1,none⟩ (.slice A d.secs.length c)).setCell ⟨W.heap.size+1,2,none⟩ (.slice P d.pend.length cp)).setCell ⟨W.heap.size+1,3,none⟩ (.int .i64 d.left)=wx at *
   have k0:=hx.cl 0;have k1:=hx.cl 1;have k2:=hx.cl 2;have k3:=hx.cl 3;exact bodyPost_ret (v:=.tuple #[.agg #[.int .i64 d.size,.slice A d.secs.length c,.slice P d.pend.length cp,.int .i64 d.left],.int .i64 20]) (by simp[results,results44,go_sem,k0,k1,k2,k3]) rfl (lV.mk HE.out.1.symm HE.out.2.symm rfl rfl (h.keep (dO uJ)) uJ)
  ·have HE:=af (abO HK.out hl);have hb:(d.left==0)=false:=by simp[hl]
   clear hl;have c2:=Iu w2 _ _ d hD2 (mq.1 HK.out);have C3:=af (Kr d.left h.f0 h.f1);have hlt:=kQ.lt;have hlz:=BM h.f0 h.f1;go_wp2_with fail;refine c2.mono ?_;clear c2 q0 q1 q2 q3;rintro e w3 ⟨v3,rfl,hv3,hb3⟩;have hd3:=hd2.trans (hb3.mono hd2.size);have p9:=hbk2.keep hb3;have oQ:=kQ.keep hb3;clear hbk2 kQ hd2 hD2 hb3;obtain⟨A3,c3',rfl⟩:=iw hv3;rw[jT]at hv3 ⊢;obtain⟨q0,q1,q2,q3,s0,s1,s2,s3⟩:=nD p9 gD;obtain⟨t0,t1,t2,t3,r0,r1,r2,r3⟩:=nD oQ gD;have hls : -9223372036854775808≤d.left∧d.left≤9223372036854775807:=⟨h.f0,h.f1⟩
   have afs:=p9.lt;go_wp2_with fail;have Fy:=p9.uR (.int .i64 d.size) (.slice A3 d.secs.length c3') (.slice none 0 0) (.int .i64 d.left);have rz:=(((oQ.far (p:=⟨W.heap.size,0,none⟩) gu (.int .i64 d.size)).far (p:=⟨W.heap.size,1,none⟩) gu (.slice A3 d.secs.length c3')).far (p:=⟨W.heap.size,2,none⟩) gu (.slice none 0 0)).far (p:=⟨W.heap.size,3,none⟩) gu (.int .i64 d.left);have hd4:=kr hd3 (ak W.heap.size) (.int .i64 d.size) (.slice A3 d.secs.length c3') (.slice none 0 0) (.int .i64 d.left);have abQ:qp w3 (w2.heap.size+2) (.slice A3 d.secs.length c3') (cur d):=hv3
   have hv4:=(((abQ.far (p:=⟨W.heap.size,0,none⟩) (by simp;omega) (.int .i64 d.size)).far (p:=⟨W.heap.size,1,none⟩) (by simp;omega) (.slice A3 d.secs.length c3')).far (p:=⟨W.heap.size,2,none⟩) (by simp;omega) (.slice none 0 0)).far (p:=⟨W.heap.size,3,none⟩) (by simp;omega) (.int .i64 d.left);clear q0 q1 q2 q3 s0 s1 s2 s3 r0 r1 r2 r3 t0 t1 t2 t3 p9 oQ hd3 hv3 abQ;generalize (((w3.setCell ⟨W.heap.size,0,none⟩ (.int .i64 d.size)).setCell ⟨W.heap.size,1,none⟩ (.slice A3 d.secs.length c3')).setCell ⟨W.heap.size,2,none⟩ (.slice none 0 0)).setCell ⟨W.heap.size,3,none⟩ (.int .i64 d.left)=w4 at *
   obtain⟨q0,q1,q2,q3,s0,s1,s2,s3⟩:=nD Fy gD;obtain⟨t0,t1,t2,t3,r0,r1,r2,r3⟩:=nD rz gD;refine(C3.out w4).mono ?_;rintro e w' ⟨rfl,rfl⟩;have hx:=(rz.far (p:=⟨W.heap.size,3,none⟩) gu (.int .i64 (jV d.left))).uR (.int .i64 d.size) (.slice A3 d.secs.length c3') (.slice none 0 0) (.int .i64 (jV d.left));have uJ:=kr (hd4.setCell (p:=⟨W.heap.size,3,none⟩) (ak _) (.int .i64 (jV d.left))) (show W.heap.size≤W.heap.size+1 by omega) (.int .i64 d.size) (.slice A3 d.secs.length c3') (.slice none 0 0) (.int .i64 (jV d.left));have Qv:=((((hv4.far (p:=⟨W.heap.size,3,none⟩) (by simp;omega) (.int .i64 (jV d.left))).far (p:=⟨W.heap.size+1,0,none⟩) (by simp;omega) (.int .i64 d.size)).far (p:=⟨W.heap.size+1,1,none⟩) (by simp;omega) (.slice A3 d.secs.length c3')).far (p:=⟨W.heap.size+1,2,none⟩) (by simp;omega) (.slice none 0 0)).far (p:=⟨W.heap.size+1,3,none⟩) (by simp;omega) (.int .i64 (jV d.left))
   go_wp2;clear r0 r1 r2 r3 t0 t1 t2 t3 q0 q1 q2 q3 s0 s1 s2 s3;generalize ((((w4.setCell ⟨W.heap.size,3,none⟩ (.int .i64 (jV d.left))).setCell ⟨W.heap.size+1,0,none⟩ (.int .i64 d.size)).setCell ⟨W.heap.size+1,1,none⟩ (.slice A3 d.secs.length c3')).setCell ⟨W.heap.size+1,2,none⟩ (.slice none 0 0)).setCell ⟨W.heap.size+1,3,none⟩ (.int .i64 (jV d.left))=wx at *;obtain⟨k0,k1,k2,k3⟩:=ku hx gD;exact bodyPost_ret (v:=.tuple #[.agg #[.int .i64 d.size,.slice A3 d.secs.length c3',.slice none 0 0,.int .i64 (jV d.left)],.int .i64 0]) (by simp[results,results44,go_sem,k0,k1,k2,k3]) rfl (lV.mk HE.out.1.symm HE.out.2.symm rfl rfl ⟨Qv.strs,Sl.nil _ _ _,h.z0,h.z1,hlz.1,hlz.2⟩ uJ)
 ·have HE:=af (Ze hk);have hb:(sJ d != 0)=true:=by simp[hk]
  clear hk;generalize sJ d=full at *;obtain⟨r0,r1,r2,r3⟩:=fz4 kQ;have t0:=kQ.cl 0;have t1:=kQ.cl 1;have t2:=kQ.cl 2;have t3:=kQ.cl 3;go_wp2;have hx:=kQ.uR (.int .i64 0) (.slice none 0 0) (.slice none 0 0) (.int .i64 0);have uJ:=kr hd2 (show W.heap.size≤W.heap.size+1 by omega) (.int .i64 0) (.slice none 0 0) (.slice none 0 0) (.int .i64 0);clear r0 r1 r2 r3 t0 t1 t2 t3;generalize (((w2.setCell ⟨W.heap.size+1,0,none⟩ (.int .i64 0)).setCell ⟨W.heap.size+1,1,none⟩ (.slice none 0 0)).setCell ⟨W.heap.size+1,2,none⟩ (.slice none 0 0)).setCell ⟨W.heap.size+1,3,none⟩ (.int .i64 0)=wx at *
  have k0:=hx.cl 0;have k1:=hx.cl 1;have k2:=hx.cl 2;have k3:=hx.cl 3;exact bodyPost_ret (v:=.tuple #[.agg #[.int .i64 0,.slice none 0 0,.slice none 0 0,.int .i64 0],.int .i64 1]) (by simp[results,results44,go_sem,k0,k1,k2,k3]) rfl (lV.mk HE.out.1.symm HE.out.2.symm rfl rfl (kU _) uJ)
end Go.Proofs.YtichfhpgdhdiaaaGreat
namespace Go.Proofs.YtichfhpgdhdiaaaGreat
open Go.RowKit
theorem Nt(c:Nat):(⟨(Lib.repeatL (⟨#[0]⟩:ByteArray).data.toList c).toArray⟩:ByteArray)=qo c:=by
 apply dX;have:∀c,Lib.repeatL (⟨#[0]⟩:ByteArray).data.toList c=List.replicate c 0:=by
  intro c
  induction c with
  |zero=>rfl
  |succ c ih=>rw[Lib.repeatL,ih,List.replicate_succ];rfl
 rw[this];simp[qo]
theorem Nu(c:Nat)(h:c≤1000)(w:World):Calls prog 87 #[.string ⟨#[0]⟩,.int .i64 c] w fun e w'=>e=.returned (.string (qo c))∧Below w.heap.size w w':=by
 have:=strings_Repeat ⟨#[0]⟩ c w fZ (by rw[show (⟨#[0]⟩:ByteArray).size=1 from rfl];omega);rw[Nt]at this;exact this
end Go.Proofs.YtichfhpgdhdiaaaGreat
namespace Go.Proofs.YtichfhpgdhdiaaaGreat
open Go.RowKit
def WT(W:World)(bn:Nat)(z l:Int)(L:List ByteArray)(e:Ending)(w':World):Prop :=
 ∃v,e=.returned (.agg #[.int .i64 z,v,.slice none 0 0,.int .i64 l])∧qp w' (W.heap.size+2) v L∧Below bn W w'
def Te(W:World)(d:Dk)(ps:List Int)(bx:Array Value)(bn g cap k:Nat)(wr:World):Prop :=
 ∃L:List ByteArray,L.length=d.secs.length∧(∀s∈L,(s.size:Int)=d.size)∧kP d.size d.secs d.pend ps=kP d.size L (d.pend.drop k) (ps.drop k) ∧
  wr.ownsRow (W.heap.size+2) 9 1 (.slice (some ⟨g,0,none⟩) d.secs.length cap) d.secs.length (L.map .string) ∧
  gV wr W.heap.size 56 bx∧gV wr (W.heap.size+1) 56 #[.int .i64 0,.slice none 0 0,.slice none 0 0,.int .i64 0] ∧
  gV wr bn 3 #[.int .i64 ((min k ps.length:Nat):Int)]∧Below bn W wr
theorem yc{w w':World}{M:Nat→Prop}{g:Nat}{t:TypeId}{cs:Array Value}(h:gV w g t cs)(k:Agree M w w')(hM:¬M g):gV w' g t cs:=(k.block g h.lt hM).trans h
theorem KH(W0 W:World)(vs vp:Value)(d:Dk)(h0:lK W0 vs vp d)(hv:Valid d)(hpl:d.pend.length≤100000)(bn bp bd:Nat)(I:Option Addr)(ci:Nat)(ps:List Int)(u1 u2 u3:Value)(hps:Ints W0 (.slice I ps.length ci) ps)(hw0:Below W0.heap.size W0 W)(hb0:W0.heap.size≤bn)(hn:gV W bn 3 #[.int .i64 0])(hp:gV W bp 60 #[.slice I ps.length ci])(hb:gV W bd 56 #[.int .i64 d.size,u1,u2,u3])(hb1:bp<bn)(hb2:bd<bn):
  Calls prog 50 #[.agg #[.int .i64 d.size,vs,vp,.int .i64 d.left],.func (.func 51) #[] #[.pointer (some ⟨bn,0,none⟩),.pointer (some ⟨bp,0,none⟩),.pointer (some ⟨bd,0,none⟩)]] W (WT W bn d.size d.left (kP d.size d.secs d.pend ps)):=by
 have h:=h0.keep (dO hw0);obtain⟨A,c,rfl,hc,hm⟩:=h.sec.form;obtain⟨P,cp,rfl,hcp,hmp⟩:=h.pen.form;have V:=af hv;have v1:=hv.s1;have v2:=hv.s2;have v3:=hv.n1;have v4:=hv.n2;clear hv;have alb:=hn.lt;have hbk0:=gV.new W #[.int .i64 d.size,.slice A d.secs.length c,.slice P d.pend.length cp,.int .i64 d.left] 56;have hbk:=hbk0.alloc (.cells #[.int .i64 0,.slice none 0 0,.slice none 0 0,.int .i64 0] 56);have hbr:=gV.new (W.alloc (.cells #[.int .i64 d.size,.slice A d.secs.length c,.slice P d.pend.length cp,.int .i64 d.left] 56)) #[.int .i64 0,.slice none 0 0,.slice none 0 0,.int .i64 0] 56
 rw[aJ]at hbr;have hd1:=((ah W.heap.size W).alloc (ak _) (.cells #[.int .i64 d.size,.slice A d.secs.length c,.slice P d.pend.length cp,.int .i64 d.left] 56)).alloc gu (.cells #[.int .i64 0,.slice none 0 0,.slice none 0 0,.int .i64 0] 56);have hD1:=h.keep (dO hd1);have cl:=AO _ A c d.secs hD1.sec v3 fZ ;have hs2:((W.alloc (.cells #[.int .i64 d.size,.slice A d.secs.length c,.slice P d.pend.length cp,.int .i64 d.left] 56)).alloc (.cells #[.int .i64 0,.slice none 0 0,.slice none 0 0,.int .i64 0] 56)).heap.size=W.heap.size+2:=by simp
 rw[hs2]at cl;clear hbk0 hs2;go_enter func50,ntmps50;go_upto_region 1 with (fail);generalize (W.alloc (.cells #[.int .i64 d.size,.slice A d.secs.length c,.slice P d.pend.length cp,.int .i64 d.left] 56)).alloc (.cells #[.int .i64 0,.slice none 0 0,.slice none 0 0,.int .i64 0] 56)=w1 at *;obtain⟨q0,q1,q2,q3⟩:=ku hbk gD;have CL:=af cl;clear cl;go_wp2_with fail;refine CL.out.mono ?_;clear CL q0 q1 q2 q3;rintro e w2 ⟨vl,rfl,hown,hb2'⟩;have hd2:=hd1.trans (hb2'.mono fZ );have hbk2:=hbk.below hb2' fZ
 have kQ:=hbr.below hb2' fZ ;clear hbk hbr hd1 hb2' hD1;obtain⟨g,cap,rfl,hg0,hg1,hg2,hg3⟩:=CQ hown fZ ;have hR:Te W d ps #[.int .i64 d.size,.slice A d.secs.length c,.slice P d.pend.length cp,.int .i64 d.left] bn g cap 0 w2 :=
  ⟨d.secs,rfl,V.out.ss,rfl,hown,hbk2,kQ,by simpa using hn.keep hd2,hd2.mono fZ ⟩
 obtain⟨q0,q1,q2,q3⟩:=ku hbk2 gD;clear hown hbk2 kQ hd2 hn;go_wp2;go_loopw [14] (fun t wr=>∃k:Nat,k≤d.pend.length∧t=.int .i64 k∧Te W d ps #[.int .i64 d.size,.slice A d.secs.length c,.slice P d.pend.length cp,.int .i64 d.left] bn g cap k wr) (fun t _=>d.pend.length-(intOf t).toNat)
 case atStart=>exact⟨0,by omega,rfl,hR⟩
 case round =>
  clear hR hg1 q0 q1 q2 q3;obtain⟨k,hk,rfl,L,hL1,hL2,hL3,hown,hbk,hbr,hn,hd⟩:=hrel;have hw:=hw0.trans (hd.mono hb0);have hpk:=h0.pen.keep (dO hw);have hik:=hps.keep (dO hw);have hpw:=hp.below hd hb1;have abR:=hb.below hd hb2;have hbl:=hbk.lt;obtain⟨q0,q1,q2,q3⟩:=ku hbk gD;have WU:=af hL1;have HL2:=af hL2;by_cases hlt:k<d.pend.length
  ·obtain⟨b,off,rfl,a1,a2,a3,a4⟩:=hpk.get hlt;obtain⟨e1,e2,e3⟩:=V.out.ws _ (dA hlt);obtain⟨m,hm1⟩:=fA e1;generalize hs1:d.pend[k].2=s at *;have hml:m<L.length:=by omega
   have hms:m<d.secs.length:=by omega
   have HS:=af (hL3.trans (SX (ps:=ps) hlt hm1 hs1 hml));rw[hm1]at a1;have hold:((L[m]'hml).size:Int)=d.size:=hL2 _ (dA hml);have hsz1:(s.size:Int)=d.size:=e3;have Sk:=af hsz1;clear hL1 hL2 hL3 hm1 hs1 e1 e2 e3 a3 a4 hsz1 hw;have hbw:=gV.new wr #[.int .i64 (m:Int),.string s] 173;have p9:=hbk.alloc (.cells #[.int .i64 (m:Int),.string s] 173);have oQ:=hbr.alloc (.cells #[.int .i64 (m:Int),.string s] 173);have Jy:=hn.alloc (.cells #[.int .i64 (m:Int),.string s] 173);have hp3:=hpw.alloc (.cells #[.int .i64 (m:Int),.string s] 173)
   have hb3:=abR.alloc (.cells #[.int .i64 (m:Int),.string s] 173);have hi3:=hik.keep (Keeps.alloc wr (.cells #[.int .i64 (m:Int),.string s] 173));have hown3:=World.ownsRow.alloc hown (.cells #[.int .i64 (m:Int),.string s] 173);have hd3:=hd.alloc (by have:=hd.size;omega) (.cells #[.int .i64 (m:Int),.string s] 173);have hgw:bn<wr.heap.size:=hn.lt;have hgl:=(hown.lt g rfl).2;go_upto_region 5 with (fail);generalize wr.alloc (.cells #[.int .i64 (m:Int),.string s] 173)=w3 at *;generalize wr.heap.size=gw at *
   obtain⟨o1,o2⟩:=AB hown3 (i:=m) (u:=.string (L[m]'hml)) gu ;generalize hold':(L[m]'hml)=old at *;have hoL:L[m]?=some old:=by rw[au hml,hold']
   clear hold' q0 q1 q2 q3 a1 a2 hown hbk hbr hd hn hpw abR hik hpk;have p0:=hbw.cl 0;have p1:=hbw.cl 1;have hgn:g≠bn:=by omega
   have cc:=Tf w3.drew bn bp bd k I ci ps d.size u1 u2 u3 old s Jy.drew hp3.drew hb3.drew (hi3.keep (Keeps.drew _)) v1 v2 Sk.out hold fZ ;have htn:((qw (pick (ps.getD k 0) d.size) s old).size:Int)=d.size:=by
    have hpk:=Iw (ps.getD k 0) d.size v1;have hz:=Sk.out;rw[wI fZ fZ ];exact hold
   generalize qw (pick (ps.getD k 0) d.size) s old=tn at *;have CC:=af cc;have KEY:Hid (∀w4,Agree (fun b=>b=bn) w3.drew w4→w4.cell? ⟨gw,0,none⟩=some (.int .i64 (m:Int))∧w4.cell? ⟨gw,1,none⟩=some (.string s)∧w4.cell? ⟨g,m,none⟩=some (.string old)∧w4.frozen? ⟨g,m,none⟩=false):=by
    intro w4 Vw;have hW:=yc hbw.drew Vw fZ ;have hO4:=(iY (M:=fun b=>b=bn) (zx hown3) (fun b hb e=>hgn ((show g=b by injection hb).trans e))) _ Vw;have ho:=AB hO4 (i:=m) (u:=.string old) (by rw[fG,hoL];rfl);exact⟨hW.cl 0,hW.cl 1,ho.1,ho.2⟩
   have REL:Hid (∀w4,Below bn w3.drew w4→Agree (fun b=>b=bn) w3.drew w4→gV w4 bn 3 #[.int .i64 ((min (k+1) ps.length:Nat):Int)] →
     Te W d ps #[.int .i64 d.size,.slice A d.secs.length c,.slice (some ⟨b,off,none⟩) d.pend.length cp,.int .i64 d.left] bn g cap (k+1) (w4.setCell ⟨g,m,none⟩ (.string tn))):=by
    intro w4 hB4 Vw hN4;have hO4:=(iY (M:=fun b=>b=bn) (zx hown3) (fun b hb e=>hgn ((show g=b by injection hb).trans e))) _ Vw;refine⟨L.set m tn,by rw[aX];exact WU.out,Qt HL2.out htn,HS.out,?_,?_,?_,?_,?_⟩
    ·rw[List.map_set];exact CY hO4 (.string tn)
    ·exact(yc p9.drew Vw fZ ).far (p:=⟨g,m,none⟩) (by simp;omega) _
    ·exact(yc oQ.drew Vw fZ ).far (p:=⟨g,m,none⟩) (by simp;omega) _
    ·exact hN4.far (p:=⟨g,m,none⟩) (by simp;omega) _
    ·exact((kG hd3).trans hB4).setCell (p:=⟨g,m,none⟩) (show bn≤g by omega) _
   clear cc hown3 p9 oQ hd3 Jy hp3 hb3 hi3 hbw HS WU HL2 hold htn hoL Sk;go_region_law ((go_simp;go_at_call 51;refine CC.out.mono ?_;rintro e w4 ⟨rfl,hB4,Vw,hN4⟩;obtain⟨p0',p1',o1',o2'⟩:=KEY.out _ Vw))
   all_goals
    have R:=REL.out _ hB4 Vw hN4;clear hB4 Vw hN4 p0' p1' o1' o2' p0 p1 o1 o2;go_wp2;go_roundw
    case rel=>exact⟨k+1,by omega,by go_num,R⟩
    case measure=>simp[intOf]<;>omega
  ·have hF:kP d.size d.secs d.pend ps=L:=hL3.trans (WO hlt);have Cj:=af hF;have HF:=af hF;have Rm:qp wr (W.heap.size+2) (.slice (some ⟨g,0,none⟩) d.secs.length cap) L:=by unfold qp;rw[WU.out];exact hown
   clear hF hL1 hL2 hL3;obtain⟨t0,t1,t2,t3,r0,r1,r2,r3⟩:=nD hbr gD;obtain⟨Vt,q1',q2',q3',s0,s1,s2,s3⟩:=nD hbk gD;have hx:=((hbr.far (p:=⟨W.heap.size,1,none⟩) gu (.slice (some ⟨g,0,none⟩) d.secs.length cap)).far (p:=⟨W.heap.size,2,none⟩) gu (.slice none 0 0)).uR (.int .i64 d.size) (.slice (some ⟨g,0,none⟩) d.secs.length cap) (.slice none 0 0) (.int .i64 d.left);have uJ:=kr ((hd.setCell (p:=⟨W.heap.size,1,none⟩) (show bn≤W.heap.size by omega) (.slice (some ⟨g,0,none⟩) d.secs.length cap)).setCell (p:=⟨W.heap.size,2,none⟩) (show bn≤W.heap.size by omega) (.slice none 0 0)) (show bn≤W.heap.size+1 by omega) (.int .i64 d.size) (.slice (some ⟨g,0,none⟩) d.secs.length cap) (.slice none 0 0) (.int .i64 d.left)
   have Qv:=KF ((Rm.far (p:=⟨W.heap.size,1,none⟩) gu (.slice (some ⟨g,0,none⟩) d.secs.length cap)).far (p:=⟨W.heap.size,2,none⟩) gu (.slice none 0 0)) (show g≠W.heap.size+1 by omega) (.int .i64 d.size) (.slice (some ⟨g,0,none⟩) d.secs.length cap) (.slice none 0 0) (.int .i64 d.left);clear hown Rm HF;go_wp2;clear r0 r1 r2 r3 t0 t1 t2 t3 q0 q1 q2 q3 Vt q1' q2' q3' s0 s1 s2 s3;generalize (((((wr.setCell ⟨W.heap.size,1,none⟩ (.slice (some ⟨g,0,none⟩) d.secs.length cap)).setCell ⟨W.heap.size,2,none⟩ (.slice none 0 0)).setCell ⟨W.heap.size+1,0,none⟩ (.int .i64 d.size)).setCell ⟨W.heap.size+1,1,none⟩ (.slice (some ⟨g,0,none⟩) d.secs.length cap)).setCell ⟨W.heap.size+1,2,none⟩ (.slice none 0 0)).setCell ⟨W.heap.size+1,3,none⟩ (.int .i64 d.left)=wx at *
   obtain⟨k0,k1,k2,k3⟩:=ku hx gD;rw[Cj.out];exact bodyPost_ret (v:=.agg #[.int .i64 d.size,.slice (some ⟨g,0,none⟩) d.secs.length cap,.slice none 0 0,.int .i64 d.left]) (by simp[results,results50,go_sem,k0,k1,k2,k3]) rfl ⟨_,rfl,Qv,uJ⟩
end Go.Proofs.YtichfhpgdhdiaaaGreat
namespace Go.Proofs.YtichfhpgdhdiaaaGreat
open Go.RowKit
theorem BO{size:Int}:∀(p:List (Int×ByteArray)) (l:List ByteArray) (ps:List Int),(kP size l p ps).length=l.length
 |[],_,_=>rfl
 |w::p,l,ps=>by rw[kP,BO p,aX]
theorem WV(W:World)(vs vp vi:Value)(d:Dk)(h:lK W vs vp d)(hpl:d.pend.length≤100000)(ps:List Int)(hps:Ints W vi ps):
  Calls prog 20 #[.agg #[.int .i64 d.size,vs,vp,.int .i64 d.left],vi] W (zA W (vw d ps)):=by
 obtain⟨A,c,rfl,hc,hm⟩:=h.sec.form;obtain⟨P,cp,rfl,hcp,hmp⟩:=h.pen.form;obtain⟨I,ci,rfl,hci,hmi⟩:=hps.form;have hbk0:=gV.new W #[.int .i64 d.size,.slice A d.secs.length c,.slice P d.pend.length cp,.int .i64 d.left] 56;have hbk:=(hbk0.alloc (.cells #[.slice I ps.length ci] 60)).alloc (.cells #[.int .i64 0,.slice none 0 0,.slice none 0 0,.int .i64 0] 56);have abS:=gV.new (W.alloc (.cells #[.int .i64 d.size,.slice A d.secs.length c,.slice P d.pend.length cp,.int .i64 d.left] 56)) #[.slice I ps.length ci] 60
 have hbp:=abS.alloc (.cells #[.int .i64 0,.slice none 0 0,.slice none 0 0,.int .i64 0] 56);have hbr:=gV.new ((W.alloc (.cells #[.int .i64 d.size,.slice A d.secs.length c,.slice P d.pend.length cp,.int .i64 d.left] 56)).alloc (.cells #[.slice I ps.length ci] 60)) #[.int .i64 0,.slice none 0 0,.slice none 0 0,.int .i64 0] 56;rw[aJ]at hbp;rw[aJ,aJ,show W.heap.size+1+1=W.heap.size+2 from rfl]at hbr;have hd1:=(((ah W.heap.size W).alloc (ak _) (.cells #[.int .i64 d.size,.slice A d.secs.length c,.slice P d.pend.length cp,.int .i64 d.left] 56)).alloc gu (.cells #[.slice I ps.length ci] 60)).alloc (by simp;omega) (.cells #[.int .i64 0,.slice none 0 0,.slice none 0 0,.int .i64 0] 56)
 have hD1:=h.keep (dO hd1);clear hbk0 abS;go_enter func20,ntmps20;go_upto_region 1 with (fail);generalize ((W.alloc (.cells #[.int .i64 d.size,.slice A d.secs.length c,.slice P d.pend.length cp,.int .i64 d.left] 56)).alloc (.cells #[.slice I ps.length ci] 60)).alloc (.cells #[.int .i64 0,.slice none 0 0,.slice none 0 0,.int .i64 0] 56)=w1 at *;obtain⟨q0,q1,q2,q3⟩:=ku hbk gD;have c1:=wH _ _ _ d hD1;go_wp2_with fail;refine c1.mono ?_;clear c1 q0 q1 q2 q3;rintro e w2 ⟨rfl,hb2⟩
 have hd2:=hd1.trans (hb2.mono hd1.size);have hbk2:=hbk.keep hb2;have abT:=hbp.keep hb2;have kQ:=hbr.keep hb2;clear hbk hbr hbp hd1 hD1 hb2;by_cases hk:sJ d=0
 ·have HK:=af hk;rw[hk];clear hk;have hl1:=kQ.lt;have Jy:=gV.new w2 #[.int .i64 0] 3;have p9:=hbk2.alloc (.cells #[.int .i64 0] 3);have abU:=abT.alloc (.cells #[.int .i64 0] 3);have oQ:=kQ.alloc (.cells #[.int .i64 0] 3);have hd3:=hd2.alloc hd2.size (.cells #[.int .i64 0] 3);clear hbk2 abT kQ hd2;go_upto_region 4 with (fail);generalize w2.alloc (.cells #[.int .i64 0] 3)=w3 at *;generalize w2.heap.size=bn at *;obtain⟨q0,q1,q2,q3⟩:=ku p9 gD;have hl3:=Jy.lt;have c2:=KH W w3 _ _ d h (mq.1 HK.out) hpl bn (W.heap.size+1) W.heap.size I ci ps _ _ _ hps hd3 fZ Jy abU p9 fZ fZ
  go_wp2_with fail;refine c2.mono ?_;clear c2 q0 q1 q2 q3;rintro e w4 ⟨v4,rfl,hv4,hb4⟩;have hd4:=hd3.trans (hb4.mono fZ );have Fy:=p9.below hb4 fZ ;have rz:=oQ.below hb4 fZ ;clear p9 oQ abU hd3 hb4 Jy;have HE:=af (WQ (ps:=ps) HK.out);obtain⟨A4,c4,rfl⟩:=iw hv4;rw[BO]at hv4 ⊢;obtain⟨q0,q1,q2,q3,s0,s1,s2,s3⟩:=nD Fy gD;obtain⟨t0,t1,t2,t3,r0,r1,r2,r3⟩:=nD rz gD;go_upto_region 5 with (fail);have WW:=Fy.uR (.int .i64 d.size) (.slice A4 d.secs.length c4) (.slice none 0 0) (.int .i64 d.left);have Fz:=(((rz.far (p:=⟨W.heap.size,0,none⟩) gu (.int .i64 d.size)).far (p:=⟨W.heap.size,1,none⟩) gu (.slice A4 d.secs.length c4)).far (p:=⟨W.heap.size,2,none⟩) gu (.slice none 0 0)).far (p:=⟨W.heap.size,3,none⟩) gu (.int .i64 d.left)
  have hd5:=kr hd4 (ak W.heap.size) (.int .i64 d.size) (.slice A4 d.secs.length c4) (.slice none 0 0) (.int .i64 d.left);have abV:qp w4 (w3.heap.size+2) (.slice A4 d.secs.length c4) (kP d.size d.secs d.pend ps):=hv4;have hv5:=(((abV.far (p:=⟨W.heap.size,0,none⟩) (by simp;omega) (.int .i64 d.size)).far (p:=⟨W.heap.size,1,none⟩) (by simp;omega) (.slice A4 d.secs.length c4)).far (p:=⟨W.heap.size,2,none⟩) (by simp;omega) (.slice none 0 0)).far (p:=⟨W.heap.size,3,none⟩) (by simp;omega) (.int .i64 d.left);clear q0 q1 q2 q3 s0 s1 s2 s3 r0 r1 r2 r3 t0 t1 t2 t3 Fy rz hd4 hv4 abV
  generalize (((w4.setCell ⟨W.heap.size,0,none⟩ (.int .i64 d.size)).setCell ⟨W.heap.size,1,none⟩ (.slice A4 d.secs.length c4)).setCell ⟨W.heap.size,2,none⟩ (.slice none 0 0)).setCell ⟨W.heap.size,3,none⟩ (.int .i64 d.left)=w5 at *;obtain⟨q0,q1,q2,q3,s0,s1,s2,s3⟩:=nD WW gD;obtain⟨t0,t1,t2,t3,r0,r1,r2,r3⟩:=nD Fz gD;have hx:=(Fz.far (p:=⟨W.heap.size,3,none⟩) gu (.int .i64 (-1))).uR (.int .i64 d.size) (.slice A4 d.secs.length c4) (.slice none 0 0) (.int .i64 (-1));have uJ:=kr (hd5.setCell (p:=⟨W.heap.size,3,none⟩) (ak _) (.int .i64 (-1))) (show W.heap.size≤W.heap.size+2 by omega) (.int .i64 d.size) (.slice A4 d.secs.length c4) (.slice none 0 0) (.int .i64 (-1))
  have Qv:=((((hv5.far (p:=⟨W.heap.size,3,none⟩) (by simp;omega) (.int .i64 (-1))).far (p:=⟨W.heap.size+2,0,none⟩) (by simp;omega) (.int .i64 d.size)).far (p:=⟨W.heap.size+2,1,none⟩) (by simp;omega) (.slice A4 d.secs.length c4)).far (p:=⟨W.heap.size+2,2,none⟩) (by simp;omega) (.slice none 0 0)).far (p:=⟨W.heap.size+2,3,none⟩) (by simp;omega) (.int .i64 (-1));go_wp2;clear r0 r1 r2 r3 t0 t1 t2 t3 q0 q1 q2 q3 s0 s1 s2 s3;generalize ((((w5.setCell ⟨W.heap.size,3,none⟩ (.int .i64 (-1))).setCell ⟨W.heap.size+2,0,none⟩ (.int .i64 d.size)).setCell ⟨W.heap.size+2,1,none⟩ (.slice A4 d.secs.length c4)).setCell ⟨W.heap.size+2,2,none⟩ (.slice none 0 0)).setCell ⟨W.heap.size+2,3,none⟩ (.int .i64 (-1))=wx at *
  obtain⟨k0,k1,k2,k3⟩:=ku hx gD;exact bodyPost_ret (v:=.agg #[.int .i64 d.size,.slice A4 d.secs.length c4,.slice none 0 0,.int .i64 (-1)]) (by simp[results,results20,go_sem,k0,k1,k2,k3]) rfl (zA.mk HE.out rfl rfl ⟨Qv.strs,Sl.nil _ _ _,h.z0,h.z1,by simp,by simp⟩ uJ)
 ·have HE:=af (SY (ps:=ps) hk);have hb:(sJ d != 0)=true:=by simp[hk]
  clear hk;have uJ:=kr hd2 (show W.heap.size≤W.heap.size+2 by omega) (.int .i64 0) (.slice none 0 0) (.slice none 0 0) (.int .i64 0);have hx:=kQ.uR (.int .i64 0) (.slice none 0 0) (.slice none 0 0) (.int .i64 0);obtain⟨t0,t1,t2,t3,r0,r1,r2,r3⟩:=nD kQ gD;generalize sJ d=full at *;go_wp2;clear r0 r1 r2 r3 t0 t1 t2 t3;generalize (((w2.setCell ⟨W.heap.size+2,0,none⟩ (.int .i64 0)).setCell ⟨W.heap.size+2,1,none⟩ (.slice none 0 0)).setCell ⟨W.heap.size+2,2,none⟩ (.slice none 0 0)).setCell ⟨W.heap.size+2,3,none⟩ (.int .i64 0)=wx at *;obtain⟨k0,k1,k2,k3⟩:=ku hx gD
  exact bodyPost_ret (v:=.agg #[.int .i64 0,.slice none 0 0,.slice none 0 0,.int .i64 0]) (by simp[results,results20,go_sem,k0,k1,k2,k3]) rfl (zA.mk HE.out rfl rfl (kU _) uJ)
end Go.Proofs.YtichfhpgdhdiaaaGreat
namespace Go.Proofs.YtichfhpgdhdiaaaGreat
open Go.RowKit
attribute [local go_sem] Oper.semAt_some
end Go.Proofs.YtichfhpgdhdiaaaGreat
namespace Go.Proofs.YtichfhpgdhdiaaaGreat
open Go.RowKit
structure mQ(W:World)(d:Dk)(vs vp:Value)(i:Int)(s:ByteArray)(n:Int)(w:World):Prop where
 dk:gV w W.heap.size 56 #[.int .i64 d.size,vs,vp,.int .i64 d.left]
 ix:gV w (W.heap.size+1) 3 #[.int .i64 i]
 rs:gV w (W.heap.size+2) 9 #[.string s]
 re:gV w (W.heap.size+3) 28 #[.int .i64 n]
 bl:Below W.heap.size W w
section
variable {W w w':World}{d:Dk}{vs vp:Value}{i n:Int}{s:ByteArray}
theorem mQ.keep(h:mQ W d vs vp i s n w)(hb:Below w.heap.size w w'):mQ W d vs vp i s n w' :=
 ⟨h.dk.keep hb,h.ix.keep hb,h.rs.keep hb,h.re.keep hb,h.bl.trans (hb.mono h.bl.size)⟩
theorem mQ.set(h:mQ W d vs vp i s n w)(s':ByteArray)(n':Int):
  mQ W d vs vp i s' n' ((w.setCell ⟨W.heap.size+2,0,none⟩ (.string s')).setCell ⟨W.heap.size+3,0,none⟩ (.int .i64 n')) :=
 ⟨(h.dk.far (p:=⟨W.heap.size+2,0,none⟩) gu _).far (p:=⟨W.heap.size+3,0,none⟩) gu _,
  (h.ix.far (p:=⟨W.heap.size+2,0,none⟩) gu _).far (p:=⟨W.heap.size+3,0,none⟩) gu _,
  (h.rs.set 0 _).far (p:=⟨W.heap.size+3,0,none⟩) gu _,
  (h.re.far (p:=⟨W.heap.size+2,0,none⟩) gu _).set 0 _,
  (h.bl.setCell (p:=⟨W.heap.size+2,0,none⟩) (show W.heap.size≤W.heap.size+2 by omega) _).setCell (p:=⟨W.heap.size+3,0,none⟩) (show W.heap.size≤W.heap.size+3 by omega) _⟩
theorem mQ.facts(h:mQ W d vs vp i s n w):
  w.cell? ⟨W.heap.size,0,none⟩=some (.int .i64 d.size)∧w.cell? ⟨W.heap.size,1,none⟩=some vs∧w.cell? ⟨W.heap.size,2,none⟩=some vp∧w.cell? ⟨W.heap.size,3,none⟩=some (.int .i64 d.left) ∧
  w.cell? ⟨W.heap.size+1,0,none⟩=some (.int .i64 i)∧w.cell? ⟨W.heap.size+2,0,none⟩=some (.string s)∧w.cell? ⟨W.heap.size+3,0,none⟩=some (.int .i64 n) ∧
  w.frozen? ⟨W.heap.size+2,0,none⟩=false∧w.frozen? ⟨W.heap.size+3,0,none⟩=false :=
 ⟨h.dk.cl 0,h.dk.cl 1,h.dk.cl 2,h.dk.cl 3,h.ix.cl 0,h.rs.cl 0,h.re.cl 0,h.rs.frozen 0,h.re.frozen 0⟩
theorem mQ.own(h:mQ W d vs vp i s n w){row:Option Nat}(hg:w.grownBy w' row)(hr:∀r,row=some r→W.heap.size+4≤r):mQ W d vs vp i s n w':=by
 have e:∀{g t cs},gV w g t cs→g<W.heap.size+4→gV w' g t cs:=fun {g t cs} hb hl=>(hg.block g hb.lt (fun e=>by have:=hr g e.symm;omega)).trans hb
 exact⟨e h.dk fZ ,e h.ix fZ ,e h.rs fZ ,e h.re fZ ,h.bl.grown hg h.bl.size (fun k e=>by have:=hr k e;omega)⟩
end
theorem mQ.new(W:World)(d:Dk)(vs vp:Value)(i:Int):
  mQ W d vs vp i ⟨#[]⟩ 0 ((((W.alloc (.cells #[.int .i64 d.size,vs,vp,.int .i64 d.left] 56)).alloc (.cells #[.int .i64 i] 3)).alloc (.cells #[.string ⟨#[]⟩] 9)).alloc (.cells #[.int .i64 0] 28)):=by
 have h0:=gV.new W #[.int .i64 d.size,vs,vp,.int .i64 d.left] 56;have h1:=gV.new (W.alloc (.cells #[.int .i64 d.size,vs,vp,.int .i64 d.left] 56)) #[.int .i64 i] 3;have h2:=gV.new ((W.alloc (.cells #[.int .i64 d.size,vs,vp,.int .i64 d.left] 56)).alloc (.cells #[.int .i64 i] 3)) #[.string ⟨#[]⟩] 9;have h3:=gV.new (((W.alloc (.cells #[.int .i64 d.size,vs,vp,.int .i64 d.left] 56)).alloc (.cells #[.int .i64 i] 3)).alloc (.cells #[.string ⟨#[]⟩] 9)) #[.int .i64 0] 28
 simp only[aJ]at h1 h2 h3;exact⟨((h0.alloc _).alloc _).alloc _,(h1.alloc _).alloc _,h2.alloc _,h3,((((ah _ _).alloc (ak _) _).alloc gu _).alloc (by simp;omega) _).alloc (by simp;omega) _⟩
end Go.Proofs.YtichfhpgdhdiaaaGreat
namespace Go.Proofs.YtichfhpgdhdiaaaGreat
open Go.RowKit
def OP(w:World)(g:Nat):Prop:=∀j s,w.cell? ⟨g,j,none⟩≠some (.string s)
theorem Ef{w:World}{g:Nat}{t:TypeId}{a b:Int}{A P:Option Addr}{n c m k:Nat}(h:gV w g t #[.int .i64 a,.slice A n c,.slice P m k,.int .i64 b]):OP w g:=by
 intro j s e;rw[cell_of_row w g j _ t (0,0) h]at e
 match j with
 |0=>cases e
 |1=>cases e
 |2=>cases e
 |3=>cases e
 |j+4=>simp at e
theorem KI(w:World){p q:Addr}(h:q.block≠p.block)(u:Value):(w.setCell p u).cell? q=w.cell? q :=
 World.cell?_of_block (w:=w) (bf w p u q.block h)
theorem iM.Tg{w:World}{A:Option Addr}{vs:List Value}(h:iM w A vs){p:Addr}(u:Value)(hne:∀b off,A=some ⟨b,off,none⟩→vs≠[]→b≠p.block):iM (w.setCell p u) A vs:=by
 intro k x hk;obtain⟨b,off,e,hc⟩:=h k x hk;exact⟨b,off,e,(KI w (q:=⟨b,off+k,none⟩) (hne b off e (by intro e;subst e;simp at hk)) u).trans hc⟩
theorem Strs.sj{w:World}{v:Value}{xs:List ByteArray}(h:Strs w v xs){g j:Nat}(hg:OP w g)(u:Value):Strs (w.setCell ⟨g,j,none⟩ u) v xs:=by
 obtain⟨A,c,vs,rfl,h1,h2,h3,h4⟩:=h;refine⟨A,c,vs,rfl,h1,h2,h3.Tg u ?_,h4⟩;intro b off e hne he;cases xs with
 |nil=>exact hne h4
 |cons x xs =>
  obtain⟨us,vs',rfl,_,rfl,_⟩:=h4;obtain⟨b',off',e',hc⟩:=h3 0 (.string x) rfl;rw[e]at e';cases e';have he:b=g:=he;subst he;exact hg _ _ hc
theorem Qm.sj{w:World}{v:Value}{xs:List (Int×ByteArray)}(h:Qm w v xs){g j:Nat}(hg:OP w g)(u:Value):Qm (w.setCell ⟨g,j,none⟩ u) v xs:=by
 obtain⟨A,c,vs,rfl,h1,h2,h3,h4⟩:=h;refine⟨A,c,vs,rfl,h1,h2,h3.Tg u ?_,h4⟩;intro b off e hne he;cases xs with
 |nil=>exact hne h4
 |cons x xs =>
  obtain⟨us,vs',rfl,_,⟨rfl,_⟩,_⟩:=h4;obtain⟨b',off',e',hc⟩:=h3 1 (.string x.2) rfl;rw[e]at e';cases e';have he:b=g:=he;subst he;exact hg _ _ hc
theorem lK.sj{w:World}{vs vp:Value}{d:Dk}(h:lK w vs vp d){g j:Nat}(hg:OP w g)(u:Value):lK (w.setCell ⟨g,j,none⟩ u) vs vp d :=
 ⟨h.sec.sj hg u,h.pen.sj hg u,h.z0,h.z1,h.f0,h.f1⟩
theorem lK.uR{w:World}{vs vp:Value}{d:Dk}(h:lK w vs vp d){g:Nat}{t:TypeId}{a b a' b':Int}{A P A' P':Option Addr}{n c m k n' c' m' k':Nat}(hg:gV w g t #[.int .i64 a,.slice A n c,.slice P m k,.int .i64 b]):
  lK ((((w.setCell ⟨g,0,none⟩ (.int .i64 a')).setCell ⟨g,1,none⟩ (.slice A' n' c')).setCell ⟨g,2,none⟩ (.slice P' m' k')).setCell ⟨g,3,none⟩ (.int .i64 b')) vs vp d :=
 (((h.sj (Ef hg) _).sj (Ef (hg.set 0 (.int .i64 a'))) _).sj (Ef ((hg.set 0 (.int .i64 a')).set 1 (.slice A' n' c'))) _).sj (Ef (((hg.set 0 (.int .i64 a')).set 1 (.slice A' n' c')).set 2 (.slice P' m' k'))) _
theorem lK.afw{w:World}{vs vp:Value}{d:Dk}(h:lK w vs vp d){g:Nat}{t:TypeId}{a b:Int}{A P:Option Addr}{n c m k:Nat}(hg:gV w g t #[.int .i64 a,.slice A n c,.slice P m k,.int .i64 b])(j:Nat)(u:Value):
  lK (w.setCell ⟨g,j,none⟩ u) vs vp d:=h.sj (Ef hg) u
theorem Ints.sj{w:World}{v:Value}{xs:List Int}(h:Ints w v xs){g j:Nat}(u:Value)(hne:∀b off n c,v=.slice (some ⟨b,off,none⟩) n c→b≠g):Ints (w.setCell ⟨g,j,none⟩ u) v xs:=by
 obtain⟨A,c,vs,rfl,h1,h2,h3,h4⟩:=h;exact⟨A,c,vs,rfl,h1,h2,h3.Tg u (fun b off e _=>by subst e;exact hne b off _ _ rfl),h4⟩
structure Var(w:World)(g:Nat)(A:Option Addr)(c:Nat)(P:Option Addr)(cp:Nat)(d:Dk):Prop where
 blk:gV w g 56 #[.int .i64 d.size,.slice A d.secs.length c,.slice P d.pend.length cp,.int .i64 d.left]
 dk:lK w (.slice A d.secs.length c) (.slice P d.pend.length cp) d
section
variable {w w':World}{g g':Nat}{A A':Option Addr}{c c':Nat}{P P':Option Addr}{cp cp':Nat}{d d':Dk}
theorem Var.keep(h:Var w g A c P cp d)(hb:Below w.heap.size w w'):Var w' g A c P cp d:=⟨h.blk.keep hb,h.dk.keep (dO hb)⟩
theorem Var.new(h:lK w (.slice A d.secs.length c) (.slice P d.pend.length cp) d):
  Var (w.alloc (.cells #[.int .i64 d.size,.slice A d.secs.length c,.slice P d.pend.length cp,.int .i64 d.left] 56)) w.heap.size A c P cp d:=⟨gV.new _ _ _,h.keep (Keeps.alloc _ _)⟩
theorem Var.alloc(h:Var w g A c P cp d)(o:Obj):Var (w.alloc o) g A c P cp d:=⟨h.blk.alloc o,h.dk.keep (Keeps.alloc _ _)⟩
theorem Var.facts(h:Var w g A c P cp d):
  w.cell? ⟨g,0,none⟩=some (.int .i64 d.size)∧w.cell? ⟨g,1,none⟩=some (.slice A d.secs.length c)∧w.cell? ⟨g,2,none⟩=some (.slice P d.pend.length cp)∧w.cell? ⟨g,3,none⟩=some (.int .i64 d.left) ∧
   w.frozen? ⟨g,0,none⟩=false∧w.frozen? ⟨g,1,none⟩=false∧w.frozen? ⟨g,2,none⟩=false∧w.frozen? ⟨g,3,none⟩=false :=
 ⟨h.blk.cl 0,h.blk.cl 1,h.blk.cl 2,h.blk.cl 3,h.blk.frozen 0,h.blk.frozen 1,h.blk.frozen 2,h.blk.frozen 3⟩
def mE(w:World)(g:Nat)(A:Option Addr)(c:Nat)(P:Option Addr)(cp:Nat)(d:Dk):World :=
 (((w.setCell ⟨g,0,none⟩ (.int .i64 d.size)).setCell ⟨g,1,none⟩ (.slice A d.secs.length c)).setCell ⟨g,2,none⟩ (.slice P d.pend.length cp)).setCell ⟨g,3,none⟩ (.int .i64 d.left)
theorem Var.assign(h:Var w g A c P cp d)(h':lK w (.slice A' d'.secs.length c') (.slice P' d'.pend.length cp') d'):Var (mE w g A' c' P' cp' d') g A' c' P' cp' d' :=
 ⟨(((h.blk.set 0 _).set 1 _).set 2 _).set 3 _,h'.uR h.blk⟩
theorem Var.other(h:Var w g A c P cp d)(k:Var w g' A' c' P' cp' d')(hne:g≠g'){A2 P2:Option Addr}{c2 cp2:Nat}{d2:Dk}:Var (mE w g' A2 c2 P2 cp2 d2) g A c P cp d :=
 ⟨(((h.blk.far (p:=⟨g',0,none⟩) hne _).far (p:=⟨g',1,none⟩) hne _).far (p:=⟨g',2,none⟩) hne _).far (p:=⟨g',3,none⟩) hne _,h.dk.uR k.blk⟩
theorem jU{B:Nat}{a:World}(h:Below B a w)(hg:B≤g):Below B a (mE w g A c P cp d) :=
 (((h.setCell (p:=⟨g,0,none⟩) hg _).setCell (p:=⟨g,1,none⟩) hg _).setCell (p:=⟨g,2,none⟩) hg _).setCell (p:=⟨g,3,none⟩) hg _
theorem Var.left(h:Var w g A c P cp d)(l:Int)(h0 : -9223372036854775808≤l)(h1:l≤9223372036854775807):Var (w.setCell ⟨g,3,none⟩ (.int .i64 l)) g A c P cp { d with left:=l } :=
 ⟨h.blk.set 3 _,by have:=h.dk.afw h.blk 3 (.int .i64 l);exact⟨this.sec,this.pen,this.z0,this.z1,h0,h1⟩⟩
end
theorem lK.form{w:World}{vs vp:Value}{d:Dk}(h:lK w vs vp d):∃A c P cp,vs=.slice A d.secs.length c∧vp=.slice P d.pend.length cp∧d.secs.length≤c∧d.pend.length≤cp∧c≤9223372036854775807∧cp≤9223372036854775807:=by
 obtain⟨A,c,rfl,h1,h2⟩:=h.sec.form;obtain⟨P,cp,rfl,h3,h4⟩:=h.pen.form;exact⟨A,c,P,cp,rfl,rfl,h1,h3,h2,h4⟩
end Go.Proofs.YtichfhpgdhdiaaaGreat
namespace Go.Proofs.YtichfhpgdhdiaaaGreat
open Go.RowKit
attribute [local go_sem] Oper.semAt_some
def Nv(W:World)(B:Nat)(x:Int×ByteArray):Prop:=gV W B 173 #[.int .i64 x.1,.string x.2]
theorem Nv.own{W W':World}{B:Nat}{x:Int×ByteArray}(h:Nv W B x){row:Option Nat}(hg:W.grownBy W' row)(hr:∀r,row=some r→∃o:Obj,W.heap[r]?=some o∧o.isCells=false):Nv W' B x:=by
 refine(hg.block B (gV.lt h) (fun e=>?_)).trans h;obtain⟨o,ho,hc⟩:=hr B e.symm;have:=(show W.heap[B]?=_ from h).symm.trans ho;injection this with this;subst this;cases hc
end Go.Proofs.YtichfhpgdhdiaaaGreat
