/- Objects -/
import Derived.Test.YtichfhpgdhdiaaaGreatJ35
import Derived.Test.YtichfhpgdhdiaaaGreatJ3
import Derived.Test.YtichfhpgdhdiaaaGreatJ2
set_option maxRecDepth 100000
set_option maxHeartbeats 8000000
set_option linter.unusedVariables false
set_option linter.unusedSimpArgs false
open Go.Proofs.Tryz
namespace Go.Proofs.YtichfhpgdhdiaaaGreat
open Go.RowKit
theorem LA(w:World)(o:Ob)(ve vp:Value)(h:wU w ve vp o)(hs:zP o):
  Calls prog 159 #[.agg (je o ve vp)] w (qd (Cw o) w):=by
 obtain⟨s1,s2,s3,s4,s5,s6,s7,s8,s9,s10⟩:=hs;obtain⟨kind,data,gW,tree,gU,gM,time,msg⟩:=o;obtain⟨yG,yH⟩:=h;obtain⟨eA,ec,rfl,he1,he2⟩:=yG.form;obtain⟨pA,pc,rfl,hp1,hp2⟩:=yH.form;unfold je;simp only at *;have HK:=af ((ah w.heap.size w).alloc (ak _) (.cells #[.int .i64 kind,.string (fu data),.slice eA gW.length ec,.int .u64 (tree.1.toNat:Int),.int .u64 (tree.2.toNat:Int),.slice pA gU.length pc,.string (fu gM),.int .i64 time,.string (fu msg)] 44));have HB:=af (gV.new w #[.int .i64 kind,.string (fu data),.slice eA gW.length ec,.int .u64 (tree.1.toNat:Int),.int .u64 (tree.2.toNat:Int),.slice pA gU.length pc,.string (fu gM),.int .i64 time,.string (fu msg)] 44)
 have Fg:=af (yG.keep (dO HK.out));have Fh:=af (yH.keep (dO HK.out));clear yG yH;obtain⟨q0,q1,q2,q3,q4,q5,q6,q7,q8⟩:=iB HB.out;have zd:=gL data;have CO:=(Uf _ (⟨kind,data,gW,tree,gU,gM,time,msg⟩:Ob) (.slice eA gW.length ec) (.slice pA gU.length pc) ⟨Fg.out,Fh.out⟩);have CE:=fun w' (k:Keeps _ w')=>I7 w' (.slice eA gW.length ec) gW (Fg.out.keep k) s10 s6
 have CC:=fun w' (k:Keeps _ w')=>Lx w' (⟨kind,data,gW,tree,gU,gM,time,msg⟩:Ob) (.slice eA gW.length ec) (.slice pA gU.length pc) ⟨Fg.out.keep k,Fh.out.keep k⟩ s7 s8
 unfold je at CO CC;simp only at CO CC;have CO:=af CO;have CC:=af CC;have CE:=af CE;go_enter func159,ntmps159;go_upto_region 1 with (fail);generalize w.alloc (.cells #[.int .i64 kind,.string (fu data),.slice eA gW.length ec,.int .u64 (tree.1.toNat:Int),.int .u64 (tree.2.toNat:Int),.slice pA gU.length pc,.string (fu gM),.int .i64 time,.string (fu msg)] 44)=w1 at *;by_cases h1:kind<1
 ·go_wp2;go_ret;exact qd.bad gm HK.out
 by_cases h4:4<kind
 ·go_wp2;go_ret;exact qd.bad gm HK.out
 go_wp2_with fail;refine CO.out.mono ?_;rintro e w2 ⟨b,rfl,hbn,hb⟩;have Uh:=af hbn;have HW:=af hb;have lG:=(hTr HK hb);have oU:=HB.out.keep hb;clear q0 q1 q2 q3 q4 q5 q6 q7 q8;obtain⟨q0,q1,q2,q3,q4,q5,q6,q7,q8⟩:=iB oU;clear hbn hb CO oU;cases b with
 |false =>
  go_wp2;go_ret;exact qd.bad gm lG.out
 |true =>
  have HON:=af (Uh.out (by first|trivial|rfl));by_cases k2:kind=2
  ·have b2:(kind==2)=true:=by rw[k2];rfl
   have HO:Hid (Ug gW→Cw (⟨kind,data,gW,tree,gU,gM,time,msg⟩:Ob)):=fun h=>.inl ⟨k2,HON.out.1 (.inl k2),by rcases HON.out.2.2 with h|h;exact absurd h fZ ;exact h,h⟩
   clear k2 CC Uh;go_wp2_with fail;refine(CE.out _ (dO HW.out)).mono ?_;rintro e w3 ⟨k,rfl,hk,hb⟩;have Cf:=(hTr lG hb);have ZU:=af hk;clear hk hb;go_wp2;go_ret;exact⟨k,rfl,fun h=>HO.out (ZU.out h),Cf.out⟩
  ·have b2:(kind==2)=false:=by simpa using k2
   by_cases k3:kind=3
   ·have b3:(kind==3)=true:=by rw[k3];rfl
    have HO:Hid (CoP tree gU gM time msg→Cw (⟨kind,data,gW,tree,gU,gM,time,msg⟩:Ob)):=fun h=>.inr (.inl ⟨k3,HON.out.1 (.inr k3),HON.out.2.1 k2,h⟩)
    clear k2 k3 CE Uh;go_wp2_with fail;refine(CC.out _ (dO HW.out)).mono ?_;rintro e w3 ⟨k,rfl,hk,hb⟩;have Cf:=(hTr lG hb);have ZU:=af hk;clear hk hb;go_wp2;go_ret;exact⟨k,rfl,fun h=>HO.out (ZU.out h),Cf.out⟩
   ·have b3:(kind==3)=false:=by simpa using k3
    by_cases hd:(65536:Int)<(data.length:Int)
    ·clear k2 k3 CE CC Uh;go_wp2;go_ret;exact qd.bad gm lG.out
    ·have HO:Hid (Cw (⟨kind,data,gW,tree,gU,gM,time,msg⟩:Ob)):=.inr (.inr ⟨(show kind=1∨kind=4 by omega),HON.out.2.1 k2,by rcases HON.out.2.2 with h|h;exact absurd h k3;exact h,by simp only;omega⟩);clear k2 k3 CE CC Uh;go_wp2;go_ret;exact⟨0,rfl,fun _=>HO.out,lG.out⟩
theorem LB(w:World)(o:Ob)(ve vp:Value)(h:wU w ve vp o)(hs:zP o):
  Calls prog 139 #[.agg (je o ve vp)] w (qd (Cw o∧(encR o).length≤65536) w):=by
 obtain⟨kind,data,gW,tree,gU,gM,time,msg⟩:=o;obtain⟨yG,yH⟩:=h;obtain⟨eA,ec,rfl,he1,he2⟩:=yG.form;obtain⟨pA,pc,rfl,hp1,hp2⟩:=yH.form;unfold je;simp only at *;have HK:=af ((ah w.heap.size w).alloc (ak _) (.cells #[.int .i64 kind,.string (fu data),.slice eA gW.length ec,.int .u64 (tree.1.toNat:Int),.int .u64 (tree.2.toNat:Int),.slice pA gU.length pc,.string (fu gM),.int .i64 time,.string (fu msg)] 44));have HB:=af (gV.new w #[.int .i64 kind,.string (fu data),.slice eA gW.length ec,.int .u64 (tree.1.toNat:Int),.int .u64 (tree.2.toNat:Int),.slice pA gU.length pc,.string (fu gM),.int .i64 time,.string (fu msg)] 44)
 have Fg:=af (yG.keep (dO HK.out));have Fh:=af (yH.keep (dO HK.out));clear yG yH;obtain⟨q0,q1,q2,q3,q4,q5,q6,q7,q8⟩:=iB HB.out;have CF:=(LA _ (⟨kind,data,gW,tree,gU,gM,time,msg⟩:Ob) (.slice eA gW.length ec) (.slice pA gU.length pc) ⟨Fg.out,Fh.out⟩ hs);have CN:=fun w' (k:Keeps _ w')=>BU w' (⟨kind,data,gW,tree,gU,gM,time,msg⟩:Ob) (.slice eA gW.length ec) (.slice pA gU.length pc) ⟨Fg.out.keep k,Fh.out.keep k⟩ hs
 generalize hgo:(⟨kind,data,gW,tree,gU,gM,time,msg⟩:Ob)=O at CF CN;generalize hR:encR O=R at *;subst hgo;unfold je at CF CN;simp only at CF CN;have CF:=af CF;have CN:=af CN;have HRR:Hid (encR (⟨kind,data,gW,tree,gU,gM,time,msg⟩:Ob)=R):=hR;have zr:=gL R;clear hR;go_enter func139,ntmps139;go_upto_region 1 with (fail);generalize w.alloc (.cells #[.int .i64 kind,.string (fu data),.slice eA gW.length ec,.int .u64 (tree.1.toNat:Int),.int .u64 (tree.2.toNat:Int),.slice pA gU.length pc,.string (fu gM),.int .i64 time,.string (fu msg)] 44)=w1 at *
 go_wp2_with fail;refine CF.out.mono ?_;rintro e w2 ⟨k,rfl,hk,hb⟩;have ZU:=af hk;have HW:=af hb;have lG:=(hTr HK hb);have oU:=HB.out.keep hb;clear q0 q1 q2 q3 q4 q5 q6 q7 q8;obtain⟨q0,q1,q2,q3,q4,q5,q6,q7,q8⟩:=iB oU;clear hk hb CF oU;by_cases hk0:k=0
 ·subst hk0;go_wp2_with fail;refine(CN.out _ (dO HW.out)).mono ?_;rintro e w3 ⟨rfl,hb⟩;have Cf:=(hTr lG hb);clear hb;by_cases hl:(65536:Int)<(R.length:Int)
  ·go_wp2;go_ret;exact qd.bad gm Cf.out
  ·have hl2:R.length≤65536:=by omega
   go_wp2;go_ret;exact⟨0,rfl,fun _=>⟨ZU.out (by first|trivial|rfl),by first|exact hl2|(rw[HRR.out];exact hl2)⟩,Cf.out⟩
 ·have hkb:(k != 0)=true:=by simpa using hk0
  have YD:=af hk0;clear hk0;go_wp2;go_ret;exact qd.bad YD.out lG.out
def ERE(o:Ob)(w0:World)(e:Ending)(w:World):Prop:=∃(t:ByteArray) (k:Int),e=.returned (.tuple #[.string t,.int .i64 k])∧(k=0→Cw o∧(jS o).length≤65536∧t=fu (jS o))∧Below w0.heap.size w0 w
theorem qf(w:World)(o:Ob)(ve vp:Value)(h:wU w ve vp o)(hs:zP o):
  Calls prog 101 #[.agg (je o ve vp)] w (ERE o w):=by
 obtain⟨kind,data,gW,tree,gU,gM,time,msg⟩:=o;obtain⟨yG,yH⟩:=h;obtain⟨eA,ec,rfl,he1,he2⟩:=yG.form;obtain⟨pA,pc,rfl,hp1,hp2⟩:=yH.form;unfold je;simp only at *;have HK:=af ((ah w.heap.size w).alloc (ak _) (.cells #[.int .i64 kind,.string (fu data),.slice eA gW.length ec,.int .u64 (tree.1.toNat:Int),.int .u64 (tree.2.toNat:Int),.slice pA gU.length pc,.string (fu gM),.int .i64 time,.string (fu msg)] 44));have HB:=af (gV.new w #[.int .i64 kind,.string (fu data),.slice eA gW.length ec,.int .u64 (tree.1.toNat:Int),.int .u64 (tree.2.toNat:Int),.slice pA gU.length pc,.string (fu gM),.int .i64 time,.string (fu msg)] 44)
 have Fg:=af (yG.keep (dO HK.out));have Fh:=af (yH.keep (dO HK.out));clear yG yH;obtain⟨q0,q1,q2,q3,q4,q5,q6,q7,q8⟩:=iB HB.out;have CF:=(LB _ (⟨kind,data,gW,tree,gU,gM,time,msg⟩:Ob) (.slice eA gW.length ec) (.slice pA gU.length pc) ⟨Fg.out,Fh.out⟩ hs);have CN:=fun w' (k:Keeps _ w')=>BU w' (⟨kind,data,gW,tree,gU,gM,time,msg⟩:Ob) (.slice eA gW.length ec) (.slice pA gU.length pc) ⟨Fg.out.keep k,Fh.out.keep k⟩ hs
 have HX:Hid (Cw (⟨kind,data,gW,tree,gU,gM,time,msg⟩:Ob)→encR (⟨kind,data,gW,tree,gU,gM,time,msg⟩:Ob)=jS (⟨kind,data,gW,tree,gU,gM,time,msg⟩:Ob)):=Uj;generalize hgo:(⟨kind,data,gW,tree,gU,gM,time,msg⟩:Ob)=O at CF CN HX;generalize hR:encR O=R at *;generalize hQ:jS O=Q at *;subst hgo;unfold je at CF CN;simp only at CF CN;have CF:=af CF;have CN:=af CN;have HQ:Hid (jS (⟨kind,data,gW,tree,gU,gM,time,msg⟩:Ob)=Q):=hQ;clear hR hQ;go_enter func101,ntmps101;go_upto_region 1 with (fail)
 generalize w.alloc (.cells #[.int .i64 kind,.string (fu data),.slice eA gW.length ec,.int .u64 (tree.1.toNat:Int),.int .u64 (tree.2.toNat:Int),.slice pA gU.length pc,.string (fu gM),.int .i64 time,.string (fu msg)] 44)=w1 at *;go_wp2_with fail;refine CF.out.mono ?_;rintro e w2 ⟨k,rfl,hk,hb⟩;have ZU:=af hk;have HW:=af hb;have lG:=(hTr HK hb);have oU:=HB.out.keep hb;clear q0 q1 q2 q3 q4 q5 q6 q7 q8;obtain⟨q0,q1,q2,q3,q4,q5,q6,q7,q8⟩:=iB oU;clear hk hb CF oU;by_cases hk0:k=0
 ·subst hk0;go_wp2_with fail;refine(CN.out _ (dO HW.out)).mono ?_;rintro e w3 ⟨rfl,hb⟩;have Cf:=(hTr lG hb);clear hb;go_wp2;go_ret2;exact⟨fu R,0,rfl,fun _=>by
   obtain⟨g1,g2⟩:=ZU.out (by first|trivial|rfl);have e:=HX.out g1;exact⟨g1,by rw[HQ.out,←e];exact g2,by rw[HQ.out,e]⟩,Cf.out⟩
 ·have hkb:(k != 0)=true:=by simpa using hk0
  have YD:=af hk0;clear hk0;go_wp2;go_ret2;exact⟨_,k,rfl,fun h=>absurd h YD.out,lG.out⟩
end Go.Proofs.YtichfhpgdhdiaaaGreat
namespace Go.Proofs.YtichfhpgdhdiaaaGreat
open Go.RowKit
def Rd(t:TypeId)(g:Nat)(s:ByteArray)(w0 w:World):Prop:=∃(s':ByteArray) (b:Bool),gV w g t #[.string s',.bool b]∧s'.size≤s.size∧(b=false→s'.size+1≤s.size)∧w0.grownBy w (some g)
theorem l7{w w':World}(h:jZ w w')(r:Option Nat):w.grownBy w' r:=by
 obtain⟨n,rfl⟩:=h;exact⟨rfl,rfl,rfl,ak _,fun _ _ _=>rfl⟩
theorem gG(w:World)(g o:Nat)(u:Value):w.grownBy (w.setCell ⟨g,o,none⟩ u) (some g):=⟨rfl,rfl,rfl,by simp,fun k hk hne=>bf _ _ _ _ (by rintro rfl;exact hne rfl)⟩
theorem tY{w w':World}{r:Option Nat}(h:w.grownBy w' none):w.grownBy w' r:=⟨h.os,h.tape,h.output,h.size,fun k hk _=>h.block k hk gu ⟩
theorem iO{w w':World}{r:Option Nat}(h:w.grownBy w' r){q:Nat}(hq:w.heap.size≤q)(o:Nat)(u:Value):w.grownBy (w'.setCell ⟨q,o,none⟩ u) r:=⟨h.os,h.tape,h.output,by simpa using h.size,fun k hk hne=>(bf _ _ _ _ (by show k≠q;omega)).trans (h.block k hk hne)⟩
def RdN(g:Nat)(s:ByteArray)(w0:World)(e:Ending)(w:World):Prop:=∃n:Int,e=.returned (.int .i64 n)∧0≤n∧n≤1099511627776∧Rd 183 g s w0 w
def RdT(g:Nat)(s:ByteArray)(w0:World)(e:Ending)(w:World):Prop:=∃t:List UInt8,e=.returned (.string (fu t))∧t.length≤s.size∧Rd 183 g s w0 w
def RdD(g:Nat)(s:ByteArray)(w0:World)(e:Ending)(w:World):Prop:=∃d:Dg,e=.returned (.agg #[.int .u64 (d.1.toNat:Int),.int .u64 (d.2.toNat:Int)])∧Rd 183 g s w0 w
theorem qO(w:World)(g:Nat)(s:ByteArray)(b:Bool)(h:gV w g 183 #[.string s,.bool b]):
  Calls prog 98 #[.pointer (some ⟨g,0,none⟩)] w (RdN g s w):=by
 have CI:=BI s w;have HL:s.data.toList.length=s.size:=rfl;have hdec:(gX s.data.toList).2.2=0→(gX s.data.toList).1≤1099511627776∧(gX s.data.toList).2.1≤s.size∧1≤(gX s.data.toList).2.1:=fun h0=>by
  have e:gX s.data.toList=((gX s.data.toList).1,(gX s.data.toList).2.1,0):=by rw[←h0]
  obtain⟨g1,g2,g3⟩:=rf e;have:=nA (gX s.data.toList).1;have h4:=congrArg List.length g3;rw[aj]at h4;omega
 generalize gX s.data.toList=r at *;obtain⟨n,k,e0⟩:=r;simp only at hdec CI;unfold gI at CI;simp only at CI;have CI:=af CI;have q0:=h.cl 0;have q1:=h.cl 1;have HH:=af h;clear h;by_cases he:e0=0
 ·subst he;obtain⟨g1,g2,g3⟩:=hdec rfl;have hk1:(k:Int)≤(s.size:Int):=by omega
  clear hdec;cases b with
  |false =>
   go_enter func98,ntmps98;go_wp2_with fail;refine CI.out.mono ?_;rintro e w1 ⟨rfl,hd⟩;have HG:=af (l7 hd (some g));have hh:=HH.out.keep (hd.below _);have q2:=hh.cl 0;have q3:=hh.cl 1;have f0:=hh.frozen 0;have HS:=af (hh.set 0 (.string (s.extract k s.size)));clear q0 q1 hd CI HH hh;go_wp2;go_ret;exact⟨n,rfl,by omega,by omega,s.extract k s.size,false,HS.out,by rw[bJ];omega,fun _=>by rw[bJ];omega,HG.out.trans (gG _ _ _ _)⟩
  |true =>
   go_enter func98,ntmps98;go_wp2_with fail;refine CI.out.mono ?_;rintro e w1 ⟨rfl,hd⟩;have HG:=af (l7 hd (some g));have hh:=HH.out.keep (hd.below _);have q2:=hh.cl 0;have q3:=hh.cl 1;have f1:=hh.frozen 1;have HS:=af (hh.set 1 (.bool true));clear q0 q1 hd CI HH hh;go_wp2;go_ret;exact⟨0,rfl,by omega,by omega,s,true,HS.out,ak _,fun h=>(by cases h),HG.out.trans (gG _ _ _ _)⟩
 ·have hne:(e0 != 0)=true:=by simpa using he
  clear hdec he;cases b with
  |false =>
   go_enter func98,ntmps98;go_wp2_with fail;refine CI.out.mono ?_;rintro e w1 ⟨rfl,hd⟩;have HG:=af (l7 hd (some g));have hh:=HH.out.keep (hd.below _);have q2:=hh.cl 0;have q3:=hh.cl 1;have f1:=hh.frozen 1;have HS:=af (hh.set 1 (.bool true));clear q0 q1 hd CI HH hh;go_wp2;go_ret;exact⟨0,rfl,by omega,by omega,s,true,HS.out,ak _,fun h=>(by cases h),HG.out.trans (gG _ _ _ _)⟩
  |true =>
   go_enter func98,ntmps98;go_wp2_with fail;refine CI.out.mono ?_;rintro e w1 ⟨rfl,hd⟩;have HG:=af (l7 hd (some g));have hh:=HH.out.keep (hd.below _);have q2:=hh.cl 0;have q3:=hh.cl 1;have f1:=hh.frozen 1;have HS:=af (hh.set 1 (.bool true));clear q0 q1 hd CI HH hh;go_wp2;go_ret;exact⟨0,rfl,by omega,by omega,s,true,HS.out,ak _,fun h=>(by cases h),HG.out.trans (gG _ _ _ _)⟩
theorem qP(w:World)(g:Nat)(s:ByteArray)(b:Bool)(hs:s.size≤1000000000)(h:gV w g 183 #[.string s,.bool b]):
  Calls prog 99 #[.pointer (some ⟨g,0,none⟩)] w (RdT g s w):=by
 have CI:=Hw s w fZ ;have HL:s.data.toList.length=s.size:=rfl;have hdec:(ji s.data.toList).2.2=0→(ji s.data.toList).1.length≤s.size∧(ji s.data.toList).2.1≤s.size∧1≤(ji s.data.toList).2.1:=fun h0=>by
  have e:ji s.data.toList=((ji s.data.toList).1,(ji s.data.toList).2.1,0):=by rw[←h0]
  obtain⟨g1,g2,g3⟩:=qZ e;have:=nA (ji s.data.toList).1.length;rw[aj]at g2;have h4:=congrArg List.length g3;rw[aj,aj]at h4;omega
 generalize ji s.data.toList=r at *;obtain⟨n,k,e0⟩:=r;simp only at hdec CI;unfold gT at CI;simp only at CI;have CI:=af CI;have q0:=h.cl 0;have q1:=h.cl 1;have HH:=af h;clear h;by_cases he:e0=0
 ·subst he;obtain⟨g1,g2,g3⟩:=hdec rfl;have hk1:(k:Int)≤(s.size:Int):=by omega
  clear hdec;cases b with
  |false =>
   go_enter func99,ntmps99;go_wp2_with fail;refine CI.out.mono ?_;rintro e w1 ⟨rfl,hd⟩;have HG:=af (l7 hd (some g));have hh:=HH.out.keep (hd.below _);have q2:=hh.cl 0;have q3:=hh.cl 1;have f0:=hh.frozen 0;have HS:=af (hh.set 0 (.string (s.extract k s.size)));clear q0 q1 hd CI HH hh;go_wp2;go_ret;exact⟨n,rfl,by omega,s.extract k s.size,false,HS.out,by rw[bJ];omega,fun _=>by rw[bJ];omega,HG.out.trans (gG _ _ _ _)⟩
  |true =>
   go_enter func99,ntmps99;go_wp2_with fail;refine CI.out.mono ?_;rintro e w1 ⟨rfl,hd⟩;have HG:=af (l7 hd (some g));have hh:=HH.out.keep (hd.below _);have q2:=hh.cl 0;have q3:=hh.cl 1;have f1:=hh.frozen 1;have HS:=af (hh.set 1 (.bool true));clear q0 q1 hd CI HH hh;go_wp2;go_ret;exact⟨[],rfl,by simp,s,true,HS.out,ak _,fun h=>(by cases h),HG.out.trans (gG _ _ _ _)⟩
 ·have hne:(e0 != 0)=true:=by simpa using he
  clear hdec he;cases b with
  |false =>
   go_enter func99,ntmps99;go_wp2_with fail;refine CI.out.mono ?_;rintro e w1 ⟨rfl,hd⟩;have HG:=af (l7 hd (some g));have hh:=HH.out.keep (hd.below _);have q2:=hh.cl 0;have q3:=hh.cl 1;have f1:=hh.frozen 1;have HS:=af (hh.set 1 (.bool true));clear q0 q1 hd CI HH hh;go_wp2;go_ret;exact⟨[],rfl,by simp,s,true,HS.out,ak _,fun h=>(by cases h),HG.out.trans (gG _ _ _ _)⟩
  |true =>
   go_enter func99,ntmps99;go_wp2_with fail;refine CI.out.mono ?_;rintro e w1 ⟨rfl,hd⟩;have HG:=af (l7 hd (some g));have hh:=HH.out.keep (hd.below _);have q2:=hh.cl 0;have q3:=hh.cl 1;have f1:=hh.frozen 1;have HS:=af (hh.set 1 (.bool true));clear q0 q1 hd CI HH hh;go_wp2;go_ret;exact⟨[],rfl,by simp,s,true,HS.out,ak _,fun h=>(by cases h),HG.out.trans (gG _ _ _ _)⟩
theorem BB(w:World)(g:Nat)(s:ByteArray)(b:Bool)(h:gV w g 183 #[.string s,.bool b]):
  Calls prog 100 #[.pointer (some ⟨g,0,none⟩)] w (RdD g s w):=by
 have hlt:=h.lt;have hk1:=(h.alloc (.cells #[.int .u64 0,.int .u64 0] 39)).alloc (.cells #[.int .u64 0,.int .u64 0] 39);have hz:=(gV.new w #[.int .u64 0,.int .u64 0] 39).alloc (.cells #[.int .u64 0,.int .u64 0] 39);have hd:=gV.new (w.alloc (.cells #[.int .u64 0,.int .u64 0] 39)) #[.int .u64 0,.int .u64 0] 39;rw[aJ]at hd;have HZ:=af hz;have HD:=af hd;have HR:=af hk1;have HG:Hid (w.grownBy ((w.alloc (.cells #[.int .u64 0,.int .u64 0] 39)).alloc (.cells #[.int .u64 0,.int .u64 0] 39)) (some g)):=tY (iF (((ah w.heap.size w).alloc (ak _) _).alloc gu _))
 clear hk1 hz hd h;go_enter func100,ntmps100;go_upto_region 2 with (fail);generalize (w.alloc (.cells #[.int .u64 0,.int .u64 0] 39)).alloc (.cells #[.int .u64 0,.int .u64 0] 39)=w1 at *;have q0:=HR.out.cl 0;have q1:=HR.out.cl 1;have z0:=HZ.out.cl 0;have z1:=HZ.out.cl 1;have y0:=HD.out.cl 0;have y1:=HD.out.cl 1;have f1:=HR.out.frozen 1;obtain⟨g0,g1⟩:=JO HZ.out;cases b with
 |true =>
  go_wp2;have B1:=((HR.out.set 1 (.bool true)).far (p:=⟨w.heap.size,0,none⟩) (by show g≠w.heap.size;omega) (.int .u64 0)).far (p:=⟨w.heap.size,1,none⟩) (by show g≠w.heap.size;omega) (.int .u64 0);have B2:=(((HZ.out.far (p:=⟨g,1,none⟩) (by show w.heap.size≠g;omega) (.bool true)).set 0 (.int .u64 0))).set 1 (.int .u64 0);have B3:=iO (iO (HG.out.trans (gG _ g 1 (.bool true))) (ak _) 0 (.int .u64 0)) (ak _) 1 (.int .u64 0);generalize ((w1.setCell ⟨g,1,none⟩ (.bool true)).setCell ⟨w.heap.size,0,none⟩ (.int .u64 0)).setCell ⟨w.heap.size,1,none⟩ (.int .u64 0)=w9 at *
  have k0:=B2.cl 0;have k1:=B2.cl 1;exact bodyPost_ret (v:=.agg #[.int .u64 0,.int .u64 0]) (by simp[results,results100,go_sem,k0,k1]) rfl ⟨(0,0),rfl,s,true,B1,ak _,fun h=>(by cases h),B3⟩
 |false =>
  by_cases h16:(s.size:Int)<16
  ·go_wp2;have B1:=((HR.out.set 1 (.bool true)).far (p:=⟨w.heap.size,0,none⟩) (by show g≠w.heap.size;omega) (.int .u64 0)).far (p:=⟨w.heap.size,1,none⟩) (by show g≠w.heap.size;omega) (.int .u64 0);have B2:=(((HZ.out.far (p:=⟨g,1,none⟩) (by show w.heap.size≠g;omega) (.bool true)).set 0 (.int .u64 0))).set 1 (.int .u64 0);have B3:=iO (iO (HG.out.trans (gG _ g 1 (.bool true))) (ak _) 0 (.int .u64 0)) (ak _) 1 (.int .u64 0);generalize ((w1.setCell ⟨g,1,none⟩ (.bool true)).setCell ⟨w.heap.size,0,none⟩ (.int .u64 0)).setCell ⟨w.heap.size,1,none⟩ (.int .u64 0)=w9 at *
   have k0:=B2.cl 0;have k1:=B2.cl 1;exact bodyPost_ret (v:=.agg #[.int .u64 0,.int .u64 0]) (by simp[results,results100,go_sem,k0,k1]) rfl ⟨(0,0),rfl,s,true,B1,ak _,fun h=>(by cases h),B3⟩
  ·clear f1 g0 g1 z0 z1 y0 y1;go_wp2;clear q0 q1;go_loopw [4] (fun iv wr=>∃(io:Nat) (a b:UInt64),io≤16∧iv=.int .i64 io∧gV wr (w.heap.size+1) 39 #[.int .u64 (a.toNat:Int),.int .u64 (b.toNat:Int)]∧w1.grownBy wr (some (w.heap.size+1))) (fun iv _=>16-(intOf iv).toNat)
   case atStart=>exact⟨0,0,0,by omega,rfl,HD.out,World.grownBy.refl _ _⟩
   case round =>
    obtain⟨io,a,b,hio,rfl,hdb,hgr⟩:=hrel;have qY:=af hdb;have MW:=af (HR.out.grown hgr (by intro h;injection h with h;omega));have RV:=af (HZ.out.grown hgr (by intro h;injection h with h;omega));have Jt:=af hgr;clear hgr hdb;by_cases hlt2:io<16
    ·obtain⟨gd,hgd⟩:∃gd,gd=w.heap.size+1:=⟨_,rfl⟩;rw[←hgd]at qY Jt ⊢;have HGD:=af hgd;clear hgd;obtain⟨q,hq⟩:∃q,q=io/8:=⟨_,rfl⟩;have hq1:(io:Int)/8=(q:Int):=by omega
     have hq2:(io:Int).tdiv 8=(q:Int):=by rw[fF fZ ];exact hq1
     have HQ:=af (fT hq1 hq2);have hq3:(q:Int)<2:=by omega
     have hs3:(io:Int)<(s.size:Int):=by omega
     have hlt3:(io:Int)<16:=by omega
     obtain⟨cur,HC⟩:∃cur:UInt64,Hid ((#[Value.int .u64 (a.toNat:Int),.int .u64 (b.toNat:Int)]:Array Value)[q]?=some (.int .u64 (cur.toNat:Int))):=by
      have:q=0∨q=1:=by omega
      rcases this with rfl|rfl
      ·exact⟨a,rfl⟩
      ·exact⟨b,rfl⟩
     clear hq hq1 hq2;go_upto_region 8 with (fail);refine iN gB 15 (fun i v w=>match i with
      |0=>v=.int .i64 (io:Int)
      |1=>v=.int .i64 (q:Int)
      |2=>v=.int .i64 (io:Int)
      |3=>v=.int .i64 (q:Int)
      |4=>v=.pointer (some ⟨gd,q,none⟩)
      |5=>v=.int .u64 (cur.toNat:Int)
      |6=>∃z:UInt64,v=.int .u64 (z.toNat:Int)
      |7=>v=.pointer (some ⟨g,0,none⟩)
      |8=>v=.pointer (some ⟨g,0,none⟩)
      |9=>v=.pointer (some ⟨g,0,none⟩)
      |10=>v=.string s
      |11=>v=.int .i64 (io:Int)
      |12=>∃z:UInt8,v=.int .u8 (z.toNat:Int)
      |13=>∃z:UInt64,v=.int .u64 (z.toNat:Int)
      |_=>∃z:UInt64,v=.int .u64 (z.toNat:Int)) 0 gB (fun i v w w' h hb=>?_) ?_ ?_
     ·exact PH
     ·rintro i o hi ho a w1 hdf hlen hold hbel gK K hK;clear hdf;have hR:=(MW.out.keep (gH _)).keep hbel;have q0:=hR.cl 0;have hD:=(qY.out.keep (gH _)).keep hbel;have d0:=hD.cell (j:=q) HC.out;clear hR hD;have s0:=kZ hold 0 (.pointer (some ⟨g,0,none⟩));have s3:=kZ hold 3 (.pointer (some ⟨gd,0,none⟩));have s4:=kZ hold 4 (.int .i64 (io:Int));have hi':i=0∨i=1∨i=2∨i=3∨i=4∨i=5∨i=6∨i=7∨i=8∨i=9∨i=10∨i=11∨i=12∨i=13∨i=14:=by omega
      rcases hi' with rfl|rfl|rfl|rfl|rfl|rfl|rfl|rfl|rfl|rfl|rfl|rfl|rfl|rfl|rfl<;>obtain rfl:=aB ho
      ·exact iJ s4
      ·refine qM (iq gK 0 26) ?_;have hq1:(io:Int)/8=(q:Int):=HQ.out.1;have hq2:(io:Int).tdiv 8=(q:Int):=HQ.out.2;first|exact hK _ w1 rfl gD|exact hK _ w1 (by simp only[hq1];exact congrArg (Value.int IntKind.i64) (jo fZ fZ )) gD
      ·exact iJ s4
      ·refine qM (iq gK 2 28) ?_;have hq1:(io:Int)/8=(q:Int):=HQ.out.1;have hq2:(io:Int).tdiv 8=(q:Int):=HQ.out.2;first|exact hK _ w1 rfl gD|exact hK _ w1 (by simp only[hq1];exact congrArg (Value.int IntKind.i64) (jo fZ fZ )) gD
      ·exact yM s3 (iq gK 3 29)
      ·exact iJ (iq gK 4 30)
      ·refine qM (iq gK 5 31) ?_;exact hK _ w1 ⟨Cg (IntKind.u64.wrap ((cur.toNat:Int)*256)),by rw[rY (p8 _).1 (p8 _).2]⟩ gD
      ·exact iJ s0
      ·exact iJ (iq gK 7 33)
      ·exact iJ (iq gK 8 34)
      ·exact iJ (iq gK 9 35)
      ·exact iJ s4
      ·refine sM (iq gK 10 36) (iq gK 11 37) ?_;exact hK _ w1 ⟨_,rfl⟩ gD
      ·have e38:=iq gK 12 38;simp only at e38;obtain⟨z,e38⟩:=e38;unfold Oper.wp;simp only[execOp,Act.eval,e38];go_simp;first|exact hK _ w1 ⟨Cg (IntKind.u64.wrap (z.toNat:Int)),by rw[rY (p8 _).1 (p8 _).2]⟩ gD|exact hK _ w1 ⟨Cg (z.toNat:Int),by rw[rY fZ (by have:=z.toNat_lt;omega)]⟩ gD
      ·have e32:=iq gK 6 32;simp only at e32;have e39:=iq gK 13 39;simp only at e39;obtain⟨z,e32⟩:=e32;obtain⟨y,e39⟩:=e39;unfold Oper.wp;simp only[execOp,Act.eval,e32,e39];go_simp;exact hK _ w1 ⟨Cg (IntKind.u64.wrap ((z.toNat:Int)+(y.toNat:Int))),by rw[rY (p8 _).1 (p8 _).2]⟩ gD
     ·rintro a w1 hdf hlen hold hbel hnew;have e40:=qH hnew 14 40;simp only at e40;obtain⟨z,e40⟩:=e40;have e27:=qH hnew 1 27;simp only at e27;obtain⟨uq,hu,hact⟩:=kL [26,27,28,29,30,31,32,33,34,35,36,37,38,39,40] hdf hlen hold;simp only[hu]at e27 e40;simp only[List.foldl,e27,e40,SA]at hact;clear hdf hlen hold hnew e27 e40 hu;subst hact;have HDn:=af ((qY.out.keep (gH _)).keep hbel);have hwr:=iF ((gH wr).trans hbel);have Yc:=af (Jt.out.trans (tY hwr));clear hbel hwr;have c0:=HDn.out.cell (j:=q) HC.out;have f0:=HDn.out.frozen q;refine kF.lt 15 ?_
      intro K hK;go_simp;refine hK _ _ ?_;clear hK K;refine kF.lt 16 ?_;intro K hK;go_simp;refine hK _ _ (iP ?_);clear hK K;have hset:=HDn.out.set q (.int .u64 (z.toNat:Int));have HS:∃a' b':UInt64,Hid (gV (w1.setCell ⟨gd,q,none⟩ (.int .u64 (z.toNat:Int))) gd 39 #[.int .u64 (a'.toNat:Int),.int .u64 (b'.toNat:Int)]):=by
       have:q=0∨q=1:=by omega
       rcases this with rfl|rfl
       ·exact⟨z,b,hset⟩
       ·exact⟨a,z,hset⟩
      obtain⟨a',b',HS⟩:=HS;have HG2:=af (Yc.out.trans (gG w1 gd q (.int .u64 (z.toNat:Int))));clear hset c0 f0 HDn Yc qY Jt MW RV;go_wp2;go_roundw
      case rel=>exact⟨io+1,a',b',by omega,by go_num,HS.out,HG2.out⟩
      case measure=>simp[intOf];omega
    ·obtain rfl:io=16:=by omega
     have hz:=RV.out;have q0:=MW.out.cl 0;have q1:=MW.out.cl 1;have f0:=MW.out.frozen 0;have z0:=hz.cl 0;have z1:=hz.cl 1;obtain⟨g0,g1⟩:=JO hz;have y0:=qY.out.cl 0;have y1:=qY.out.cl 1;have hlt3:¬((16:Nat):Int)<16:=by omega
     have aeS:(16:Int)≤(s.size:Int):=by omega
     have B1:=((MW.out.set 0 (.string (s.extract 16 s.size))).far (p:=⟨w.heap.size,0,none⟩) (by show g≠w.heap.size;omega) (.int .u64 (a.toNat:Int))).far (p:=⟨w.heap.size,1,none⟩) (by show g≠w.heap.size;omega) (.int .u64 (b.toNat:Int));have B2:=(((hz.far (p:=⟨g,0,none⟩) (by show w.heap.size≠g;omega) (.string (s.extract 16 s.size))).set 0 (.int .u64 (a.toNat:Int)))).set 1 (.int .u64 (b.toNat:Int));have R5:w.grownBy wr (some g):=by
      have h1:=HG.out;have h2:=Jt.out;exact⟨h2.os.trans h1.os,h2.tape.trans h1.tape,h2.output.trans h1.output,aS h1.size h2.size,fun k hk hne=>(h2.block k (bM hk h1.size) (by intro h;injection h with h;omega)).trans (h1.block k hk hne)⟩
     have B3:=iO (iO (R5.trans (gG _ g 0 (.string (s.extract 16 s.size)))) (ak _) 0 (.int .u64 (a.toNat:Int))) (ak _) 1 (.int .u64 (b.toNat:Int));have B1':=af B1;have B2':=af B2;have B3':=af B3;clear B1 B2 B3 hz R5 MW RV qY Jt;go_wp2;have B1:=B1'.out;have B2:=B2'.out;have B3:=B3'.out;generalize ((wr.setCell ⟨g,0,none⟩ (.string (s.extract 16 s.size))).setCell ⟨w.heap.size,0,none⟩ (.int .u64 (a.toNat:Int))).setCell ⟨w.heap.size,1,none⟩ (.int .u64 (b.toNat:Int))=w9 at *;have k0:=B2.cl 0;have k1:=B2.cl 1;exact bodyPost_ret (v:=.agg #[.int .u64 (a.toNat:Int),.int .u64 (b.toNat:Int)]) (by simp[results,results100,go_sem,k0,k1]) rfl ⟨(a,b),rfl,s.extract 16 s.size,false,B1,by rw[bJ];omega,fun _=>by rw[bJ];omega,B3⟩
end Go.Proofs.YtichfhpgdhdiaaaGreat
namespace Go.Proofs.YtichfhpgdhdiaaaGreat
open Go.RowKit
def jO:Ob:=⟨0,[],[],(0,0),[],[],0,[]⟩
structure BF(rt:TypeId)(B:Nat)(s:ByteArray)(b:Bool)(o:Ob)(ve vp:Value)(w0 w:World):Prop where
 res:gV w B 44 (je jO (.slice none 0 0) (.slice none 0 0))
 rd:gV w (B+1) rt #[.string s,.bool b]
 ob:gV w (B+2) 44 (je o ve vp)
 en:w.ownsRow (B+3) 155 4 ve o.gW.length (o.gW.flatMap Ic)
 pa:w.ownsRow (B+3) 39 2 vp o.gU.length (o.gU.flatMap rq)
 jM:Below B w0 w
 lt:B+3≤w.heap.size
section
variable {rt:TypeId}{B:Nat}{s:ByteArray}{b:Bool}{o o':Ob}{ve vp FY Dy:Value}{w0 w w':World}
theorem BF.at(h:BF rt B s b o ve vp w0 w):wU w ve vp o:=⟨Ie h.en,ze h.pa⟩
theorem BF.reader(h:BF rt B s b o ve vp w0 w)(R:Rd rt (B+1) s w w'):∃(s':ByteArray) (b':Bool),BF rt B s' b' o ve vp w0 w'∧s'.size≤s.size∧(b'=false→s'.size+1≤s.size):=by
 obtain⟨s',b',h1,h2,h3,hg⟩:=R;refine⟨s',b',⟨h.res.grown hg (by intro e;injection e with e;omega),h1,h.ob.grown hg (by intro e;injection e with e;omega),h.en.kept hg ?_,h.pa.kept hg ?_,h.jM.grown hg (by have:=h.lt;omega) (fun q e=>by cases e;omega),aS h.lt hg.size⟩,h2,h3⟩
 ·right;intro e;have:=(h.en.lt _ e).1;omega
 ·right;intro e;have:=(h.pa.lt _ e).1;omega
theorem BF.below(h:BF rt B s b o ve vp w0 w)(k:Below w.heap.size w w'):BF rt B s b o ve vp w0 w' :=
 ⟨h.res.keep k,h.rd.keep k,h.ob.keep k,h.en.kept (iF k) (by cases ve.ownBlock<;>simp),h.pa.kept (iF k) (by cases vp.ownBlock<;>simp),h.jM.trans (k.mono (by have:=h.lt;omega)),aS h.lt k.size⟩
theorem BF.other(h:BF rt B s b o ve vp w0 w){q:Nat}(hg:w.grownBy w' (some q))(hq:B+3≤q)(he:ve.ownBlock≠some q)(hp:vp.ownBlock≠some q):BF rt B s b o ve vp w0 w' :=
 ⟨h.res.grown hg (by intro e;injection e with e;omega),h.rd.grown hg (by intro e;injection e with e;omega),h.ob.grown hg (by intro e;injection e with e;omega),h.en.kept hg (.inr he),h.pa.kept hg (.inr hp),h.jM.grown hg (by have:=h.lt;omega) (fun q' e=>by cases e;omega),aS h.lt hg.size⟩
theorem BF.put(h:BF rt B s b o ve vp w0 w)(j:Nat)(u:Value)(hc:(je o ve vp).setIfInBounds j u=je o' ve vp)(he:o'.gW=o.gW)(hp:o'.gU=o.gU):BF rt B s b o' ve vp w0 (w.setCell ⟨B+2,j,none⟩ u):=by
 have hg:=gG w (B+2) j u;have hs:=h.ob.set j u;rw[hc]at hs;refine⟨h.res.grown hg (by intro e;injection e with e;omega),h.rd.grown hg (by intro e;injection e with e;omega),hs,?_,?_,h.jM.grown hg (by have:=h.lt;omega) (fun q' e=>by cases e;omega),aS h.lt hg.size⟩
 ·rw[he];exact h.en.kept hg (.inr (by intro e;have:=(h.en.lt _ e).1;omega))
 ·rw[hp];exact h.pa.kept hg (.inr (by intro e;have:=(h.pa.lt _ e).1;omega))
theorem BF.adD(h:BF rt B s b o ve (.slice none 0 0) w0 w)(hp0:o.gU = []){x:En}(hg:w.grownBy w' ve.ownBlock)(hn:w'.ownsRow (B+3) 155 4 FY (o.gW++[x]).length ((o.gW++[x]).flatMap Ic)):
  BF rt B s b ⟨o.kind,o.data,o.gW++[x],o.tree,o.gU,o.gM,o.time,o.msg⟩ FY (.slice none 0 0) w0 (w'.setCell ⟨B+2,2,none⟩ FY):=by
 have hne:∀q,ve.ownBlock=some q→B+3≤q:=fun q e=>(h.en.lt q e).1
 have hg2:=gG w' (B+2) 2 FY;have f:∀q,q<B+3→some q≠ve.ownBlock:=fun q hq e=>by have:=hne q e.symm;omega
 have hs:=(h.ob.grown hg (f _ fZ )).set 2 FY;refine⟨(h.res.grown hg (f _ fZ )).grown hg2 (by intro e;injection e with e;omega),(h.rd.grown hg (f _ fZ )).grown hg2 (by intro e;injection e with e;omega),hs,hn.kept hg2 (.inr (by intro e;have:=(hn.lt _ e).1;omega)),?_,(h.jM.grown hg (by have:=h.lt;omega) (fun q e=>by have:=hne q e;omega)).grown hg2 (by have:=h.lt;have:=hg.size;omega) (fun q' e=>by cases e;omega),aS h.lt (aS hg.size hg2.size)⟩;show World.ownsRow _ _ _ _ _ o.gU.length (o.gU.flatMap rq);rw[hp0];exact World.ownsRow_nil _ _ _ _
theorem BF.adE(h:BF rt B s b o (.slice none 0 0) vp w0 w)(he0:o.gW = []){x:Dg}(hg:w.grownBy w' vp.ownBlock)(hn:w'.ownsRow (B+3) 39 2 Dy (o.gU++[x]).length ((o.gU++[x]).flatMap rq)):
  BF rt B s b ⟨o.kind,o.data,o.gW,o.tree,o.gU++[x],o.gM,o.time,o.msg⟩ (.slice none 0 0) Dy w0 (w'.setCell ⟨B+2,5,none⟩ Dy):=by
 have hne:∀q,vp.ownBlock=some q→B+3≤q:=fun q e=>(h.pa.lt q e).1
 have hg2:=gG w' (B+2) 5 Dy;have f:∀q,q<B+3→some q≠vp.ownBlock:=fun q hq e=>by have:=hne q e.symm;omega
 have hs:=(h.ob.grown hg (f _ fZ )).set 5 Dy;refine⟨(h.res.grown hg (f _ fZ )).grown hg2 (by intro e;injection e with e;omega),(h.rd.grown hg (f _ fZ )).grown hg2 (by intro e;injection e with e;omega),hs,?_,hn.kept hg2 (.inr (by intro e;have:=(hn.lt _ e).1;omega)),(h.jM.grown hg (by have:=h.lt;omega) (fun q e=>by have:=hne q e;omega)).grown hg2 (by have:=h.lt;have:=hg.size;omega) (fun q' e=>by cases e;omega),aS h.lt (aS hg.size hg2.size)⟩;show World.ownsRow _ _ _ _ _ o.gW.length (o.gW.flatMap Ic);rw[he0];exact World.ownsRow_nil _ _ _ _
theorem BF.forms(h:BF rt B s b o ve vp w0 w):∃A n c A' n' c',ve=.slice A n c∧vp=.slice A' n' c':=by
 obtain⟨A,c,e⟩:=iw h.en;obtain⟨A',c',e'⟩:=iw h.pa;exact⟨A,_,c,A',_,c',e,e'⟩
theorem Ov(rt:TypeId)(w:World)(s:ByteArray)(u:Value)(hu:je jO (.slice none 0 0) (.slice none 0 0)=je jO (.slice none 0 0) (.slice none 0 0)):
  BF rt w.heap.size s false jO (.slice none 0 0) (.slice none 0 0) w (((w.alloc (.cells (je jO (.slice none 0 0) (.slice none 0 0)) 44)).alloc (.cells #[.string s,.bool false] rt)).alloc (.cells (je jO (.slice none 0 0) (.slice none 0 0)) 44)):=by
 have h1:=((gV.new w (je jO (.slice none 0 0) (.slice none 0 0)) 44).alloc (.cells #[.string s,.bool false] rt)).alloc (.cells (je jO (.slice none 0 0) (.slice none 0 0)) 44);have h2:=(gV.new (w.alloc (.cells (je jO (.slice none 0 0) (.slice none 0 0)) 44)) #[.string s,.bool false] rt).alloc (.cells (je jO (.slice none 0 0) (.slice none 0 0)) 44);have h3:=gV.new ((w.alloc (.cells (je jO (.slice none 0 0) (.slice none 0 0)) 44)).alloc (.cells #[.string s,.bool false] rt)) (je jO (.slice none 0 0) (.slice none 0 0)) 44
 simp only[aJ]at h1 h2 h3;exact⟨h1,h2,h3,World.ownsRow_nil _ _ _ _,World.ownsRow_nil _ _ _ _,(((ah w.heap.size w).alloc (ak _) _).alloc gu _).alloc (by simp;omega) _,by simp⟩
end
def kJ(w:World)(b:Nat)(o:Ob)(ve vp:Value):World :=
 ((((((((w.setCell ⟨b,0,none⟩ (.int .i64 o.kind)).setCell ⟨b,1,none⟩ (.string (fu o.data))).setCell ⟨b,2,none⟩ ve).setCell ⟨b,3,none⟩ (.int .u64 (o.tree.1.toNat:Int))).setCell ⟨b,4,none⟩ (.int .u64 (o.tree.2.toNat:Int))).setCell ⟨b,5,none⟩ vp).setCell ⟨b,6,none⟩ (.string (fu o.gM))).setCell ⟨b,7,none⟩ (.int .i64 o.time)).setCell ⟨b,8,none⟩ (.string (fu o.msg))
theorem ahv{w:World}{b:Nat}{t:TypeId}{a0 a1 a2 a3 a4 a5 a6 a7 a8:Value}(c0 c1 c2 c3 c4 c5 c6 c7 c8:Value)(h:gV w b t #[a0,a1,a2,a3,a4,a5,a6,a7,a8]):
  gV (((((((((w.setCell ⟨b,0,none⟩ c0).setCell ⟨b,1,none⟩ c1).setCell ⟨b,2,none⟩ c2).setCell ⟨b,3,none⟩ c3).setCell ⟨b,4,none⟩ c4).setCell ⟨b,5,none⟩ c5).setCell ⟨b,6,none⟩ c6).setCell ⟨b,7,none⟩ c7).setCell ⟨b,8,none⟩ c8) b t #[c0,c1,c2,c3,c4,c5,c6,c7,c8]:=by
 have h0:gV (w.setCell ⟨b,0,none⟩ c0) b t #[c0,a1,a2,a3,a4,a5,a6,a7,a8]:=h.set 0 c0;have h1:gV ((w.setCell ⟨b,0,none⟩ c0).setCell ⟨b,1,none⟩ c1) b t #[c0,c1,a2,a3,a4,a5,a6,a7,a8]:=h0.set 1 c1;have h2:gV (((w.setCell ⟨b,0,none⟩ c0).setCell ⟨b,1,none⟩ c1).setCell ⟨b,2,none⟩ c2) b t #[c0,c1,c2,a3,a4,a5,a6,a7,a8]:=h1.set 2 c2;have h3:gV ((((w.setCell ⟨b,0,none⟩ c0).setCell ⟨b,1,none⟩ c1).setCell ⟨b,2,none⟩ c2).setCell ⟨b,3,none⟩ c3) b t #[c0,c1,c2,c3,a4,a5,a6,a7,a8]:=h2.set 3 c3;have h4:gV (((((w.setCell ⟨b,0,none⟩ c0).setCell ⟨b,1,none⟩ c1).setCell ⟨b,2,none⟩ c2).setCell ⟨b,3,none⟩ c3).setCell ⟨b,4,none⟩ c4) b t #[c0,c1,c2,c3,c4,a5,a6,a7,a8]:=h3.set 4 c4
 have h5:gV ((((((w.setCell ⟨b,0,none⟩ c0).setCell ⟨b,1,none⟩ c1).setCell ⟨b,2,none⟩ c2).setCell ⟨b,3,none⟩ c3).setCell ⟨b,4,none⟩ c4).setCell ⟨b,5,none⟩ c5) b t #[c0,c1,c2,c3,c4,c5,a6,a7,a8]:=h4.set 5 c5;have h6:gV (((((((w.setCell ⟨b,0,none⟩ c0).setCell ⟨b,1,none⟩ c1).setCell ⟨b,2,none⟩ c2).setCell ⟨b,3,none⟩ c3).setCell ⟨b,4,none⟩ c4).setCell ⟨b,5,none⟩ c5).setCell ⟨b,6,none⟩ c6) b t #[c0,c1,c2,c3,c4,c5,c6,a7,a8]:=h5.set 6 c6;have h7:gV ((((((((w.setCell ⟨b,0,none⟩ c0).setCell ⟨b,1,none⟩ c1).setCell ⟨b,2,none⟩ c2).setCell ⟨b,3,none⟩ c3).setCell ⟨b,4,none⟩ c4).setCell ⟨b,5,none⟩ c5).setCell ⟨b,6,none⟩ c6).setCell ⟨b,7,none⟩ c7) b t #[c0,c1,c2,c3,c4,c5,c6,c7,a8]:=h6.set 7 c7
 have h8:gV (((((((((w.setCell ⟨b,0,none⟩ c0).setCell ⟨b,1,none⟩ c1).setCell ⟨b,2,none⟩ c2).setCell ⟨b,3,none⟩ c3).setCell ⟨b,4,none⟩ c4).setCell ⟨b,5,none⟩ c5).setCell ⟨b,6,none⟩ c6).setCell ⟨b,7,none⟩ c7).setCell ⟨b,8,none⟩ c8) b t #[c0,c1,c2,c3,c4,c5,c6,c7,c8]:=h7.set 8 c8;exact h8
theorem jG{w:World}{b:Nat}{o o':Ob}{ve vp FY Dy:Value}(h:gV w b 44 (je o' FY Dy)):gV (kJ w b o ve vp) b 44 (je o ve vp):=by
 unfold je at h;unfold kJ je;exact ahv _ _ _ _ _ _ _ _ _ h
theorem iR(w:World)(b:Nat)(o:Ob)(ve vp:Value):w.grownBy (kJ w b o ve vp) (some b) :=
 ((((((((gG w b 0 (.int .i64 o.kind)).trans (gG _ b 1 (.string (fu o.data)))).trans (gG _ b 2 ve)).trans (gG _ b 3 (.int .u64 (o.tree.1.toNat:Int)))).trans (gG _ b 4 (.int .u64 (o.tree.2.toNat:Int)))).trans (gG _ b 5 vp)).trans (gG _ b 6 (.string (fu o.gM)))).trans (gG _ b 7 (.int .i64 o.time))).trans (gG _ b 8 (.string (fu o.msg)))
theorem iW{B b:Nat}{w0 w w':World}(h:Below B w0 w)(hg:w.grownBy w' (some b))(hb:B≤b)(hs:B≤w.heap.size):Below B w0 w':=h.grown hg hs (fun q e=>by cases e;exact hb)
end Go.Proofs.YtichfhpgdhdiaaaGreat
