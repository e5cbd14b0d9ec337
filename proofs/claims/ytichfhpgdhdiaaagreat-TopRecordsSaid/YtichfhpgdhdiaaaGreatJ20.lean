/- The disk and the journal -/
import Derived.Test.YtichfhpgdhdiaaaGreatJ19
import Derived.Test.YtichfhpgdhdiaaaGreatJ18
import Derived.Test.YtichfhpgdhdiaaaGreatJ11
import Derived.Test.YtichfhpgdhdiaaaGreatJ5
import Derived.Test.YtichfhpgdhdiaaaGreatJ3
set_option maxRecDepth 100000
set_option maxHeartbeats 8000000
set_option linter.unusedVariables false
set_option linter.unusedSimpArgs false
open Go.Proofs.Tryz
namespace Go.Proofs.YtichfhpgdhdiaaaGreat
open Go.RowKit
theorem QI(W:World)(n:Nat)(h1:1≤n)(h2:n≤1000000):
  Calls prog 157 #[.slice none 0 0,.int .i64 n] W fun e w'=>∃v,e=.returned v∧w'.ownsRow W.heap.size 173 2 v 0 []∧Below W.heap.size W w':=by
 obtain⟨i1,hi1,hy0,hy1,hy2⟩:=info_parts Tryz.OO;have hr:∀ty,(Builtin.append_ #[54, 3] ty #[.slice none 0 0,.int .i64 (n:Int)]).run prog W =
   .ok (.slice (some ⟨W.heap.size,0,none⟩) n (grownCap W n 0 173)) (W.drew.alloc (.cells (Builtin.zeroCells (Value.agg #[.int .i64 0,.string ByteArray.empty]).cells n++Builtin.zeroCells (Value.agg #[.int .i64 0,.string ByteArray.empty]).cells (grownCap W n 0 173-n)) 173)):=fun ty=>by
  have h:=Lib.run_append_grow_zeros W 54 3 ty 173 i1 _ .i64 .i64 underlying54 underlying3 hi1 hy0 none 0 0 [] (run_firstCells_none W.drew i1.size 0 0 0) n fZ fZ fZ fZ (by rw[hy2];omega) (by rw[hy2];exact growslice_fits fZ fZ );simpa using h
 have hG:=grownCap_ge W n 0 173;have hG2:=grownCap_le_maxLen W n 0 173 (by unfold maxLen;omega);have hG3:grownCap W n 0 173≤9223372036854775807:=by unfold maxLen at hG2;omega
 generalize grownCap W n 0 173=G at *;have hsz:(Builtin.zeroCells (Value.agg #[.int .i64 0,.string ByteArray.empty]).cells n++Builtin.zeroCells (Value.agg #[.int .i64 0,.string ByteArray.empty]).cells (G-n)).size=G*2:=by
  rw[Array.size_append,size_zeroCells,size_zeroCells];have:(Value.agg #[.int .i64 0,.string ByteArray.empty]).cells.size=2:=rfl;rw[this];omega
 have hown:=World.ownsRow_made (base:=W.heap.size) (e:=173) (size:=2) W.drew _ G (ak _) hG2 hsz;have hbl:=(kG (ah W.heap.size W)).alloc (ak _) (.cells (Builtin.zeroCells (Value.agg #[.int .i64 0,.string ByteArray.empty]).cells n++Builtin.zeroCells (Value.agg #[.int .i64 0,.string ByteArray.empty]).cells (G-n)) 173);have HR:=af hr;clear hr hsz;generalize W.drew.alloc (.cells (Builtin.zeroCells (Value.agg #[.int .i64 0,.string ByteArray.empty]).cells n++Builtin.zeroCells (Value.agg #[.int .i64 0,.string ByteArray.empty]).cells (G-n)) 173)=w1 at *
 go_enter func157,ntmps157;go_wp2_with (at_builtin;go_must (refine Lib.wpList_append_run _ rfl (.tmp 20) (.tmp 21) _ _ rfl _ _ rfl rfl _ _ (HR.out _) ?_));go_ret;exact⟨_,rfl,hown,hbl⟩
theorem Lm(W:World)(b g1:Nat)(P:Option Addr)(cp:Nat)(p:List (Int×ByteArray))(i:Int)(s:ByteArray)(hn:p.length≤100000)(_hcp:p.length≤cp)(_hmp:cp≤9223372036854775807)(q0:W.cell? ⟨b,0,none⟩=some (.slice P p.length cp))(q1:W.cell? ⟨b,1,none⟩=some (.slice (some ⟨g1,0,none⟩) 1 1))(hp:iM W P (lN p))(hx:iM W (some ⟨g1,0,none⟩) [.int .i64 i,.string s]):
  Calls prog 133 #[.slice (some ⟨b,0,none⟩) 2 2] W fun e w'=>∃v,e=.returned v∧Ns w' W.heap.size v (p++[(i,s)])∧Below W.heap.size W w':=by
 obtain⟨i1,hi1,hy0,hy1,hy2⟩:=info_parts Tryz.OO;have cg:=QI W (p.length+1) fZ fZ ;rw[show ((p.length+1:Nat):Int)=(p.length:Int)+1 by omega]at cg;have CG:=af cg;clear cg;go_enter func133,ntmps133;go_wp2;go_loop [3,11] (fun s t=>(t=.int .i64 0∧s=.int .i64 0)∨(t=.int .i64 1∧s=.int .i64 p.length)∨(t=.int .i64 2∧s=.int .i64 ((p.length:Int)+1))) (fun _ t=>2-(intOf t).toNat)
 case atStart=>exact .inl ⟨rfl,rfl⟩
 case round =>
  rcases hrel with ⟨rfl,rfl⟩|⟨rfl,rfl⟩|⟨rfl,rfl⟩
  ·go_wp2;go_round
   case rel=>exact .inr (.inl ⟨rfl,rfl⟩)
   case measure=>simp[intOf]
  ·go_wp2;go_round
   case rel=>exact .inr (.inr ⟨rfl,rfl⟩)
   case measure=>simp[intOf]
  ·go_wp2_with fail;refine CG.out.mono ?_;clear CG;rintro e w1 ⟨v1,rfl,hown,hb1⟩;have hp1:=hp.keep (dO hb1);have hx1:=hx.keep (dO hb1);have r0:=(dO hb1) _ _ _ q0;have r1:=(dO hb1) _ _ _ q1;clear r0 r1 hp1 hx1;go_wp2;go_loopw [6,27] (fun v t wr=>∃k:Nat,k≤2∧t=.int .i64 k∧Ns wr W.heap.size v (WR p (i,s) k)∧Below W.heap.size W wr) (fun _ t _=>2-(intOf t).toNat)
   case atStart=>exact⟨0,by omega,rfl,hown,hb1⟩
   case round =>
    clear hown hb1;obtain⟨k,hk,rfl,hown,hd⟩:=hrel;have hB:=hd.size;have hp1:=hp.keep (dO hd);have hx1:=hx.keep (dO hd);have r0:=(dO hd) _ _ _ q0;have r1:=(dO hd) _ _ _ q1
    match k,hk with
    |0,_ =>
     have hown0:wr.ownsRow W.heap.size 173 2 u6 0 []:=hown;have hW1:=af (BN p);go_wp2_with (at_builtin;go_must (refine iE _ rfl (.tmp 31) (.tmp 32) _ rfl W.heap.size 173 i1 _ 2 24 underlying54 hi1 hy0 hy1 hy2 rfl fZ _ 0 [] rfl hown0 P p.length cp (lN p) rfl (vg p) hp1 hW1.out fZ fZ hB ?_));intro v2 w2 hown2 hgr hat;have hd2:=hd.grown hgr hB (fun g' h=>(hown0.lt g' h).1);have hown3:Ns w2 W.heap.size v2 (WR p (i,s) 1):=by simpa [Ns,WR] using hown2
     clear hown2 hgr hat hown hown0 hd;go_wp2;go_roundw
     case rel=>exact⟨1,by omega,rfl,hown3,hd2⟩
     case measure=>simp[intOf]
    |1,_ =>
     have hown0:wr.ownsRow W.heap.size 173 2 u6 p.length (lN p):=hown;go_wp2_with (at_builtin;go_must (refine iE _ rfl (.tmp 31) (.tmp 32) _ rfl W.heap.size 173 i1 _ 2 24 underlying54 hi1 hy0 hy1 hy2 rfl fZ _ p.length (lN p) rfl hown0 (some ⟨g1,0,none⟩) 1 1 [.int .i64 i,.string s] rfl rfl hx1 (by simp[Value.oneCell']) fZ fZ hB ?_));intro v2 w2 hown2 hgr hat;have hd2:=hd.grown hgr hB (fun g' h=>(hown0.lt g' h).1);have hown3:Ns w2 W.heap.size v2 (WR p (i,s) 2):=by
      show Ns w2 W.heap.size v2 (p++[(i,s)]);unfold Ns;rw[vv,aj];exact hown2
     clear hown2 hgr hat hown hown0 hd;go_wp2;go_roundw
     case rel=>exact⟨2,by omega,rfl,hown3,hd2⟩
     case measure=>simp[intOf]
    |2,_ =>
     go_wp2;go_ret;exact⟨_,rfl,hown,hd⟩
theorem QJ(W:World)(vs vp:Value)(d:Dk)(h:lK W vs vp d)(hn:d.pend.length≤100000)(i:Int)(hi0 : -9223372036854775808≤i)(hi1:i≤9223372036854775807)(s:ByteArray):
  Calls prog 89 #[.agg #[.int .i64 d.size,vs,vp,.int .i64 d.left],.int .i64 i,.string s] W (lV W (AL d i s) (zy d i s)):=by
 obtain⟨A,c,rfl,hc,hm⟩:=h.sec.form;obtain⟨P,cp,rfl,hcp,hmp⟩:=h.pen.form;have hbk0:=gV.new W #[.int .i64 d.size,.slice A d.secs.length c,.slice P d.pend.length cp,.int .i64 d.left] 56;have hbk:=hbk0.alloc (.cells #[.int .i64 0,.slice none 0 0,.slice none 0 0,.int .i64 0] 56);have hbr:=gV.new (W.alloc (.cells #[.int .i64 d.size,.slice A d.secs.length c,.slice P d.pend.length cp,.int .i64 d.left] 56)) #[.int .i64 0,.slice none 0 0,.slice none 0 0,.int .i64 0] 56;rw[aJ]at hbr;have hd1:=((ah W.heap.size W).alloc (ak _) (.cells #[.int .i64 d.size,.slice A d.secs.length c,.slice P d.pend.length cp,.int .i64 d.left] 56)).alloc gu (.cells #[.int .i64 0,.slice none 0 0,.slice none 0 0,.int .i64 0] 56)
 have hD1:=h.keep (dO hd1);clear hbk0;go_enter func89,ntmps89;go_upto_region 1 with (fail);generalize (W.alloc (.cells #[.int .i64 d.size,.slice A d.secs.length c,.slice P d.pend.length cp,.int .i64 d.left] 56)).alloc (.cells #[.int .i64 0,.slice none 0 0,.slice none 0 0,.int .i64 0] 56)=w1 at *;obtain⟨q0,q1,q2,q3⟩:=ku hbk gD;have c1:=wH _ _ _ d hD1;go_wp2_with fail;refine c1.mono ?_;clear c1 q0 q1 q2 q3;rintro e w2 ⟨rfl,hb2⟩;have hd2:=hd1.trans (hb2.mono hd1.size);have hbk2:=hbk.keep hb2
 have kQ:=hbr.keep hb2;have hD2:=hD1.keep (dO hb2);clear hbk hbr hd1 hD1 hb2;by_cases hk:sJ d=0
 ·have HK:=af hk;rw[hk];clear hk;obtain⟨q0,q1,q2,q3⟩:=ku hbk2 gD;have c2:=OM d.size d.left i A d.secs.length c (.slice P d.pend.length cp) hc hm w2;go_wp2_with fail;refine c2.mono ?_;clear c2 q0 q1 q2 q3;rintro e w3 ⟨rfl,hb3⟩;have hd3:=hd2.trans (hb3.mono hd2.size);have p9:=hbk2.keep hb3;have oQ:=kQ.keep hb3;have hD3:=hD2.keep (dO hb3);clear hbk2 kQ hd2 hD2 hb3;obtain⟨t0,t1,t2,t3,r0,r1,r2,r3⟩:=nD oQ gD;obtain⟨q0,q1,q2,q3,s0,s1,s2,s3⟩:=nD p9 gD;have uJ:=kr hd3 (show W.heap.size≤W.heap.size+1 by omega) (.int .i64 0) (.slice none 0 0) (.slice none 0 0) (.int .i64 0)
  have hx:=oQ.uR (.int .i64 0) (.slice none 0 0) (.slice none 0 0) (.int .i64 0);cases hout:hasB d.secs.length i
  ·have HE:=af (Zg (s:=s) HK.out (WS hout));clear hout;go_wp2;clear r0 r1 r2 r3 t0 t1 t2 t3 q0 q1 q2 q3 s0 s1 s2 s3;generalize ((((w3.setCell ⟨W.heap.size+1,0,none⟩ (.int .i64 0)).setCell ⟨W.heap.size+1,1,none⟩ (.slice none 0 0)).setCell ⟨W.heap.size+1,2,none⟩ (.slice none 0 0)).setCell ⟨W.heap.size+1,3,none⟩ (.int .i64 0))=wx at *;obtain⟨k0,k1,k2,k3⟩:=ku hx gD;exact bodyPost_ret (v:=.tuple #[.agg #[.int .i64 0,.slice none 0 0,.slice none 0 0,.int .i64 0],.int .i64 2]) (by simp[results,results89,go_sem,k0,k1,k2,k3]) rfl (lV.mk HE.out.1.symm HE.out.2.symm rfl rfl (kU _) uJ)
  ·have HO:=af (Zi hout);have hin:=Ay hout;clear hout;by_cases hsz:(s.size:Int)=d.size
   ·have HZ:=af hsz;have hzb:((s.size:Int) != d.size)=false:=by simp[hsz]
    clear hsz;by_cases hl:d.left=0
    ·have HE:=af (WN HK.out HO.out HZ.out hl);have hb:(d.left==0)=true:=by simp[hl]
     have hx:=oQ.uR (.int .i64 d.size) (.slice A d.secs.length c) (.slice P d.pend.length cp) (.int .i64 d.left);have uJ:=kr hd3 (show W.heap.size≤W.heap.size+1 by omega) (.int .i64 d.size) (.slice A d.secs.length c) (.slice P d.pend.length cp) (.int .i64 d.left);clear hl;go_wp2;clear r0 r1 r2 r3 t0 t1 t2 t3 q0 q1 q2 q3 s0 s1 s2 s3;generalize (((w3.setCell ⟨W.heap.size+1,0,none⟩ (.int .i64 d.size)).setCell ⟨W.heap.size+1,1,none⟩ (.slice A d.secs.length c)).setCell ⟨W.heap.size+1,2,none⟩ (.slice P d.pend.length cp)).setCell ⟨W.heap.size+1,3,none⟩ (.int .i64 d.left)=wx at *
     obtain⟨k0,k1,k2,k3⟩:=ku hx gD;exact bodyPost_ret (v:=.tuple #[.agg #[.int .i64 d.size,.slice A d.secs.length c,.slice P d.pend.length cp,.int .i64 d.left],.int .i64 20]) (by simp[results,results89,go_sem,k0,k1,k2,k3]) rfl (lV.mk HE.out.1.symm HE.out.2.symm rfl rfl (h.keep (dO uJ)) uJ)
    ·have HE:=af (abP HK.out HO.out HZ.out hl);have hb:(d.left==0)=false:=by simp[hl]
     have C3:=af (Kr d.left h.f0 h.f1);have hlz:=BM h.f0 h.f1;have afs:=p9.lt;have hlt1:=oQ.lt;obtain⟨hpc,hpr⟩:=Qq hD3.pen;have HPR:=af hpr;clear hl hx uJ hpr;have g1:=gV.new w3 #[.int .i64 i,.string s] 173;have g1':=g1.alloc (.cells #[.slice P d.pend.length cp,.slice (some ⟨w3.heap.size,0,none⟩) 1 1] 54);have g2:=gV.new (w3.alloc (.cells #[.int .i64 i,.string s] 173)) #[.slice P d.pend.length cp,.slice (some ⟨w3.heap.size,0,none⟩) 1 1] 54;rw[aJ]at g2;have hd4:=(hd3.alloc hd3.size (.cells #[.int .i64 i,.string s] 173)).alloc (by have:=hd3.size;simp;omega) (.cells #[.slice P d.pend.length cp,.slice (some ⟨w3.heap.size,0,none⟩) 1 1] 54)
     have Fy:=(p9.alloc (.cells #[.int .i64 i,.string s] 173)).alloc (.cells #[.slice P d.pend.length cp,.slice (some ⟨w3.heap.size,0,none⟩) 1 1] 54);have rz:=(oQ.alloc (.cells #[.int .i64 i,.string s] 173)).alloc (.cells #[.slice P d.pend.length cp,.slice (some ⟨w3.heap.size,0,none⟩) 1 1] 54);have aco:=(hpc.keep (Keeps.alloc w3 (.cells #[.int .i64 i,.string s] 173))).keep (Keeps.alloc _ (.cells #[.slice P d.pend.length cp,.slice (some ⟨w3.heap.size,0,none⟩) 1 1] 54));have hs4:((w3.alloc (.cells #[.int .i64 i,.string s] 173)).alloc (.cells #[.slice P d.pend.length cp,.slice (some ⟨w3.heap.size,0,none⟩) 1 1] 54)).heap.size=w3.heap.size+2:=by simp
     have cc:=Lm ((w3.alloc (.cells #[.int .i64 i,.string s] 173)).alloc (.cells #[.slice P d.pend.length cp,.slice (some ⟨w3.heap.size,0,none⟩) 1 1] 54)) (w3.heap.size+1) w3.heap.size P cp d.pend i s hn hcp hmp (g2.cl 0) (g2.cl 1) aco (by simpa using g1'.IZ);rw[hs4]at cc;have CC:=af cc;clear cc hs4 hpc aco g1 g1' g2;go_wp2_with fail;refine CC.out.mono ?_;clear CC q0 q1 q2 q3 s0 s1 s2 s3 r0 r1 r2 r3 t0 t1 t2 t3;generalize (w3.alloc (.cells #[.int .i64 i,.string s] 173)).alloc (.cells #[.slice P d.pend.length cp,.slice (some ⟨w3.heap.size,0,none⟩) 1 1] 54)=w4 at *
     rintro e w5 ⟨v5,rfl,Pj,hb5⟩;have hd5:=hd4.trans (hb5.mono (by have:=hd3.size;omega));have WW:=Fy.below hb5 fZ ;have Fz:=rz.below hb5 fZ ;clear hd4 Fy rz hb5;obtain⟨t0,t1,t2,t3,r0,r1,r2,r3⟩:=nD Fz gD;obtain⟨q0,q1,q2,q3,s0,s1,s2,s3⟩:=nD WW gD;have hls : -9223372036854775808≤d.left∧d.left≤9223372036854775807:=⟨h.f0,h.f1⟩;obtain⟨A4,c4,rfl⟩:=iw Pj;rw[show (d.pend++[(i,s)]).length=d.pend.length+1 by simp]at Pj ⊢;go_wp2_with (go_at_call 91;refine(C3.out _).mono ?_;rintro e w' ⟨rfl,rfl⟩);have hx:=((Fz.far (p:=⟨W.heap.size,2,none⟩) gu (.slice A4 (d.pend.length+1) c4)).far (p:=⟨W.heap.size,3,none⟩) gu (.int .i64 (jV d.left))).uR (.int .i64 d.size) (.slice A d.secs.length c) (.slice A4 (d.pend.length+1) c4) (.int .i64 (jV d.left))
     have uJ:=kr ((hd5.setCell (p:=⟨W.heap.size,2,none⟩) (ak _) (.slice A4 (d.pend.length+1) c4)).setCell (p:=⟨W.heap.size,3,none⟩) (ak _) (.int .i64 (jV d.left))) (show W.heap.size≤W.heap.size+1 by omega) (.int .i64 d.size) (.slice A d.secs.length c) (.slice A4 (d.pend.length+1) c4) (.int .i64 (jV d.left));have Qv:=(((((Ns.far Pj (p:=⟨W.heap.size,2,none⟩) (show W.heap.size<w3.heap.size+2 by omega) (.slice A4 (d.pend.length+1) c4)).far (p:=⟨W.heap.size,3,none⟩) (show W.heap.size<w3.heap.size+2 by omega) (.int .i64 (jV d.left))).far (p:=⟨W.heap.size+1,0,none⟩) (show W.heap.size+1<w3.heap.size+2 by omega) (.int .i64 d.size)).far (p:=⟨W.heap.size+1,1,none⟩) (show W.heap.size+1<w3.heap.size+2 by omega) (.slice A d.secs.length c)).far (p:=⟨W.heap.size+1,2,none⟩) (show W.heap.size+1<w3.heap.size+2 by omega) (.slice A4 (d.pend.length+1) c4)).far (p:=⟨W.heap.size+1,3,none⟩) (show W.heap.size+1<w3.heap.size+2 by omega) (.int .i64 (jV d.left))
     clear Pj WW Fz hd5 r0 r1 r2 r3 t0 t1 t2 t3 q0 q1 q2 q3 s0 s1 s2 s3;generalize ((((((w5.setCell ⟨W.heap.size,2,none⟩ (.slice A4 (d.pend.length+1) c4)).setCell ⟨W.heap.size,3,none⟩ (.int .i64 (jV d.left))).setCell ⟨W.heap.size+1,0,none⟩ (.int .i64 d.size)).setCell ⟨W.heap.size+1,1,none⟩ (.slice A d.secs.length c)).setCell ⟨W.heap.size+1,2,none⟩ (.slice A4 (d.pend.length+1) c4)).setCell ⟨W.heap.size+1,3,none⟩ (.int .i64 (jV d.left)))=wx at *;obtain⟨k0,k1,k2,k3⟩:=ku hx gD;refine bodyPost_ret (v:=.tuple #[.agg #[.int .i64 d.size,.slice A d.secs.length c,.slice A4 (d.pend.length+1) c4,.int .i64 (jV d.left)],.int .i64 0]) (by simp[results,results89,go_sem,k0,k1,k2,k3]) rfl (lV.mk HE.out.1.symm HE.out.2.symm rfl rfl ⟨h.sec.keep (dO uJ),?_,h.z0,h.z1,hlz.1,hlz.2⟩ uJ)
     refine SV (v:=.slice A4 (d.pend.length+1) c4) Qv fun x hx=>?_
     rcases bq.1 hx with hx|hx
     ·exact HPR.out x hx
     ·cases dw.1 hx;exact⟨hi0,hi1⟩
   ·have HE:=af (Zh HK.out HO.out hsz);have hzb:((s.size:Int) != d.size)=true:=by simp[hsz]
    clear hsz;go_wp2;clear r0 r1 r2 r3 t0 t1 t2 t3 q0 q1 q2 q3 s0 s1 s2 s3;generalize ((((w3.setCell ⟨W.heap.size+1,0,none⟩ (.int .i64 0)).setCell ⟨W.heap.size+1,1,none⟩ (.slice none 0 0)).setCell ⟨W.heap.size+1,2,none⟩ (.slice none 0 0)).setCell ⟨W.heap.size+1,3,none⟩ (.int .i64 0))=wx at *;obtain⟨k0,k1,k2,k3⟩:=ku hx gD;exact bodyPost_ret (v:=.tuple #[.agg #[.int .i64 0,.slice none 0 0,.slice none 0 0,.int .i64 0],.int .i64 11]) (by simp[results,results89,go_sem,k0,k1,k2,k3]) rfl (lV.mk HE.out.1.symm HE.out.2.symm rfl rfl (kU _) uJ)
 ·have HE:=af (Zf (i:=i) (s:=s) hk);have hb:(sJ d != 0)=true:=by simp[hk]
  clear hk;have uJ:=kr hd2 (show W.heap.size≤W.heap.size+1 by omega) (.int .i64 0) (.slice none 0 0) (.slice none 0 0) (.int .i64 0);have hx:=kQ.uR (.int .i64 0) (.slice none 0 0) (.slice none 0 0) (.int .i64 0);obtain⟨t0,t1,t2,t3,r0,r1,r2,r3⟩:=nD kQ gD;generalize sJ d=full at *;go_wp2;clear r0 r1 r2 r3 t0 t1 t2 t3;generalize ((((w2.setCell ⟨W.heap.size+1,0,none⟩ (.int .i64 0)).setCell ⟨W.heap.size+1,1,none⟩ (.slice none 0 0)).setCell ⟨W.heap.size+1,2,none⟩ (.slice none 0 0)).setCell ⟨W.heap.size+1,3,none⟩ (.int .i64 0))=wx at *;obtain⟨k0,k1,k2,k3⟩:=ku hx gD
  exact bodyPost_ret (v:=.tuple #[.agg #[.int .i64 0,.slice none 0 0,.slice none 0 0,.int .i64 0],.int .i64 1]) (by simp[results,results89,go_sem,k0,k1,k2,k3]) rfl (lV.mk HE.out.1.symm HE.out.2.symm rfl rfl (kU _) uJ)
theorem Lr(W:World)(vs vp:Value)(d:Dk)(h:lK W vs vp d)(hn:d.pend.length≤100000)(i:Nat)(s:ByteArray)(hi:i≤100000)(b1 b2:Nat)(h1:gV W b1 3 #[.int .i64 (i:Int)])(h2:gV W b2 9 #[.string s]):
  Calls prog 88 #[.agg #[.int .i64 d.size,vs,vp,.int .i64 d.left],.pointer (some ⟨b1,0,none⟩),.pointer (some ⟨b2,0,none⟩)] W (lV W (AL d i s) (zy d i s)):=by
 obtain⟨A,c,P,cp,rfl,rfl,hc,hcp,hm,hmp⟩:=h.form;have hbk:=(gV.new W #[.int .i64 d.size,.slice A d.secs.length c,.slice P d.pend.length cp,.int .i64 d.left] 56).alloc (.cells #[.int .i64 0,.slice none 0 0,.slice none 0 0,.int .i64 0] 56);have hbr:=gV.new (W.alloc (.cells #[.int .i64 d.size,.slice A d.secs.length c,.slice P d.pend.length cp,.int .i64 d.left] 56)) #[.int .i64 0,.slice none 0 0,.slice none 0 0,.int .i64 0] 56;rw[aJ]at hbr;have K1:=((ah W.heap.size W).alloc (ak _) (.cells #[.int .i64 d.size,.slice A d.secs.length c,.slice P d.pend.length cp,.int .i64 d.left] 56)).alloc gu (.cells #[.int .i64 0,.slice none 0 0,.slice none 0 0,.int .i64 0] 56)
 have HD1:=h.keep (dO K1);have g1:((W.alloc (.cells #[.int .i64 d.size,.slice A d.secs.length c,.slice P d.pend.length cp,.int .i64 d.left] 56)).alloc (.cells #[.int .i64 0,.slice none 0 0,.slice none 0 0,.int .i64 0] 56)).cell? ⟨b1,0,none⟩=some (.int .i64 (i:Int)):=(h1.keep K1).cl 0;have g2:((W.alloc (.cells #[.int .i64 d.size,.slice A d.secs.length c,.slice P d.pend.length cp,.int .i64 d.left] 56)).alloc (.cells #[.int .i64 0,.slice none 0 0,.slice none 0 0,.int .i64 0] 56)).cell? ⟨b2,0,none⟩=some (.string s):=(h2.keep K1).cl 0
 go_enter func88,ntmps88;go_upto_region 1 with (fail);generalize (W.alloc (.cells #[.int .i64 d.size,.slice A d.secs.length c,.slice P d.pend.length cp,.int .i64 d.left] 56)).alloc (.cells #[.int .i64 0,.slice none 0 0,.slice none 0 0,.int .i64 0] 56)=w1 at *;have CW:=af (QJ w1 _ _ d HD1 hn i fZ fZ s);obtain⟨q0,q1,q2,q3⟩:=ku hbk gD;have hlt:=hbr.lt;go_wp2_with fail;refine CW.out.mono ?_;rintro e w2 ⟨vs2,JS,rfl,hd2,hb2⟩;clear CW;generalize AL d (i:Int) s=D at *;generalize zy d (i:Int) s=N at *
 obtain⟨A2,c2,P2,cp2,rfl,rfl,_,_,_,_⟩:=hd2.form;have kQ:=hbr.keep hb2;have HV:=pI kQ hd2;have K2:=jU (A:=A2) (c:=c2) (P:=P2) (cp:=cp2) (d:=D) (K1.trans (hb2.mono K1.size)) (show W.heap.size≤W.heap.size+1 by omega);obtain⟨t0,t1,t2,t3,r0,r1,r2,r3⟩:=nD kQ gD;clear q0 q1 q2 q3 hbk hbr hb2 K1;go_wp2;change bodyPost _ _ _ _ _ (mE w2 (W.heap.size+1) A2 c2 P2 cp2 D);obtain⟨k0,k1,k2,k3⟩:=ku HV.blk gD;clear t0 t1 t2 t3 r0 r1 r2 r3;generalize mE w2 (W.heap.size+1) A2 c2 P2 cp2 D=wx at *;exact bodyPost_ret (v:=.tuple #[.agg #[.int .i64 D.size,.slice A2 D.secs.length c2,.slice P2 D.pend.length cp2,.int .i64 D.left],.int .i64 N]) (by simp[results,results88,go_sem,k0,k1,k2,k3]) rfl ⟨_,_,rfl,HV.dk,K2⟩
theorem Pk(W:World)(vs vp:Value)(d:Dk)(h:lK W vs vp d)(v:Value)(ops:List (Option ny))(hv:Xi W v ops)(hn:d.pend.length+ops.length≤100000):
  Calls prog 41 #[.agg #[.int .i64 d.size,vs,vp,.int .i64 d.left],v] W (lV W (lg d ops).1 (lg d ops).2):=by
 obtain⟨A,c,P,cp,rfl,rfl,hc,hcp,hm,hmp⟩:=h.form;obtain⟨vals,hsl,hlen,hget⟩:=hv;obtain⟨OA,oc,rfl,ho1,ho2⟩:=hsl.form;rw[hlen]at hsl ho1 ⊢;have hbk:=(gV.new W #[.int .i64 d.size,.slice A d.secs.length c,.slice P d.pend.length cp,.int .i64 d.left] 56).alloc (.cells #[.int .i64 0,.slice none 0 0,.slice none 0 0,.int .i64 0] 56);have hbr:=gV.new (W.alloc (.cells #[.int .i64 d.size,.slice A d.secs.length c,.slice P d.pend.length cp,.int .i64 d.left] 56)) #[.int .i64 0,.slice none 0 0,.slice none 0 0,.int .i64 0] 56
 rw[aJ]at hbr;have K1:=((ah W.heap.size W).alloc (ak _) (.cells #[.int .i64 d.size,.slice A d.secs.length c,.slice P d.pend.length cp,.int .i64 d.left] 56)).alloc gu (.cells #[.int .i64 0,.slice none 0 0,.slice none 0 0,.int .i64 0] 56);have HV0:Var _ W.heap.size A c P cp d:=⟨hbk,h.keep (dO K1)⟩;have HF:=af hget;clear hget hbk;go_enter func41,ntmps41;go_upto_region 1 with (fail);generalize (W.alloc (.cells #[.int .i64 d.size,.slice A d.secs.length c,.slice P d.pend.length cp,.int .i64 d.left] 56)).alloc (.cells #[.int .i64 0,.slice none 0 0,.slice none 0 0,.int .i64 0] 56)=w1 at *
 go_wp2;go_loopw [11] (fun t wr=>∃(k:Nat) (D:Dk) (A1:Option Addr) (c1:Nat) (P1:Option Addr) (Yv:Nat),k≤ops.length∧t=.int .i64 k∧Var wr W.heap.size A1 c1 P1 Yv D∧gV wr (W.heap.size+1) 56 #[.int .i64 0,.slice none 0 0,.slice none 0 0,.int .i64 0] ∧
  Hid (lg d ops=lg D (ops.drop k))∧D.pend.length+(ops.length-k)≤100000∧Below W.heap.size W wr) (fun t _=>ops.length-(intOf t).toNat)
 case atStart=>exact⟨0,d,A,c,P,cp,by omega,rfl,HV0,hbr,by show _=_;rw[dY],by omega,K1⟩
 case round =>
  clear HV0 hbr K1;obtain⟨k,D,A1,c1,P1,Yv,hk,rfl,HV,hbr,HS,Y7,hbel⟩:=hrel;obtain⟨q0,q1,q2,q3⟩:=ku HV.blk gD;by_cases hlt:k<ops.length
  ·have hsl2:=Sl.keep hsl (dO hbel) (fun _ _ h=>h);obtain⟨vk,ZG⟩:∃x,vals[k]?=some x:=⟨_,au fZ ⟩;obtain⟨o,hok⟩:∃x,ops[k]?=some x:=⟨_,au hlt⟩;obtain⟨b,off,us,e0,e1,_,hcell⟩:=Sl.get hsl2 ZG fZ ;subst e0;have hcl:wr.cell? ⟨b,off+k,none⟩=some vk:=by
    have:=hcell 0 vk (by rw[e1];rfl);rwa [Nat.mul_one,Nat.add_zero]at this
   have hop:=(HF.out k vk o ZG hok).keep hbel;have hdr:=QG (d:=D) hok;have hpe:=NS D o;have HOP:=af hop;clear hcell hsl2 e1 ZG hok;cases o with
   |none =>
    have hvk:vk=.func (.func 44) #[] #[]:=hop;subst hvk;have CT:Hid (Calls prog 44 #[.agg #[.int .i64 D.size,.slice A1 D.secs.length c1,.slice P1 D.pend.length Yv,.int .i64 D.left]] wr (lV wr (o7 D none).1 (o7 D none).2)):=Td wr _ _ D HV.dk;clear hop;generalize ho:(none:Option ny)=o at *;go_wp2_with fail;refine CT.out.mono ?_;rintro e w2 ⟨vs2,JS,rfl,hd2,hb2⟩;clear CT;have hbk2:=HV.blk.keep hb2;have kQ:=hbr.keep hb2;generalize (o7 D o).1=D2 at *;generalize (o7 D o).2=N2 at *;obtain⟨A2,c2,P2,cp2,rfl,rfl,_,_,_,_⟩:=hd2.form
    have zN:=pI hbk2 hd2;have K2:=jU (A:=A2) (c:=c2) (P:=P2) (cp:=cp2) (d:=D2) (hbel.trans (hb2.mono hbel.size)) (ak W.heap.size);have oQ:gV (mE w2 W.heap.size A2 c2 P2 cp2 D2) (W.heap.size+1) 56 #[.int .i64 0,.slice none 0 0,.slice none 0 0,.int .i64 0] :=
     (((kQ.far (p:=⟨W.heap.size,0,none⟩) gu _).far (p:=⟨W.heap.size,1,none⟩) gu _).far (p:=⟨W.heap.size,2,none⟩) gu _).far (p:=⟨W.heap.size,3,none⟩) gu _
    obtain⟨t0,t1,t2,t3,r0,r1,r2,r3⟩:=nD hbk2 gD;have HDR:=af hdr;have TW:=af hpe;clear q0 q1 q2 q3 hbk2 kQ hb2 hbel HV hbr hd2 hdr hpe HOP;go_upto_region 6 with (fail);change Code.wp _ _ _ _ (mE w2 W.heap.size A2 c2 P2 cp2 D2);clear t0 t1 t2 t3 r0 r1 r2 r3;generalize mE w2 W.heap.size A2 c2 P2 cp2 D2=w3 at *;by_cases hN:N2=0
    ·subst hN;have HS2:Hid (lg d ops=lg D2 (ops.drop (k+1))):=by show _=_;rw[HS.out,HDR.out,if_neg gu ]
     clear HS HDR;go_wp2;go_roundw
     case rel=>exact⟨k+1,D2,A2,c2,P2,cp2,by omega,by go_num,zN,oQ,HS2,by have:=TW.out;omega,K2⟩
     case measure=>simp[intOf];omega
    ·have hne:(N2 != 0)=true:=by simpa using hN
     have HE:Hid (lg d ops=(D2,N2)):=by show _=_;rw[HS.out,HDR.out,if_pos hN]
     have wV:=pI oQ zN.dk;have K3:=jU (A:=A2) (c:=c2) (P:=P2) (cp:=cp2) (d:=D2) K2 (show W.heap.size≤W.heap.size+1 by omega);obtain⟨t0,t1,t2,t3,r0,r1,r2,r3⟩:=nD oQ gD;obtain⟨q0,q1,q2,q3⟩:=ku zN.blk gD;clear HS HDR;go_wp2;change bodyPost _ _ _ _ _ (mE w3 (W.heap.size+1) A2 c2 P2 cp2 D2);obtain⟨k0,k1,k2,k3⟩:=ku wV.blk gD;clear t0 t1 t2 t3 r0 r1 r2 r3 q0 q1 q2 q3;generalize mE w3 (W.heap.size+1) A2 c2 P2 cp2 D2=wx at *;exact bodyPost_ret (v:=.tuple #[.agg #[.int .i64 D2.size,.slice A2 D2.secs.length c2,.slice P2 D2.pend.length cp2,.int .i64 D2.left],.int .i64 N2]) (by simp[results,results41,go_sem,k0,k1,k2,k3]) rfl (by rw[HE.out];exact⟨_,_,rfl,wV.dk,K3⟩)
   |some x =>
    obtain⟨b1,b2,rfl,hx1,hx2,hx3⟩:=hop;have CT:Hid (Calls prog 88 #[.agg #[.int .i64 D.size,.slice A1 D.secs.length c1,.slice P1 D.pend.length Yv,.int .i64 D.left],.pointer (some ⟨b1,0,none⟩),.pointer (some ⟨b2,0,none⟩)] wr (lV wr (o7 D (some x)).1 (o7 D (some x)).2)) :=
     Lr wr _ _ D HV.dk fZ x.1 x.2 hx3 b1 b2 hx1 hx2
    clear hx1 hx2;generalize ho:(some x:Option ny)=o at *;go_wp2_with fail;refine CT.out.mono ?_;rintro e w2 ⟨vs2,JS,rfl,hd2,hb2⟩;clear CT;have hbk2:=HV.blk.keep hb2;have kQ:=hbr.keep hb2;generalize (o7 D o).1=D2 at *;generalize (o7 D o).2=N2 at *;obtain⟨A2,c2,P2,cp2,rfl,rfl,_,_,_,_⟩:=hd2.form;have zN:=pI hbk2 hd2;have K2:=jU (A:=A2) (c:=c2) (P:=P2) (cp:=cp2) (d:=D2) (hbel.trans (hb2.mono hbel.size)) (ak W.heap.size);have oQ:gV (mE w2 W.heap.size A2 c2 P2 cp2 D2) (W.heap.size+1) 56 #[.int .i64 0,.slice none 0 0,.slice none 0 0,.int .i64 0] :=
     (((kQ.far (p:=⟨W.heap.size,0,none⟩) gu _).far (p:=⟨W.heap.size,1,none⟩) gu _).far (p:=⟨W.heap.size,2,none⟩) gu _).far (p:=⟨W.heap.size,3,none⟩) gu _
    obtain⟨t0,t1,t2,t3,r0,r1,r2,r3⟩:=nD hbk2 gD;have HDR:=af hdr;have TW:=af hpe;clear q0 q1 q2 q3 hbk2 kQ hb2 hbel HV hbr hd2 hdr hpe HOP;go_upto_region 6 with (fail);change Code.wp _ _ _ _ (mE w2 W.heap.size A2 c2 P2 cp2 D2);clear t0 t1 t2 t3 r0 r1 r2 r3;generalize mE w2 W.heap.size A2 c2 P2 cp2 D2=w3 at *;by_cases hN:N2=0
    ·subst hN;have HS2:Hid (lg d ops=lg D2 (ops.drop (k+1))):=by show _=_;rw[HS.out,HDR.out,if_neg gu ]
     clear HS HDR;go_wp2;go_roundw
     case rel=>exact⟨k+1,D2,A2,c2,P2,cp2,by omega,by go_num,zN,oQ,HS2,by have:=TW.out;omega,K2⟩
     case measure=>simp[intOf];omega
    ·have hne:(N2 != 0)=true:=by simpa using hN
     have HE:Hid (lg d ops=(D2,N2)):=by show _=_;rw[HS.out,HDR.out,if_pos hN]
     have wV:=pI oQ zN.dk;have K3:=jU (A:=A2) (c:=c2) (P:=P2) (cp:=cp2) (d:=D2) K2 (show W.heap.size≤W.heap.size+1 by omega);obtain⟨t0,t1,t2,t3,r0,r1,r2,r3⟩:=nD oQ gD;obtain⟨q0,q1,q2,q3⟩:=ku zN.blk gD;clear HS HDR;go_wp2;change bodyPost _ _ _ _ _ (mE w3 (W.heap.size+1) A2 c2 P2 cp2 D2);obtain⟨k0,k1,k2,k3⟩:=ku wV.blk gD;clear t0 t1 t2 t3 r0 r1 r2 r3 q0 q1 q2 q3;generalize mE w3 (W.heap.size+1) A2 c2 P2 cp2 D2=wx at *;exact bodyPost_ret (v:=.tuple #[.agg #[.int .i64 D2.size,.slice A2 D2.secs.length c2,.slice P2 D2.pend.length cp2,.int .i64 D2.left],.int .i64 N2]) (by simp[results,results41,go_sem,k0,k1,k2,k3]) rfl (by rw[HE.out];exact⟨_,_,rfl,wV.dk,K3⟩)
  ·have hkn:k=ops.length:=by omega
   have HE:Hid (lg d ops=(D,0)):=by show _=_;rw[HS.out,hkn,List.drop_length];rfl
   have wV:=pI hbr HV.dk;have K3:=jU (A:=A1) (c:=c1) (P:=P1) (cp:=Yv) (d:=D) hbel (show W.heap.size≤W.heap.size+1 by omega);obtain⟨t0,t1,t2,t3,r0,r1,r2,r3⟩:=nD hbr gD;have hlt1:=hbr.lt;clear HS hkn;go_wp2;change bodyPost _ _ _ _ _ (mE wr (W.heap.size+1) A1 c1 P1 Yv D);obtain⟨k0,k1,k2,k3⟩:=ku wV.blk gD;clear t0 t1 t2 t3 r0 r1 r2 r3 q0 q1 q2 q3;generalize mE wr (W.heap.size+1) A1 c1 P1 Yv D=wx at *;exact bodyPost_ret (v:=.tuple #[.agg #[.int .i64 D.size,.slice A1 D.secs.length c1,.slice P1 D.pend.length Yv,.int .i64 D.left],.int .i64 0]) (by simp[results,results41,go_sem,k0,k1,k2,k3]) rfl (by rw[HE.out];exact⟨_,_,rfl,wV.dk,K3⟩)
theorem NU(W:World)(vs vp:Value)(d:Dk)(h:lK W vs vp d)(hn:d.pend.length≤10000):
  Calls prog 18 #[.agg #[.int .i64 d.size,vs,vp,.int .i64 d.left]] W (lV W (NC d).1 (NC d).2):=by
 obtain⟨A,c,P,cp,rfl,rfl,hc,hcp,hm,hmp⟩:=h.form;have hbk:=(gV.new W #[.int .i64 d.size,.slice A d.secs.length c,.slice P d.pend.length cp,.int .i64 d.left] 56).alloc (.cells #[.int .i64 0,.slice none 0 0,.slice none 0 0,.int .i64 0] 56);have hbr:=gV.new (W.alloc (.cells #[.int .i64 d.size,.slice A d.secs.length c,.slice P d.pend.length cp,.int .i64 d.left] 56)) #[.int .i64 0,.slice none 0 0,.slice none 0 0,.int .i64 0] 56;rw[aJ]at hbr;have K1:=((ah W.heap.size W).alloc (ak _) (.cells #[.int .i64 d.size,.slice A d.secs.length c,.slice P d.pend.length cp,.int .i64 d.left] 56)).alloc gu (.cells #[.int .i64 0,.slice none 0 0,.slice none 0 0,.int .i64 0] 56)
 have Pm:Var _ W.heap.size A c P cp d:=⟨hbk,h.keep (dO K1)⟩;have HFm:Hid (NC d=if mF d≠0 then(iL,mF d)else lg d (sS [(gN d.secs.length 1,jN d.size.toNat),(gN d.secs.length 2,jN d.size.toNat)] (0,lW d.size.toNat 1))):=rfl;clear hbk;go_enter func18,ntmps18;go_upto_region 1 with (fail);generalize (W.alloc (.cells #[.int .i64 d.size,.slice A d.secs.length c,.slice P d.pend.length cp,.int .i64 d.left] 56)).alloc (.cells #[.int .i64 0,.slice none 0 0,.slice none 0 0,.int .i64 0] 56)=w1 at *
 have CH:=af (yB w1 _ _ d Pm.dk);obtain⟨q0,q1,q2,q3⟩:=ku Pm.blk gD;by_cases hk:mF d=0
 ·obtain⟨hval,Jy⟩:=wP hk;have CH0:Hid (Calls prog 39 #[.agg #[.int .i64 d.size,.slice A d.secs.length c,.slice P d.pend.length cp,.int .i64 d.left]] w1 (zw w1 0)):=by
   have:=CH.out;rwa [hk]at this
  have HE:=af (HFm.out.trans (if_neg (by simp[hk])));have v1:=hval.s1;have v2:=hval.s2;have v4:=hval.n2;clear CH hk HFm;go_wp2_with fail;refine CH0.out.mono ?_;rintro e w2 ⟨rfl,hb2⟩;have zN:=Pm.keep hb2;have kQ:=hbr.keep hb2;have K2:=K1.trans (hb2.mono K1.size);have CP:=uy [] d.size.toNat gu fZ w2;rw[show ((d.size.toNat:Nat):Int)=d.size by omega]at CP;have HZ:Hid (fu (wW d.size.toNat [])=jN d.size.toNat):=rfl;have V9:=af CP;clear CH0 q0 q1 q2 q3 Pm hbr hb2 K1 CP;obtain⟨q0,q1,q2,q3⟩:=ku zN.blk gD;rw[HZ.out]at V9;go_wp2_with fail;refine V9.out.mono ?_;rintro e w3 ⟨rfl,hb3⟩
  have wV:=af (zN.keep hb3);have HR3:=af (kQ.keep hb3);have K3:=af (K2.trans (hb3.mono K2.size));clear V9 q0 q1 q2 q3 zN kQ hb3 K2;go_upto_region 5 with (fail);obtain⟨h1,h2⟩:=wL Jy;have hF1:gN d.secs.length 1≤1001:=by unfold gN gZ;omega
  have hF2:gN d.secs.length 2≤1001:=by unfold gN gZ;omega
  have HDR:Hid (Below w3.heap.size w3 w3.drew):=kG gD;have CF1:=af (fun w' (hb:Below w3.drew.heap.size w3.drew w')=>wN w' _ _ d (((wV.out.keep HDR.out).keep hb).dk) v4 1 ⟨by omega,by omega⟩);have CF2:=af (fun w' (hb:Below w3.drew.heap.size w3.drew w')=>wN w' _ _ d (((wV.out.keep HDR.out).keep hb).dk) v4 2 ⟨by omega,by omega⟩);have CM0:=fun w'=>uy [1] d.size.toNat (by simp;omega) fZ w'
  have e1:fu (wW d.size.toNat [1])=lW d.size.toNat 1:=rfl;rw[show ((d.size.toNat:Nat):Int)=d.size by omega,e1]at CM0;have CM:=af CM0;clear CM0 e1;obtain⟨Xk,hO⟩:∃o,o=sS [(gN d.secs.length 1,jN d.size.toNat),(gN d.secs.length 2,jN d.size.toNat)] (0,lW d.size.toNat 1):=⟨_,rfl⟩;have TY:=af hO;rw[←hO]at HE;clear hO;generalize gN d.secs.length 1=F1 at *;generalize gN d.secs.length 2=F2 at *;generalize jN d.size.toNat=Z at *;generalize lW d.size.toNat 1=MK at *;refine iN gB 15 (fun i v w=>match i with
   |0=>v=.agg #[.int .i64 d.size,.slice A d.secs.length c,.slice P d.pend.length cp,.int .i64 d.left]
   |1=>v=.agg #[.int .i64 d.size,.slice A d.secs.length c,.slice P d.pend.length cp,.int .i64 d.left]
   |2=>v=.int .i64 (F1:Int)
   |3=>v=.string Z
   |4=>Ll w v (some (F1,Z))
   |5=>v=.agg #[.int .i64 d.size,.slice A d.secs.length c,.slice P d.pend.length cp,.int .i64 d.left]
   |6=>v=.int .i64 (F2:Int)
   |7=>v=.string Z
   |8=>Ll w v (some (F2,Z))
   |9=>v=.pointer (some ⟨W.heap.size,0,none⟩)
   |10=>v=.int .i64 d.size
   |11=>v=.string MK
   |12=>Ll w v (some (0,MK))
   |13=>Xi w v Xk
   |_=>∃vs2 JS,v=.tuple #[.agg #[.int .i64 (lg d Xk).1.size,vs2,JS,.int .i64 (lg d Xk).1.left],.int .i64 (lg d Xk).2]∧lK w vs2 JS (lg d Xk).1) 0 gB (fun i v w w' h hb=>?_) ?_ ?_
  ·match i,h with
   |0,h=>exact h
   |1,h=>exact h
   |2,h=>exact h
   |3,h=>exact h
   |4,h=>exact Ll.keep h hb
   |5,h=>exact h
   |6,h=>exact h
   |7,h=>exact h
   |8,h=>exact Ll.keep h hb
   |9,h=>exact h
   |10,h=>exact h
   |11,h=>exact h
   |12,h=>exact Ll.keep h hb
   |13,h=>exact Xi.keep h hb
   |14,h=>exact(let ⟨vs2,JS,e,hp⟩:=h;⟨vs2,JS,e,hp.keep (dO hb)⟩)
   |_+15,h=>exact(let ⟨vs2,JS,e,hp⟩:=h;⟨vs2,JS,e,hp.keep (dO hb)⟩)
  ·rintro i o hi ho a w1 hdf hlen hold hbel gK K hK;clear hdf;have hV:=(wV.out.keep HDR.out).keep hbel;obtain⟨q0,q1,q2,q3⟩:=ku hV.blk gD;have s1:=kZ hold 1 (.pointer (some ⟨W.heap.size,0,none⟩));have s5:=kZ hold 5 (.string Z);have hi':i=0∨i=1∨i=2∨i=3∨i=4∨i=5∨i=6∨i=7∨i=8∨i=9∨i=10∨i=11∨i=12∨i=13∨i=14:=by omega
   rcases hi' with rfl|rfl|rfl|rfl|rfl|rfl|rfl|rfl|rfl|rfl|rfl|rfl|rfl|rfl|rfl<;>obtain rfl:=aB ho
   ·exact iJ s1
   ·exact iJ s1
   ·refine qM (iq gK 1 16) ?_;refine(CF1.out w1 hbel).mono ?_;rintro e' w4 ⟨rfl,hb4⟩;exact hK _ w4 (rfl) hb4
   ·exact iJ s5
   ·refine sM (iq gK 2 17) (iq gK 3 18) ?_;refine(pG F1 Z fZ w1).mono ?_;rintro e' w4 ⟨v4,rfl,hv4,hb4⟩;exact hK _ w4 (hv4) hb4
   ·exact iJ s1
   ·refine qM (iq gK 5 20) ?_;refine(CF2.out w1 hbel).mono ?_;rintro e' w4 ⟨rfl,hb4⟩;exact hK _ w4 (rfl) hb4
   ·exact iJ s5
   ·refine sM (iq gK 6 21) (iq gK 7 22) ?_;refine(pG F2 Z fZ w1).mono ?_;rintro e' w4 ⟨v4,rfl,hv4,hb4⟩;exact hK _ w4 (hv4) hb4
   ·exact iJ s1
   ·exact iJ (iq gK 9 24)
   ·refine qM (iq gK 10 25) ?_;refine(CM.out w1).mono ?_;rintro e' w4 ⟨rfl,hb4⟩;exact hK _ w4 (rfl) hb4
   ·refine qM (iq gK 11 26) ?_;refine(pG 0 MK fZ w1).mono ?_;rintro e' w4 ⟨v4,rfl,hv4,hb4⟩;exact hK _ w4 (hv4) hb4
   ·have e19:=iq gK 4 19;simp only at e19;have e23:=iq gK 8 23;simp only at e23;have e27:=iq gK 12 27;simp only at e27;have f19:=e19;obtain⟨b1,c1,x19,y19⟩:=e19;rw[x19]at f19;have f23:=e23;obtain⟨b2,c2,x23,y23⟩:=e23;rw[x23]at f23;have f27:=e27;obtain⟨b3,c3,x27,y27⟩:=e27;rw[x27]at f27;have hol:=((((yO.one f19).append (yO.one f23)).append (yO.one (w:=w1) (v:=.func (.func 44) #[] #[]) (o:=none) rfl)).append (yO.one f27)).append (yO.one (w:=w1) (v:=.func (.func 44) #[] #[]) (o:=none) rfl);have hon:Xi (w1.alloc (.cells #[.func (.func 88) #[] #[.pointer (some ⟨b1,0,none⟩),.pointer (some ⟨c1,0,none⟩)],.func (.func 88) #[] #[.pointer (some ⟨b2,0,none⟩),.pointer (some ⟨c2,0,none⟩)],.func (.func 44) #[] #[],.func (.func 88) #[] #[.pointer (some ⟨b3,0,none⟩),.pointer (some ⟨c3,0,none⟩)],.func (.func 44) #[] #[]] 105)) (.slice (some ⟨w1.heap.size,0,none⟩) 5 5) Xk:=by
     rw[TY.out];exact Xj hol gu
    clear hlen;rw[aD]at x19 x23 x27;unfold Oper.wp;simp only[execOp,Act.eval];go_simp;exact hK _ _ hon ((ah _ _).alloc (ak _) _)
   ·have e15:=iq gK 0 15;simp only at e15;have e28:=iq gK 13 28;simp only at e28;generalize hv28:a.tmps.getD 28 undef=v28 at *;unfold Oper.wp;simp only[execOp,Act.eval,e15,hv28];go_simp;refine(Pk w1 _ _ d hV.dk v28 Xk e28 (by rw[TY.out];simp[sS];omega)).mono ?_;rintro e' w4 ⟨vs2,JS,rfl,hd4,hb4⟩;exact hK _ w4 ⟨vs2,JS,rfl,hd4⟩ hb4
  ·rintro a w1 hdf hlen hold hbel hnew;have e29:=qH hnew 14 29;simp only at e29;obtain⟨vs2,JS,e29,hd2⟩:=e29;obtain⟨uq,hu,hact⟩:=kL [15,16,17,18,19,20,21,22,23,24,25,26,27,28,29] hdf hlen hold;simp only[hu]at e29;simp only[List.foldl,e29,SA]at hact;clear hdf hlen hold hnew e29 hu;subst hact;have hbr:=(HR3.out.keep HDR.out).keep hbel;have KB:=K3.out.trans ((HDR.out.trans (hbel.mono gF)).mono K3.out.size);have hlt1:=hbr.lt;clear hbel HDR HR3 K3 wV CF1 CF2 CM TY;generalize lg d Xk=R at *;obtain⟨D,N⟩:=R;simp only at hd2 HE ⊢;obtain⟨A2,c2,P2,cp2,rfl,rfl,_,_,_,_⟩:=hd2.form
   have zN:=af (pI hbr hd2);have K2:=af (jU (A:=A2) (c:=c2) (P:=P2) (cp:=cp2) (d:=D) KB (show W.heap.size≤W.heap.size+1 by omega));obtain⟨t0,t1,t2,t3,r0,r1,r2,r3⟩:=nD hbr gD;clear KB hd2 hbr;refine gP 15 ?_;refine gP 16 ?_;refine kF.lt 17 ?_;intro K hK;go_simp;refine hK _ _ ?_;clear hK K;change kF _ _ _ _ _ _ _ _ _ (mE w1 (W.heap.size+1) A2 c2 P2 cp2 D);clear t0 t1 t2 t3 r0 r1 r2 r3 hlt1;generalize mE w1 (W.heap.size+1) A2 c2 P2 cp2 D=w5 at *;refine kF.lt 18 ?_;intro K hK;go_simp;refine hK _ _ (iP ?_);clear hK K;obtain⟨k0,k1,k2,k3⟩:=ku zN.out.blk gD
   go_wp2;exact bodyPost_ret (v:=.tuple #[.agg #[.int .i64 D.size,.slice A2 D.secs.length c2,.slice P2 D.pend.length cp2,.int .i64 D.left],.int .i64 N]) (by simp[results,results18,go_sem,k0,k1,k2,k3]) rfl (by rw[HE.out];exact⟨_,_,rfl,zN.out.dk,K2.out⟩)
 ·have HE:=af (HFm.out.trans (if_pos hk));have hne:(mF d != 0)=true:=by simpa using hk
  clear HFm hk;generalize mF d=kk at *;go_wp2_with fail;refine CH.out.mono ?_;rintro e w2 ⟨rfl,hb2⟩;have kQ:=hbr.keep hb2;have zN:=pI (A:=none) (c:=0) (P:=none) (cp:=0) (d:=iL) kQ (kU w2);have K2:=jU (A:=none) (c:=0) (P:=none) (cp:=0) (d:=iL) (K1.trans (hb2.mono K1.size)) (show W.heap.size≤W.heap.size+1 by omega);obtain⟨t0,t1,t2,t3,r0,r1,r2,r3⟩:=nD kQ gD;clear CH q0 q1 q2 q3 hbr kQ hb2 K1 Pm;go_wp2;change bodyPost _ _ _ _ _ (mE w2 (W.heap.size+1) none 0 none 0 iL);obtain⟨k0,k1,k2,k3⟩:=ku zN.blk gD;clear t0 t1 t2 t3 r0 r1 r2 r3;generalize mE w2 (W.heap.size+1) none 0 none 0 iL=wx at *
  exact bodyPost_ret (v:=.tuple #[.agg #[.int .i64 0,.slice none 0 0,.slice none 0 0,.int .i64 0],.int .i64 kk]) (by simp only[iL,aM]at k0 k1 k2 k3;simp[results,results18,go_sem,k0,k1,k2,k3]) rfl (by rw[HE.out];exact⟨_,_,rfl,zN.dk,K2⟩)
theorem Ls(W:World)(vs vp:Value)(d:Dk)(h:lK W vs vp d)(hn:d.pend.length≤10000)(lA:Option Addr)(lc:Nat)(l:List iX)(hl:vY W (.slice lA l.length lc) l):
  Calls prog 19 #[.agg #[.int .i64 d.size,vs,vp,.int .i64 d.left],.slice lA l.length lc] W (lV W (qa d l).1 (qa d l).2):=by
 obtain⟨A,c,P,cp,rfl,rfl,hc,hcp,hm,hmp⟩:=h.form;obtain⟨_,_,el,hlc,hlm⟩:=vY.form hl;cases el;have hbk:=(gV.new W #[.int .i64 d.size,.slice A d.secs.length c,.slice P d.pend.length cp,.int .i64 d.left] 56).alloc (.cells #[.int .i64 0,.slice none 0 0,.slice none 0 0,.int .i64 0] 56);have hbr:=gV.new (W.alloc (.cells #[.int .i64 d.size,.slice A d.secs.length c,.slice P d.pend.length cp,.int .i64 d.left] 56)) #[.int .i64 0,.slice none 0 0,.slice none 0 0,.int .i64 0] 56;rw[aJ]at hbr;have K1:=((ah W.heap.size W).alloc (ak _) (.cells #[.int .i64 d.size,.slice A d.secs.length c,.slice P d.pend.length cp,.int .i64 d.left] 56)).alloc gu (.cells #[.int .i64 0,.slice none 0 0,.slice none 0 0,.int .i64 0] 56)
 have Pm:Var _ W.heap.size A c P cp d:=⟨hbk,h.keep (dO K1)⟩;have HT1:vY _ (.slice lA l.length lc) l:=hl.keep (dO K1);have HF:Hid (qa d l=if (jk d).2≠0 then(iL,(jk d).2)else if ¬rU l then(iL,4)else if l = []then(d,0)else if gZ d.secs.length-(jk d).1.2.2<(kT l d.size.toNat).length then(iL,19)else lg d (sS (appW d.secs.length d.size.toNat (jk d).1.1 (jk d).1.2.2 l) (gN d.secs.length (jk d).1.1+(jk d).1.2.2,hd0 (kT l d.size.toNat)))):=rfl;have HU:Hid ((jk d).2=0→Valid d∧3≤d.secs.length∧((jk d).1.1=1∨(jk d).1.1=2)∧(jk d).1.2.2≤gZ d.secs.length):=ZF
 have CO:=af (Li _ _ _ d Pm.dk);generalize jk d=r at *;obtain⟨⟨a0,rl,u⟩,e0⟩:=r;simp only at HF HU;clear hbk;go_enter func19,ntmps19;go_upto_region 1 with (fail);generalize (W.alloc (.cells #[.int .i64 d.size,.slice A d.secs.length c,.slice P d.pend.length cp,.int .i64 d.left] 56)).alloc (.cells #[.int .i64 0,.slice none 0 0,.slice none 0 0,.int .i64 0] 56)=w1 at *;obtain⟨q0,q1,q2,q3⟩:=ku Pm.blk gD;have QK:=af K1;have HR1:=af hbr;have HVV:=af Pm;have HTT:=af HT1;clear K1 hbr Pm HT1
 go_wp2_with fail;refine CO.out.mono ?_;rintro e w2 ⟨v,rfl,ht,hb⟩;obtain⟨rA,rc,rfl,_,_⟩:=vY.form ht;have K2:=QK.out.trans (hb.mono QK.out.size);have al:Below w2.heap.size w2 (w2.alloc (.cells #[.int .i64 (a0:Int),.slice rA rl.length rc,.int .i64 (u:Int)] 110)):=(ah _ _).alloc (ak _) _;have K3:=af (K2.trans (al.mono K2.size));have HC3:=af (gV.new w2 #[.int .i64 (a0:Int),.slice rA rl.length rc,.int .i64 (u:Int)] 110);have wV:=af ((HVV.out.keep hb).keep al);have HR3:=af ((HR1.out.keep hb).keep al);have HT3:=af ((HTT.out.keep (dO hb)).keep (dO al))
 clear CO QK ht hb HVV HR1 HTT al K2 q0 q1 q2 q3;simp only;by_cases he:e0=0
 ·subst he;obtain⟨hval,Jy,af6,hu⟩:=HU.out rfl;have v1:=hval.s1;have v2:=hval.s2;have v4:=hval.n2;have HHF:Hid (gZ d.secs.length≤500):=by show _≤_;unfold gZ;omega
  clear HU hval;go_upto_region 4 with (fail);generalize hw3:w2.alloc (.cells #[.int .i64 (a0:Int),.slice rA rl.length rc,.int .i64 (u:Int)] 110)=w3 at *;have hC:w2.heap.size<w3.heap.size:=by rw[←hw3,aJ];omega
  generalize w2.heap.size=cb at *;clear hw3;have CE:=Cn w3 lA lc l HT3.out d.size.toNat fZ fZ ;rw[show ((d.size.toNat:Nat):Int)=d.size by omega]at CE;have CE:=af CE;obtain⟨q0,q1,q2,q3⟩:=ku wV.out.blk gD;go_wp2_with fail;refine CE.out.mono ?_;rintro e w4 ⟨v4',rfl,hrow,hb4⟩;clear CE q0 q1 q2 q3;by_cases hok:rU l
  ·have hpt:(nW l).2=0:=(Gy l).trans (if_pos hok);rw[hpt];have hrow:=hrow hpt;clear hpt;have Cj:=af (HF.out.trans (if_neg gu ) |>.trans (if_neg (fun e=>e hok)));clear HF;by_cases hne:l = []
   ·have HE:=af (Cj.out.trans (if_pos hne));have hS:kT l d.size.toNat = []:=if_pos hne;rw[hS]at hrow;obtain⟨sA,sc,rfl⟩:=iw hrow;have rz:=HR3.out.keep hb4;have Nc:=wV.out.keep hb4;have K4:=K3.out.trans (hb4.mono K3.out.size);have HVr:=af (pI rz Nc.dk);have K5:=af (jU (A:=A) (c:=c) (P:=P) (cp:=cp) (d:=d) K4 (show W.heap.size≤W.heap.size+1 by omega));obtain⟨t0,t1,t2,t3,r0,r1,r2,r3⟩:=nD rz gD;obtain⟨q0,q1,q2,q3⟩:=ku Nc.blk gD;clear Cj hne hS hrow rz Nc K4 K3 HR3 wV HC3 HT3 hb4;simp only[aM];go_wp2;change bodyPost _ _ _ _ _ (mE w4 (W.heap.size+1) A c P cp d)
    obtain⟨k0,k1,k2,k3⟩:=ku HVr.out.blk gD;clear t0 t1 t2 t3 r0 r1 r2 r3 q0 q1 q2 q3;generalize mE w4 (W.heap.size+1) A c P cp d=wx at *;exact bodyPost_ret (v:=.tuple #[.agg #[.int .i64 d.size,.slice A d.secs.length c,.slice P d.pend.length cp,.int .i64 d.left],.int .i64 0]) (by simp[results,results19,go_sem,k0,k1,k2,k3]) rfl (by rw[HE.out];exact⟨_,_,rfl,HVr.out.dk,K5.out⟩)
   ·have hpos:1≤(kT l d.size.toNat).length:=wK hne fZ ;have hhd:(hd0 (kT l d.size.toNat)).size=d.size.toNat:=BR hne fZ ;have hhe:kT l d.size.toNat=hd0 (kT l d.size.toNat)::(kT l d.size.toNat).drop 1:=Eu hne fZ ;have hbig:(kT l d.size.toNat).length≤200000000:=by
     rw[zC hne];exact rZ fZ (by have:=O8 hok;have:1≤d.size.toNat:= fZ ;have:=Nat.mul_le_mul_left 200000000 this;omega)
    have HFa:=af (Cj.out.trans (if_neg hne));clear Cj hne hok;unfold appW at HFa;obtain⟨S,hS⟩:∃S,S=kT l d.size.toNat:=⟨_,rfl⟩;rw[←hS]at hrow hpos hhd hhe hbig HFa;clear hS;obtain⟨g,cap,rfl,hgB,hgl,hgc,hgm⟩:=CQ (show w4.ownsRow w3.heap.size 9 1 v4' S.length (S.map .string)from hrow) fZ ;have HGB:Hid (w3.heap.size≤g):=hgB;have acs:=af hbig;have ZH:=af hhe;have HHD:=af hhd;have Yw:=af (wV.out.keep hb4);have HRc:=af (HR3.out.keep hb4);have HCc:=af (HC3.out.keep hb4);have HOc:=af hrow;have ZI:=af hb4;have hz0:¬((S.length:Int)=0):=by omega
    have hz1:¬S = []:=by rintro rfl;simp at hpos
    clear hrow hb4 hhd hhe hbig HT3 hgB hgl;go_upto_region 9 with (fail);have HDR:Hid (Below w4.heap.size w4 w4.drew):=kG gD;have CH:=af (fun w' (hb:Below w4.drew.heap.size w4.drew w')=>vJ w' _ _ d (((Yw.out.keep HDR.out).keep hb).dk));generalize hhf:gZ d.secs.length=hf at *;refine iN gB 8 (fun i v w=>match i with
     |0=>v=.slice (some ⟨g,0,none⟩) S.length cap
     |1=>v=.int .i64 (S.length:Int)
     |2=>v=.agg #[.int .i64 d.size,.slice A d.secs.length c,.slice P d.pend.length cp,.int .i64 d.left]
     |3=>v=.int .i64 (hf:Int)
     |4=>v=.pointer (some ⟨cb,2,none⟩)
     |5=>v=.int .i64 (u:Int)
     |6=>v=.int .i64 ((hf-u:Nat):Int)
     |_=>v=.bool (decide (hf-u<S.length))) 0 gB (fun i v w w' h hb=>?_) ?_ ?_
    ·exact PH
    ·rintro i o hi ho a w1 hdf hlen hold hbel gK K hK;clear hdf;have hV:=(Yw.out.keep HDR.out).keep hbel;obtain⟨q0,q1,q2,q3⟩:=ku hV.blk gD;have hC:=(HCc.out.keep HDR.out).keep hbel;obtain⟨p0,p1,p2,_,_,_⟩:=xh hC;have s2:=kZ hold 2 (.pointer (some ⟨W.heap.size,0,none⟩));have s6:=kZ hold 6 (.pointer (some ⟨cb,0,none⟩));have s8:=kZ hold 8 (.slice (some ⟨g,0,none⟩) S.length cap);have hi':i=0∨i=1∨i=2∨i=3∨i=4∨i=5∨i=6∨i=7:=by omega
     rcases hi' with rfl|rfl|rfl|rfl|rfl|rfl|rfl|rfl<;>obtain rfl:=aB ho
     ·exact iJ s8
     ·exact iJ (iq gK 0 37)
     ·exact iJ s2
     ·refine qM (iq gK 2 39) ?_;refine(CH.out w1 hbel).mono ?_;rintro e' w4 ⟨rfl,hb4⟩;exact hK _ w4 (rfl) hb4
     ·exact iJ s6
     ·exact iJ (iq gK 4 41)
     ·refine sM (iq gK 3 40) (iq gK 5 42) ?_;have hh:=HHF.out;have hsub:(hf:Int)-(u:Int)=((hf-u:Nat):Int):=by omega
      exact hK _ w1 (by simp only;rw[jo fZ fZ ];try exact congrArg (Value.int .i64) hsub) gD
     ·refine sM (iq gK 1 38) (iq gK 6 43) ?_;exact hK _ w1 gu (ah _ _)
    ·rintro a w1 hdf hlen hold hbel hnew;have e44:=qH hnew 7 44;simp only at e44;obtain⟨uq,hu,hact⟩:=kL [37,38,39,40,41,42,43,44] hdf hlen hold;simp only[hu]at e44;simp only[List.foldl,e44,SA]at hact;clear hdf hlen hold hnew e44 hu;subst hact;refine iP ?_;have kd:=HDR.out.trans (hbel.mono gF);have HV5:=af (Yw.out.keep kd);have Xl:=af (HRc.out.keep kd);have HC5:=af (HCc.out.keep kd);have ZJ:=af (qp.keep HOc.out kd);have KB5:=(hTr ZI kd);clear Yw HRc HCc HOc ZI kd hbel HDR CH;subst hhf;clear hz0 hz1;by_cases hroom:gZ d.secs.length-u<S.length
     ·have HE:=af (HFa.out.trans (if_pos hroom));have Fz:=Xl.out;have K4:=K3.out.trans (KB5.out.mono K3.out.size);clear HFa;simp only[hroom,decide_true];have zN:=pI (A:=none) (c:=0) (P:=none) (cp:=0) (d:=iL) Fz (kU w1);have K2:=jU (A:=none) (c:=0) (P:=none) (cp:=0) (d:=iL) K4 (show W.heap.size≤W.heap.size+1 by omega);obtain⟨t0,t1,t2,t3,r0,r1,r2,r3⟩:=nD Fz gD;clear Fz K4 K3 HR3 wV HC3 HV5 Xl HC5 ZJ KB5 ZH HHD acs;go_wp2;change bodyPost _ _ _ _ _ (mE w1 (W.heap.size+1) none 0 none 0 iL);obtain⟨k0,k1,k2,k3⟩:=ku zN.blk gD;clear t0 t1 t2 t3 r0 r1 r2 r3
      generalize mE w1 (W.heap.size+1) none 0 none 0 iL=wx at *;exact bodyPost_ret (v:=.tuple #[.agg #[.int .i64 0,.slice none 0 0,.slice none 0 0,.int .i64 0],.int .i64 19]) (by simp only[iL,aM]at k0 k1 k2 k3;simp[results,results19,go_sem,k0,k1,k2,k3]) rfl (by rw[HE.out];exact⟨_,_,rfl,zN.dk,K2⟩)
     ·have HE:=af (HFa.out.trans (if_neg hroom));clear HFa acs;simp only[hroom,decide_false];generalize hw5:w1=w5 at *;clear hw5;obtain⟨g1,g2⟩:=wL Jy;have hF:=nE Jy af6;have CF:=af (wN w5 _ _ d HV5.out.dk v4 a0 fZ );obtain⟨F,hFe⟩:∃F,F=gN d.secs.length a0:=⟨_,rfl⟩;rw[←hFe]at CF HE hF;clear hFe;obtain⟨hF1,hF2,-,-⟩:=hF;obtain⟨q0,q1,q2,q3⟩:=ku HV5.out.blk gD;obtain⟨p0,p1,p2,_,_,_⟩:=xh HC5.out;go_wp2_with fail;refine CF.out.mono ?_;rintro e w6 ⟨rfl,hb6⟩;have hO6:=qp.keep ZJ.out hb6;have hC6:=HC5.out.keep hb6;have KB6:=(hTr KB5 hb6)
      obtain⟨p0',p1',p2',_,_,_⟩:=xh hC6;obtain⟨s0,sf⟩:=AB hO6 (i:=0) (u:=.string (hd0 S)) (by rw[ZH.out];simp[hd0]);obtain⟨FL,hFL⟩:∃FL,FL=hd0 S:=⟨_,rfl⟩;rw[←hFL]at ZH HHD s0 HE;clear hFL;have hadd:IntKind.i64.wrap ((F:Int)+(u:Int))=((F+u:Nat):Int):=by rw[jo fZ fZ ];omega
      have hsz:1≤FL.size:=by have:=HHD.out;omega
      have hsz':(1:Int)≤(FL.size:Int):=by omega
      have alB:¬9223372036854775807<FL.size:=by have:=HHD.out;omega
      have HO6:=af (CY hO6 (i:=0) (.string (lJ FL)));have HSW:=af (KB6.out.setCell (p:=⟨g,0,none⟩) HGB.out (.string (lJ FL)));have HUF:=af (QH FL);clear q0 q1 q2 q3 p0 p1 p2 hC6 hO6 CF HV5 Xl HC5 ZJ KB5 hb6;go_upto_region 15 with (fail);rw[HUF.out,show ((F:Int)+(u:Int))=((F+u:Nat):Int) by omega];obtain⟨T,hT⟩:∃T,T=lJ FL::S.drop 1:=⟨_,rfl⟩;have Rn:T.length=S.length:=by rw[hT,aI,aC];omega
      rw[←hT]at HE;have HOT:qp (w6.setCell ⟨g,0,none⟩ (.string (lJ FL))) w3.heap.size (.slice (some ⟨g,0,none⟩) T.length cap) T:=by
       have h1:=HO6.out;have h2:(S.map Value.string).set 0 (.string (lJ FL))=T.map Value.string:=by
        rw[hT];have:=ZH.out;generalize S.drop 1=S1 at *;rw[this];rfl
       rw[h2]at h1;unfold qp;rw[Rn];exact h1
      have HOc:=af HOT;rw[←Rn];have HTL:=af Rn;have hroom':u+T.length≤gZ d.secs.length:=by omega
      clear hT Rn HOT HO6 ZH HUF hadd hroom hpos s0 sf p0' p1' p2' hrow;generalize w6.setCell ⟨g,0,none⟩ (.string (lJ FL))=w7 at *;have ZI:=HSW;have Yw:=af (wV.out.keep ZI.out);have Wv:Hid (w3.heap.size≤w7.heap.size):=ZI.out.size;clear HSW KB6;go_upto_region 15 with (fail);have HDR:Hid (Below w7.heap.size w7 w7.drew):=kG gD;have CH:=af (fun w' (hb:Below w7.drew.heap.size w7.drew w')=>vJ w' _ _ d (((Yw.out.keep HDR.out).keep hb).dk));have CF0:=fun w' (hb:Below w7.drew.heap.size w7.drew w')=>TV w' (some ⟨g,0,none⟩) cap T (qp.strs (qp.keep (qp.keep HOc.out HDR.out) hb)) (F+u) (F+gZ d.secs.length) d.size.toNat w3.heap.size (by have h1:=Wv.out;have h2:=hb.size;have h3:w7.drew.heap.size=w7.heap.size:=rfl;omega) fZ (by have:=HHF.out;omega) fZ
      rw[show ((d.size.toNat:Nat):Int)=d.size by omega]at CF0;obtain⟨OF,hOF⟩:∃OF,OF=(o5 (F+u) T (F+gZ d.secs.length) d.size.toNat).map some:=⟨_,rfl⟩;rw[←hOF]at CF0;have HOF:=af hOF;have CFi:=af CF0;clear hOF CF0;have agd:=HHF.out;generalize hhf:gZ d.secs.length=hf at *;refine iN gB 10 (fun i v w=>match i with
       |0=>v=.int .i64 ((F+u:Nat):Int)
       |1=>v=.slice (some ⟨g,0,none⟩) T.length cap
       |2=>v=.int .i64 ((F:Nat):Int)
       |3=>v=.agg #[.int .i64 d.size,.slice A d.secs.length c,.slice P d.pend.length cp,.int .i64 d.left]
       |4=>v=.int .i64 (hf:Int)
       |5=>v=.int .i64 ((F+hf:Nat):Int)
       |6=>v=.pointer (some ⟨W.heap.size,0,none⟩)
       |7=>v=.int .i64 d.size
       |8=>yE w w3.heap.size v OF
       |_=>yE w w3.heap.size v OF) 0 gB (fun i v w w' h hb=>?_) ?_ ?_
      ·match i,h with
       |0,h=>exact h
       |1,h=>exact h
       |2,h=>exact h
       |3,h=>exact h
       |4,h=>exact h
       |5,h=>exact h
       |6,h=>exact h
       |7,h=>exact h
       |8,h=>exact yE.below h hb
       |9,h=>exact yE.below h hb
       |_+10,h=>exact yE.below h hb
      ·rintro i o hi ho a w1 hdf hlen hold hbel gK K hK;clear hdf;have hV:=(Yw.out.keep HDR.out).keep hbel;obtain⟨q0,q1,q2,q3⟩:=ku hV.blk gD;have s2:=kZ hold 2 (.pointer (some ⟨W.heap.size,0,none⟩));have s8:=kZ hold 8 (.slice (some ⟨g,0,none⟩) T.length cap);have s10:=kZ hold 10 (.int .i64 ((F+u:Nat):Int));have s9:=kZ hold 9 (.int .i64 ((F:Nat):Int));have hi':i=0∨i=1∨i=2∨i=3∨i=4∨i=5∨i=6∨i=7∨i=8∨i=9:=by omega
       rcases hi' with rfl|rfl|rfl|rfl|rfl|rfl|rfl|rfl|rfl|rfl<;>obtain rfl:=aB ho
       ·exact iJ s10
       ·exact iJ s8
       ·exact iJ s9
       ·exact iJ s2
       ·refine qM (iq gK 3 65) ?_;refine(CH.out w1 hbel).mono ?_;rintro e' w4 ⟨rfl,hb4⟩;exact hK _ w4 (rfl) hb4
       ·refine sM (iq gK 2 64) (iq gK 4 66) ?_;exact hK _ w1 (by simp only;rw[jo fZ fZ ];try exact congrArg (Value.int .i64) (show (((F:Nat):Int))+(hf:Int)=((F+hf:Nat):Int) by omega)) gD
       ·exact iJ s2
       ·exact iJ (iq gK 6 68)
       ·refine PX4 (iq gK 0 62) (iq gK 1 63) (iq gK 5 67) (iq gK 7 69) ?_;refine(CFi.out w1 hbel).mono ?_;rintro e' w4 ⟨v4,rfl,hv4,hb4⟩;exact hK _ w4 (hv4) hb4
       ·have e70:=iq gK 8 70;simp only at e70;generalize Qv:a.tmps.getD 70 undef=vx at *;unfold Oper.wp;simp only[execOp,Act.eval,Qv];go_simp;exact hK _ w1 e70 gD
      ·rintro a w1 hdf hlen hold hbel hnew;have e12:=qH hnew 9 12;simp only at e12;have hact:=Tm [62,63,64,65,66,67,68,69,70,12] hdf hlen (fun t ht=>hold t (fun j hj hd=>by
        have:j=0∨j=1∨j=2∨j=3∨j=4∨j=5∨j=6∨j=7∨j=8∨j=9:=by omega
        rcases this with rfl|rfl|rfl|rfl|rfl|rfl|rfl|rfl|rfl|rfl<;>(obtain rfl:=aB hd;exact ht gm )))
       simp only[List.foldl,SA]at hact;clear hdf hlen hold hnew;generalize a.tmps.getD 62 undef=u62 at hact;generalize a.tmps.getD 63 undef=u63 at hact;generalize a.tmps.getD 64 undef=u64 at hact;generalize a.tmps.getD 65 undef=u65 at hact;generalize a.tmps.getD 66 undef=u66 at hact;generalize a.tmps.getD 67 undef=u67 at hact;generalize a.tmps.getD 68 undef=u68 at hact;generalize a.tmps.getD 69 undef=u69 at hact;generalize a.tmps.getD 70 undef=u70 at hact;generalize a.tmps.getD 12 undef=u12 at hact e12;subst hact;refine iP ?_;have kd:=HDR.out.trans (hbel.mono gF);have KB8:=(hTr ZI kd);have HOW:=af e12
       clear Yw HOc ZI kd hbel HDR CH CFi e12 HHF agd Wv;subst hhf;generalize hw8:w1=w8 at *;clear hw8;have TY:Hid (lg d (sS (o5 (F+u) T (F+gZ d.secs.length) d.size.toNat) (F+u,FL))=lg d (OF++[none,some (F+u,FL),none])):=by show _=_;rw[HOF.out];rfl
       have ZK:Hid (OF.length≤600):=by
        show _≤_;rw[HOF.out,cZ];have:=NT (F+u) T (F+gZ d.secs.length) d.size.toNat;omega
       have hFu:F+u≤100000:=by omega
       clear HOF;generalize sS (o5 (F+u) T (F+gZ d.secs.length) d.size.toNat) (F+u,FL)=Xk at *;go_upto_region 16 with (fail);obtain⟨i1,hi1,hy0,hy1,hy2⟩:=info_parts Tryz.Ph;have acv:∀w',Below w3.heap.size w3 w'→w'.cell? ⟨W.heap.size,0,none⟩=some (.int .i64 d.size)∧w'.cell? ⟨W.heap.size,1,none⟩=some (.slice A d.secs.length c)∧w'.cell? ⟨W.heap.size,2,none⟩=some (.slice P d.pend.length cp)∧w'.cell? ⟨W.heap.size,3,none⟩=some (.int .i64 d.left):=fun w' hb=>ku (wV.out.keep hb).blk gD
       have Gz:=af acv;clear acv;have HDR:Hid (Below w8.heap.size w8 w8.drew):=kG gD;have KB9:=af (KB8.out.trans (HDR.out.mono KB8.out.size));obtain⟨vals,hrow,hol,hoc⟩:=HOW.out.below HDR.out;obtain⟨oA,oc,rfl⟩:=iw hrow;have zM:=af hrow;have HOL:=af hol;have HOC:=af hoc;clear hrow hol hoc HOW HDR KB8;refine nN (S:=fun w=>w.cell? ⟨W.heap.size,0,none⟩=some (.int .i64 d.size)∧w.cell? ⟨W.heap.size,1,none⟩=some (.slice A d.secs.length c)∧w.cell? ⟨W.heap.size,2,none⟩=some (.slice P d.pend.length cp)∧w.cell? ⟨W.heap.size,3,none⟩=some (.int .i64 d.left)) gB (Gz.out _ KB9.out) 7 ?_
       generalize w8.drew=w9 at *;simp only[di,aI,aM];refine jr 0 [] ?_;refine gP 1 ?_;refine gP 2 ?_;refine gP 3 ?_;refine kF.on 4 ?_;intro K hK;go_simp;refine(pG (F+u) FL fZ w9).mono ?_;rintro e VF ⟨v10,rfl,acw,Xm⟩;have ZL:=(hTr KB9 Xm);refine hK _ _ (Gz.out _ ZL.out) ?_;clear hK K;try simp only[Act.put,SA]
       have T9:=af (iY (M:=fun _=>False) zM.out (fun _ _ h=>h) _ (jC Xm _));have Yx:=af (HOL.out.keep Xm);have HOV:=af acw;obtain⟨b1,b2,rfl,-⟩:=acw;clear Xm KB9 zM HOL;refine kF.on 5 ?_;intro K hK;go_simp;have al:=(ah VF.heap.size VF).alloc (ak _) (.cells #[.func (.func 44) #[] #[],.func (.func 88) #[] #[.pointer (some ⟨b1,0,none⟩),.pointer (some ⟨b2,0,none⟩)],.func (.func 44) #[] #[]] 105);have Xn:=(hTr ZL al);refine hK _ _ (Gz.out _ Xn.out) ?_
       clear hK K;try simp only[Act.put,SA]
       have I4:=af (iY (M:=fun _=>False) T9.out (fun _ _ h=>h) _ (jC al _));have Yy:=af (Yx.out.keep al);have Yz:=af (HOV.out.keep al);have HCA:Hid (iM (VF.alloc (.cells #[.func (.func 44) #[] #[],.func (.func 88) #[] #[.pointer (some ⟨b1,0,none⟩),.pointer (some ⟨b2,0,none⟩)],.func (.func 44) #[] #[]] 105)) (some ⟨VF.heap.size,0,none⟩) [.func (.func 44) #[] #[],.func (.func 88) #[] #[.pointer (some ⟨b1,0,none⟩),.pointer (some ⟨b2,0,none⟩)],.func (.func 44) #[] #[]]):=gY _ _ _ _
       have Ua:=Xn.out.size;generalize VF.alloc (.cells #[.func (.func 44) #[] #[],.func (.func 88) #[] #[.pointer (some ⟨b1,0,none⟩),.pointer (some ⟨b2,0,none⟩)],.func (.func 44) #[] #[]] 105)=Xo at *;generalize VF.heap.size=g11 at *;clear al ZL T9 Yx HOV;refine qN (i:=6) (by simp only[GA];rfl) gB ?_;refine jf _ rfl _ _ _ rfl w3.heap.size 105 i1 _ 1 8 underlying108 hi1 hy0 hy1 hy2 rfl fZ (.slice oA OF.length oc) OF.length _ rfl I4.out _ 3 3 [.func (.func 44) #[] #[],.func (.func 88) #[] #[.pointer (some ⟨b1,0,none⟩),.pointer (some ⟨b2,0,none⟩)],.func (.func 44) #[] #[]] rfl rfl HCA.out (by simp[Value.oneCell']) (by have:=ZK.out;omega) (by have:=ZK.out;omega) Ua ?_
       intro v12 w12 Ub Uc acy;have Ud:=af (Xn.out.grown Uc Ua (fun g h=>(World.ownsRow.lt I4.out g h).1));have YA:Hid (yE w12 w3.heap.size v12 (OF++[none,some (F+u,FL),none])) :=
        yE.grow (n1:=[.func (.func 44) #[] #[],.func (.func 88) #[] #[.pointer (some ⟨b1,0,none⟩),.pointer (some ⟨b2,0,none⟩)],.func (.func 44) #[] #[]]) (o1:=[none,some (F+u,FL),none]) I4.out Yy.out HOC.out (((yO.one (w:=Xo) (v:=(.func (.func 44) #[] #[])) (o:=none) rfl).append (yO.one Yz.out)).append (yO.one (w:=Xo) (v:=(.func (.func 44) #[] #[])) (o:=none) rfl)) (by simp[Value.oneCell']) Uc Ub
       refine⟨Gz.out _ Ud.out,?_⟩;try simp only[Act.put,SA]
       have acz:=af (wV.out.keep Ud.out);have YB:=HR3.out.keep Ud.out;have K12:=K3.out.trans (Ud.out.mono K3.out.size);have hlen:d.pend.length+(OF++[none,some (F+u,FL),none]).length≤100000:=by have:=ZK.out;simp;omega
       clear Ub Uc acy Xn I4 Yy Yz HCA Ua;refine kF.lt 7 ?_;intro K hK;go_simp;refine(Pk w12 _ _ d acz.out.dk v12 _ YA.out.ops hlen).mono ?_;rintro e w13 ⟨vs2,JS,rfl,hd2,ZM⟩;refine hK _ _ ?_;clear hK K;try simp only[Act.put,SA]
       have hbr:=YB.keep ZM;have KB:=K12.trans (ZM.mono K12.size);have hlt1:=hbr.lt;clear YB K12 acz Ud YA hlen ZM;rw[←TY.out]at hd2 ⊢;generalize lg d _=R at *;obtain⟨D,N⟩:=R;simp only at hd2 HE ⊢;obtain⟨A2,c2,P2,cp2,rfl,rfl,_,_,_,_⟩:=hd2.form;have zN:=af (pI hbr hd2);have K2:=af (jU (A:=A2) (c:=c2) (P:=P2) (cp:=cp2) (d:=D) KB (show W.heap.size≤W.heap.size+1 by omega));obtain⟨t0,t1,t2,t3,r0,r1,r2,r3⟩:=nD hbr gD;clear KB hd2 hbr;refine gP 8 ?_;refine gP 9 ?_;refine kF.lt 10 ?_;intro K hK;go_simp;refine hK _ _ ?_;clear hK K;change kF _ _ _ _ _ _ _ _ _ (mE w13 (W.heap.size+1) A2 c2 P2 cp2 D)
       clear t0 t1 t2 t3 r0 r1 r2 r3 hlt1;generalize mE w13 (W.heap.size+1) A2 c2 P2 cp2 D=w14 at *;refine kF.lt 11 ?_;intro K hK;go_simp;refine hK _ _ (iP ?_);clear hK K;obtain⟨k0,k1,k2,k3⟩:=ku zN.out.blk gD;go_wp2;exact bodyPost_ret (v:=.tuple #[.agg #[.int .i64 D.size,.slice A2 D.secs.length c2,.slice P2 D.pend.length cp2,.int .i64 D.left],.int .i64 N]) (by simp[results,results19,go_sem,k0,k1,k2,k3]) rfl (by rw[HE.out];exact⟨_,_,rfl,zN.out.dk,K2.out⟩)
  ·have HE:=af (HF.out.trans (if_neg gu ) |>.trans (if_pos hok));rw[(Gy l).trans (if_neg hok)];have K4:=K3.out.trans (hb4.mono K3.out.size);have rz:=HR3.out.keep hb4;clear hrow;have zN:=pI (A:=none) (c:=0) (P:=none) (cp:=0) (d:=iL) rz (kU w4);have K2:=jU (A:=none) (c:=0) (P:=none) (cp:=0) (d:=iL) K4 (show W.heap.size≤W.heap.size+1 by omega);obtain⟨t0,t1,t2,t3,r0,r1,r2,r3⟩:=nD rz gD;clear rz K4 K3 HR3 wV HC3 HT3 hb4 HF;go_wp2;change bodyPost _ _ _ _ _ (mE w4 (W.heap.size+1) none 0 none 0 iL);obtain⟨k0,k1,k2,k3⟩:=ku zN.blk gD;clear t0 t1 t2 t3 r0 r1 r2 r3
   generalize mE w4 (W.heap.size+1) none 0 none 0 iL=wx at *;exact bodyPost_ret (v:=.tuple #[.agg #[.int .i64 0,.slice none 0 0,.slice none 0 0,.int .i64 0],.int .i64 4]) (by simp only[iL,aM]at k0 k1 k2 k3;simp[results,results19,go_sem,k0,k1,k2,k3]) rfl (by rw[HE.out];exact⟨_,_,rfl,zN.dk,K2⟩)
 ·have HE:=af (HF.out.trans (if_pos he));have hne:(e0 != 0)=true:=by simpa using he
  clear HF HU;have rz:=HR3.out;have K4:=K3.out;go_upto_region 3 with (fail);generalize w2.alloc (.cells #[.int .i64 (a0:Int),.slice rA rl.length rc,.int .i64 (u:Int)] 110)=w3 at *;have zN:=pI (A:=none) (c:=0) (P:=none) (cp:=0) (d:=iL) rz (kU w3);have K2:=jU (A:=none) (c:=0) (P:=none) (cp:=0) (d:=iL) K4 (show W.heap.size≤W.heap.size+1 by omega);obtain⟨t0,t1,t2,t3,r0,r1,r2,r3⟩:=nD rz gD;clear rz K4 K3 HR3 wV HC3 HT3;go_wp2;change bodyPost _ _ _ _ _ (mE w3 (W.heap.size+1) none 0 none 0 iL);obtain⟨k0,k1,k2,k3⟩:=ku zN.blk gD
  clear t0 t1 t2 t3 r0 r1 r2 r3;generalize mE w3 (W.heap.size+1) none 0 none 0 iL=wx at *;exact bodyPost_ret (v:=.tuple #[.agg #[.int .i64 0,.slice none 0 0,.slice none 0 0,.int .i64 0],.int .i64 e0]) (by simp only[iL,aM]at k0 k1 k2 k3;simp[results,results19,go_sem,k0,k1,k2,k3]) rfl (by rw[HE.out];exact⟨_,_,rfl,zN.dk,K2⟩)
end Go.Proofs.YtichfhpgdhdiaaaGreat
