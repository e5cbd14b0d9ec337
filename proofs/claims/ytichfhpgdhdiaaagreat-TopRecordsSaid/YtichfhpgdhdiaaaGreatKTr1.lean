/- Top: TopRecords, the law. -/
import Derived.Test.YtichfhpgdhdiaaaGreatKTr0
import Derived.Test.YtichfhpgdhdiaaaGreatJ3
import Derived.Test.YtichfhpgdhdiaaaGreatKRJw
set_option maxRecDepth 100000
set_option maxHeartbeats 8000000
set_option linter.unusedVariables false
set_option linter.unusedSimpArgs false
open Go.Proofs.Tryz
namespace Go.Proofs.YtichfhpgdhdiaaaGreat
open Go.RowKit
theorem flat_le2(m:Nat):∀(ls:List (List Dg)),(∀x∈ls,x.length≤m)→(ls.flatten).length≤ls.length*m
 |[],_=>by simp
 |x::ls,h=>by
  rw[List.flatten_cons,aj,aI,dx,Nat.one_mul];have h1:=h x gu ;have h2:=flat_le2 m ls fun y hy=>h y (by simp[hy])
  omega
theorem PkE.two{p:List It}{l base:List Dg}{w0 w:World}{e:Ending}(h:PkE p l base w0 e w):
  ∃(s:List UInt8) (k:Int),e=.returned (.tuple #[.string (fu s),.int .i64 k])∧Below w0.heap.size w0 w∧(k=0→xB p l base∧YK p l base s):=by
 obtain⟨hb,⟨ho,s,hg,rfl⟩|⟨hn,k,hk,rfl⟩⟩:=h
 ·exact⟨s,0,rfl,hb,fun _=>⟨ho,hg⟩⟩
 ·exact⟨[],k,rfl,hb,fun h=>absurd h hk⟩
theorem dgs_nou{w w':World}{g n:Nat}{cs:Array Value}{A:Option Addr}{c:Nat}{t:TypeId}{l:List Dg}(h:qi w (.slice A n c) l)(hb:gV w g t cs)(hn:∀(k:Nat) s,cs[k]?≠some (Value.int .u64 s))(hg:w.grownBy w' (some g)):qi w' (.slice A n c) l:=by
 have hc:=tu h;obtain⟨A',c',us,e,h1,h2,_,he⟩:=h;injection e with e1 e2 e3;subst e1 e2 e3;refine⟨A,c,l.flatMap rq,rfl,h1,h2,fun k x hx=>?_,G5 l⟩;obtain⟨b,off,rfl,hy⟩:=hc k x hx;refine⟨b,off,rfl,uN hg (fun e=>?_) hy⟩;subst e;obtain⟨s,rfl⟩:∃s,x=Value.int .u64 s:=by
  obtain⟨y,_,hy⟩:=List.mem_flatMap.1 (aV hx);simp only[rq,bC,List.not_mem_nil,or_false]at hy;rcases hy with rfl|rfl<;>exact⟨_,rfl⟩
 unfold World.cell? at hy;simp only[show w.heap[b]?=_ from hb]at hy;exact hn _ _ hy
theorem dk_nou{z l:Int}{A P:Option Addr}{n c m cp:Nat}:∀(k:Nat) s,(#[Value.int .i64 z,.slice A n c,.slice P m cp,.int .i64 l]:Array Value)[k]?≠some (Value.int .u64 s):=fun k s=>by
 match k with
 |0=>simp
 |1=>simp
 |2=>simp
 |3=>simp
 |k+4=>simp
theorem dgs_put4{w:World}{g n:Nat}{A0 P0 A P B:Option Addr}{c0 cp0 c cp e:Nat}{d0 d:Dk}{l:List Dg}(h:qi w (.slice B n e) l)(V:Var w g A0 c0 P0 cp0 d0):qi (mE w g A c P cp d) (.slice B n e) l :=
 dgs_nou h V.blk dk_nou ((((gG w g 0 (.int .i64 d.size)).trans (gG _ g 1 (.slice A d.secs.length c))).trans (gG _ g 2 (.slice P d.pend.length cp))).trans (gG _ g 3 (.int .i64 d.left)))
theorem cut_rec2{d:Dk}{P:List iX→Prop}(h:Gt d P)(ps:List Int):∃r,vG (vw d ps)=(r,0)∧P r:=by
 obtain⟨act,r,u,hg,hP,_⟩:=h.cut ps;exact⟨r,hg.opn.FH,hP⟩
theorem dgC_nos(l:List Dg):∀s,Value.string s∉l.flatMap rq:=fun s hs=>by
 obtain⟨y,_,hy⟩:=List.mem_flatMap.1 hs;simp[rq]at hy
def PkQ(p:List It)(ls:List (List Dg))(r:List iX):Prop:=∀(i:Nat) x s,ls[i]?=some x→r[i]?=some s→xB p x (ls.take i).flatten∧YK p x (ls.take i).flatten s
theorem pkq_snoc{p:List It}{ls:List (List Dg)}{r:List iX}{x:List Dg}{s:iX}{k:Nat}(h:PkQ p ls r)(hk:r.length=k)(hx:ls[k]?=some x)(h1:xB p x (ls.take k).flatten)(h2:YK p x (ls.take k).flatten s):PkQ p ls (r++[s]):=fun i y t hy ht=>by
 rcases aP i r.length with hi|hi
 ·rw[aY hi]at ht;exact h i y t hy ht
 ·have hi2:i<(r++[s]).length:=(ay.1 ht).1;simp only[aj,aI,aM]at hi2;obtain rfl:i=r.length:=by omega
  rw[bD gF,Nat.sub_self]at ht;obtain rfl:=aB ht;subst hk;obtain rfl:=aB (hx.symm.trans hy);exact⟨h1,h2⟩
theorem law_records(W:World)(v u z:Value)(p:List It)(ls:List (List Dg))(acts:List uw)(h:og W v p)(g0:Ru W u ls)(ha:NW W z acts):
  Calls prog 5 #[v,u,z] W fun e w'=>e=.returned (.bool true)∧Below W.heap.size W w':=by
 obtain⟨A,c,rfl,hc,hm⟩:=h.form;obtain⟨B,d,rfl,hd,hn⟩:=g0.form;obtain⟨C,e,rfl,he,hen⟩:=ha.form;obtain⟨i1,hi1,hy0,hy1,hy2⟩:=info_parts Tryz.Cv;have CA:=af Ca;have HP:=af h;have HG:=af g0;have HZ:=af ha;have K0:Hid (Below W.heap.size W W):=ah _ _;clear h g0 ha;go_enter func5,ntmps5;by_cases h4:ls.length≤4
 ·have h4a:¬(4:Int)<(ls.length:Int):=by omega
  by_cases h5:acts.length≤4
  ·have h5a:¬(4:Int)<(acts.length:Int):=by omega
   have CS:=af (He W _ _ p ls HP.out HG.out);go_wp2_with fail;refine CS.out.mono ?_;rintro e w2 ⟨b,rfl,hsm,hb2⟩;have HSM:=af hsm;have K:=af hb2;clear CS hsm hb2;cases b with
   |false =>
    go_wp2_with fail;refine(CA.out w2).mono ?_;rintro e wZ ⟨rfl,Mr⟩;have U6:=(hTr K Mr);clear Mr;go_wp2;go_ret;exact⟨rfl,U6.out⟩
   |true =>
    have HS:=HSM.out rfl;have hpl:=HS.2.1;have HS:=af HS;have CF:=af (fine_any w2 3 1 fZ C e acts (HZ.out.keep (dO K.out)));clear HSM;go_wp2_with fail;refine CF.out.mono ?_;rintro e w3 ⟨rfl,hbx⟩;replace K:=(hTr K hbx);clear CF hbx;cases hfn:fineB 3 1 acts with
    |false =>
     go_wp2_with fail;refine(CA.out w3).mono ?_;rintro e wZ ⟨rfl,Mr⟩;have U6:=(hTr K Mr);clear Mr;go_wp2;go_ret;exact⟨rfl,U6.out⟩
    |true =>
     clear hfn;obtain⟨d1,hf1,hg1,hl1,hs1,hn1⟩:=TF (n:=1000) (z:=32) fZ fZ fZ fZ ;have HF:=af hf1;have HGd:=af hg1;have HLf:=af hl1;have X6:Hid ((zD 1000 32).pend.length=0):=rfl;have CN:=U0 w3 1000 32 fZ fZ fZ fZ ;rw[Xp]at CN;have CN:=af CN;generalize zD 1000 32=d0 at *;clear hf1 hg1 hl1 hs1 hn1;go_wp2_with fail;refine CN.out.mono ?_;rintro e w4 ⟨vs,vp,rfl,hD,hb4⟩;obtain⟨Ad,cd,Pd,cpd,rfl,rfl,_,_,_,_⟩:=hD.form;have V:=Var.new hD;have K4:=(hTr K hb4);have hltg:W.heap.size≤w4.heap.size:=aS K.out.size hb4.size;have K5:=af (K4.out.alloc hltg (.cells #[.int .i64 d0.size,.slice Ad d0.secs.length cd,.slice Pd d0.pend.length cpd,.int .i64 d0.left] 56))
     clear CN hb4 hD K K4;go_upto_region 4 with (fail);generalize w4.alloc (.cells #[.int .i64 d0.size,.slice Ad d0.secs.length cd,.slice Pd d0.pend.length cpd,.int .i64 d0.left] 56)=w5 at *;generalize w4.heap.size=g at *;obtain⟨q0,q1,q2,q3,_⟩:=V.facts;have CF:=NU w5 _ _ d0 V.dk (by have:=X6.out;omega);rw[HF.out]at CF;have CF:=af CF;go_wp2_with fail;refine CF.out.mono ?_;rintro e w6 ⟨vs2,JS,rfl,hD2,hb6⟩;obtain⟨A2,c2,P2,cp2,rfl,rfl,_,_,_,_⟩:=hD2.form;have V6:=V.keep hb6;have VX:=V6.assign hD2;have KX:=jU (A:=A2) (c:=c2) (P:=P2) (cp:=cp2) (d:=d1) (K5.out.trans (hb6.mono K5.out.size)) hltg
     obtain⟨t0,t1,t2,t3,r0,r1,r2,r3⟩:=V6.facts;clear CF V V6 K5 hb6 hD2 q0 q1 q2 q3;go_upto_region 5 with (fail);change Code.wp _ _ _ _ (mE w6 g A2 c2 P2 cp2 d1);clear t0 t1 t2 t3 r0 r1 r2 r3;generalize mE w6 g A2 c2 P2 cp2 d1=w7 at *;have V8:=af (VX.alloc (.cells #[] 39));have K8_z:=af (KX.alloc KX.size (.cells #[] 39));have HL0:Hid (qi (w7.alloc (.cells #[] 39)) (.slice (some ⟨w7.heap.size,0,none⟩) 0 0) (ls.take 0).flatten):=by
      show qi _ _ _;rw[bO,fK];exact⟨_,0,[],rfl,ak _,by unfold maxLen;omega,fun k u hu=>by simp at hu,rfl⟩
     clear VX KX;go_upto_block 0 with (fail);generalize w7.alloc (.cells #[] 39)=w8 at *;go_cut [11] (fun sv wx=>∃(k:Nat) (r:List iX) (dd:Dk) (A2:Option Addr) (c2:Nat) (P2:Option Addr) (cp2:Nat),sv=.int .i64 k∧k≤r.length∧r.length≤k+1∧r.length≤ls.length∧PkQ p ls r∧vG dd=(r,0)∧Var wx g A2 c2 P2 cp2 dd∧Below W.heap.size W wx)
     case first =>
      go_wp2;go_loopw [10,11,59] (fun av sv iv wr=>∃(k:Nat) (A1:Option Addr) (c1:Nat) (rs:List iX) (d1:Dk) (A2:Option Addr) (c2:Nat) (P2:Option Addr) (cp2 act uu:Nat),k≤ls.length∧iv=.int .i64 k∧sv=.int .i64 k∧av=.slice A1 (ls.take k).flatten.length c1∧rs.length=k∧Hid (qi wr (.slice A1 (ls.take k).flatten.length c1) (ls.take k).flatten)∧Hid (PkQ p ls rs)∧Hid (Good d1 act rs uu)∧Hid (d1.left=-1)∧Hid (Var wr g A2 c2 P2 cp2 d1)∧Hid (Below W.heap.size W wr)) (fun _ _ iv _=>ls.length-(intOf iv).toNat)
      case atStart=>exact⟨0,_,0,[],d1,A2,c2,P2,cp2,1,0,by omega,rfl,rfl,by rw[bO,fK];rfl,rfl,by
       have h:=HL0.out;rw[bO,fK]at h ⊢;exact h,af (fun i x s _ h=>by cases h),HGd,HLf,V8,K8_z⟩
      case round =>
       clear HL0 HGd HLf V8 K8_z;obtain⟨k,A1,c1,rs,d1,A2,c2,P2,cp2,act,uu,hk,rfl,rfl,rfl,hrk,HL,HQ,HGd,HLf,V8,K⟩:=hrel;have hLk:((ls.take k).flatten).length≤40:=by
        have h1:=flat_le2 10 (ls.take k) fun x hx=>HS.out.2.2.2 x (dZ hx)
        have h2:(ls.take k).length≤4:=by rw[aH];omega
        omega
       by_cases hlt:k<ls.length
       ·have hlt':(k:Int)<(ls.length:Int):=by omega
        obtain⟨x,hx⟩:∃x,ls[k]?=some x:=⟨_,au hlt⟩;obtain⟨bx,ox,Ax,cx,rfl,Vt,aay⟩:=HG.out.get hx;have q0:=dO K.out _ _ _ Vt;have HX0:=af aay;have uJ:=aay.keep (dO K.out);have hxl:=HS.out.2.2.2 x (aV hx);have HFN:Hid ((ls.take (k+1)).flatten=(ls.take k).flatten++x):=by show _=_;rw[take_snoc' hx];simp
        have HXX:=af hx;obtain⟨L,hL⟩:∃L,L=(ls.take k).flatten:=⟨_,rfl⟩;have ZA:=af hL;rw[←hL]at HL HFN hLk ⊢;have CP:=af (tq wr _ _ _ p x L (HP.out.keep (dO K.out)) uJ HL.out HS.out.1 fZ fZ fZ );clear hL uJ hx Vt aay;go_wp2_with fail;refine CP.out.mono ?_;intro e w9 he;obtain⟨s,f,rfl,om,hok⟩:=he.two;have Vj:=af hok;have K9:=(hTr K om);have V9_z:=af (V8.out.keep om);have L9_z:=af (HL.out.keep (dO om));clear CP he hok om K V8 HL q0;by_cases hf:f=0
        ·subst hf;obtain⟨ho,hg⟩:=Vj.out rfl;rw[ZA.out]at ho hg;have Uw:Hid (PkQ p ls (rs++[s])):=pkq_snoc HQ.out hrk HXX.out ho hg;clear Vj ho hg HQ HXX ZA;by_cases hia:k<acts.length
         ·have hia':(k:Int)<(acts.length:Int):=by omega
          obtain⟨bz,oz,rA,rc,iA,ic,rfl,z0,z1,z2,z3,hap⟩:=HZ.out.get hia;generalize acts[k]=akq at *;have HAP:=af hap;have HZ3:=af z3;have y2:=dO K9.out _ _ _ z2;clear z0 z1 z2 z3 hap;by_cases hlf:0≤akq.left
          ·have hm200:0≤akq.left%200∧akq.left%200<200:=by omega
           have HG5:=af (NG HGd.out (akq.left%200) fZ );obtain⟨q0,q1,q2,q3,r0,r1,r2,r3⟩:=V9_z.out.facts;have VC:=af (V9_z.out.left (akq.left%200) fZ fZ );have LC_z:=af (dgs_nou L9_z.out V9_z.out.blk dk_nou (gG w9 g 3 (.int .i64 (akq.left%200))));have KC:=af (K9.out.setCell (p:=⟨g,3,none⟩) hltg (.int .i64 (akq.left%200)));clear HGd HLf;go_upto_region 15 with (fail);clear q0 q1 q2 q3 r0 r1 r2 r3 V9_z L9_z K9 y2 hm200;generalize w9.setCell ⟨g,3,none⟩ (.int .i64 (akq.left%200))=wc at *;generalize ({ d1 with left:=akq.left%200 }:Dk)=d5 at *;obtain⟨q0,q1,q2,q3,_⟩:=VC.out.facts
           have ht:=Oy wc s;have Va:=VC.out.alloc (.cells #[.string (fu s)] 9);have CW:=Ls _ _ _ d5 Va.dk (by rw[HG5.out.p];simp) (some ⟨wc.heap.size,0,none⟩) 1 [s] ht;have HOU:Hid (Out d5 rs (rs++[s]) (qa d5 [s])):=OY HG5.out [s];have hpn:=Tz HG5.out [s];generalize qa d5 [s]=y at *;obtain⟨d4,n4⟩:=y;simp only at CW hpn;have CW:=af CW;have LA_z:=af (LC_z.out.keep (Keeps.alloc wc (.cells #[.string (fu s)] 9)));have KA:=af (KC.out.alloc KC.out.size (.cells #[.string (fu s)] 9));clear ht LC_z KC;go_wp2_with fail;refine CW.out.mono ?_
           rintro e wd ⟨vs4,vp4,rfl,hD4,hb4⟩;obtain⟨A4,c4,P4,cp4,rfl,rfl,_,_,_,_⟩:=hD4.form;have VN_z:=af (Var.new hD4);have Vb_z:=Va.keep hb4;have hgw:=Vb_z.blk.lt;have V7_z:=af (Vb_z.alloc (.cells #[.int .i64 d4.size,.slice A4 d4.secs.length c4,.slice P4 d4.pend.length cp4,.int .i64 d4.left] 56));have KD:=KA.out.trans (hb4.mono KA.out.size);have LD_z:=af ((LA_z.out.keep (dO hb4)).keep (Keeps.alloc wd (.cells #[.int .i64 d4.size,.slice A4 d4.secs.length c4,.slice P4 d4.pend.length cp4,.int .i64 d4.left] 56)));have KD:=af (KD.alloc KD.size (.cells #[.int .i64 d4.size,.slice A4 d4.secs.length c4,.slice P4 d4.pend.length cp4,.int .i64 d4.left] 56))
           clear CW hb4 hD4 LA_z KA Va Vb_z VC q0 q1 q2 q3;go_upto_region 16 with (fail);generalize wd.alloc (.cells #[.int .i64 d4.size,.slice A4 d4.secs.length c4,.slice P4 d4.pend.length cp4,.int .i64 d4.left] 56)=we at *;generalize wd.heap.size=gn at *;by_cases XQ:n4=0
           ·
            subst XQ;have hgd:∃a' u',Good d4 a' (rs++[s]) u':=by
             cases HOU.out with
             |ok d' a' u' hg hl hs=>exact⟨a',u',hg⟩
             |bad _ he=>simp at he
            obtain⟨a',u',hg4⟩:=hgd;have HG4:=af (NG hg4 (-1) fZ );obtain⟨p0,p1,p2,p3,_⟩:=VN_z.out.facts;obtain⟨t0,t1,t2,t3,r0,r1,r2,r3⟩:=V7_z.out.facts;have VX:=V7_z.out.assign VN_z.out.dk;have LX_z:=dgs_put4 (A:=A4) (c:=c4) (P:=P4) (cp:=cp4) (d:=d4) LD_z.out V7_z.out;have KX:=jU (A:=A4) (c:=c4) (P:=P4) (cp:=cp4) (d:=d4) KD.out hltg;clear HOU hg4 HG5;go_upto_region 23 with (fail);change Code.wp _ _ _ _ (mE we g A4 c4 P4 cp4 d4);clear t0 t1 t2 t3 r0 r1 r2 r3 p0 p1 p2 p3 VN_z V7_z LD_z KD;generalize mE we g A4 c4 P4 cp4 d4=wf at *;obtain⟨t0,t1,t2,t3,r0,r1,r2,r3⟩:=VX.facts;have VL_z:=af (VX.left (-1) fZ fZ )
            have LL:=af (dgs_nou LX_z VX.blk dk_nou (gG wf g 3 (.int .i64 (-1))));have KL:=af (KX.setCell (p:=⟨g,3,none⟩) hltg (.int .i64 (-1)));clear LX_z KX;go_upto_region 24 with (fail);clear t0 t1 t2 t3 r0 r1 r2 r3 VX;generalize wf.setCell ⟨g,3,none⟩ (.int .i64 (-1))=wh at *;have hal:=(ah wh.heap.size wh).alloc (ak _) (.cells #[] 39);have LA_z:=af (LL.out.keep (dO hal));have KH_z:=af (KL.out.alloc KL.out.size (.cells #[] 39));have hbs:W.heap.size≤wh.heap.size:=KL.out.size;have hown:=Bj wh 39 2
            clear hal;have hdl:(L.flatMap rq).length=L.length*2:=lU Dn L;have aan:(x.flatMap rq).length=x.length*2:=lU Dn x;go_wp2_with (first
             |(at_builtin;refine iE _ rfl (.tmp 129) (.tmp 130) 27 rfl wh.heap.size 39 i1 _ 2 16 underlying27 hi1 hy0 hy1 hy2 rfl fZ (.slice (some ⟨wh.heap.size,0,none⟩) 0 0) 0 _ rfl hown _ L.length _ (L.flatMap rq) rfl hdl (tu LA_z.out) (zY L) fZ fZ gu ?_;intro v5 w5 hown5 hgr5 _;simp only[bH,aO]at hown5;obtain⟨A5,c5,rfl⟩:=iw hown5)
             |(at_builtin;refine iE _ rfl (.tmp 131) (.tmp 132) 27 rfl wh.heap.size 39 i1 _ 2 16 underlying27 hi1 hy0 hy1 hy2 rfl fZ (.slice A5 L.length c5) L.length _ rfl hown5 _ x.length _ (x.flatMap rq) rfl aan (tu (HX0.out.keep (dO (KH_z.out.grown hgr5 KH_z.out.size (fun q e=>by cases e;exact hbs))))) (zY x) fZ fZ (by have:=hgr5.size;simp at this;omega) ?_;intro v6 w6 hown6 aaz _;obtain⟨A6,c6,rfl⟩:=iw hown6))
            have K4:Below wh.heap.size wh w6:=(((ah wh.heap.size wh).alloc (ak _) (.cells #[] 39)).grown hgr5 gu (fun q e=>by cases e;exact ak _)).grown aaz (by have:=hgr5.size;simp at this;omega) (fun q e=>(hown5.lt q e).1);have K6_z:=(hTr KL K4);have V6:=af (VL_z.out.keep K4);have HA6:Hid (qi w6 (.slice A6 (L++x).length c6) (L++x)):=by
             rw[←aZ,←aj]at hown6;exact ze hown6
            rw[←aj];rw[←HFN.out]at HA6 ⊢;clear hown hown5 hown6 hgr5 aaz K4 VL_z LL KL LA_z KH_z hbs HFN;go_roundw
            case rel=>exact⟨k+1,A6,c6,rs++[s],{ d4 with left:=-1 },A4,c4,P4,cp4,a',u',by omega,by go_num,by go_num,rfl,by simp[hrk],HA6,Uw,HG4,rfl,V6,K6_z⟩
            case measure=>simp[intOf];omega
           ·by_cases hn20:n4=20
            ·subst hn20;have hL:Gt d4 fun y=>y=rs∨y=rs++[s]:=by
              cases HOU.out with
              |lost d' hL h0 hl hs=>exact hL
              |bad _ he=>simp at he
             obtain⟨rr,hrr,hr2⟩:=cut_rec2 hL akq.ps;have HRR:=af hrr;have hrl:k≤rr.length∧rr.length≤k+1:=by
              rcases hr2 with rfl|rfl
              ·omega
              ·simp;omega
             have HQ2:Hid (PkQ p ls rr):=by
              rcases hr2 with rfl|rfl
              ·show PkQ _ _ _;exact fun i x' s' h1 h2=>Uw.out i x' s' h1 (by rw[aY (ay.1 h2).1];exact h2)
              ·exact Uw
             obtain⟨p0,p1,p2,p3,_⟩:=VN_z.out.facts;obtain⟨t0,t1,t2,t3,r0,r1,r2,r3⟩:=V7_z.out.facts;have VX:=V7_z.out.assign VN_z.out.dk;have KX:=jU (A:=A4) (c:=c4) (P:=P4) (cp:=cp4) (d:=d4) KD.out hltg;clear HOU hL hrr hr2;go_upto_region 20 with (fail);change Code.wp _ _ _ _ (mE we g A4 c4 P4 cp4 d4);clear t0 t1 t2 t3 r0 r1 r2 r3 p0 p1 p2 p3 VN_z V7_z KD LD_z;generalize mE we g A4 c4 P4 cp4 d4=wf at *;have k8:=(ah wf.heap.size wf).drew;have VY_z:=af (VX.keep k8);have KY_z:=af (KX.trans (k8.mono KX.size));have hdl:d4.pend.length≤100000:=by omega
             go_upto_region 21 with (fail);have HS0:wf.drew.cell? ⟨g,0,none⟩=some (.int .i64 d4.size)∧wf.drew.cell? ⟨g,1,none⟩=some (.slice A4 d4.secs.length c4)∧wf.drew.cell? ⟨g,2,none⟩=some (.slice P4 d4.pend.length cp4)∧wf.drew.cell? ⟨g,3,none⟩=some (.int .i64 d4.left)∧wf.drew.cell? ⟨bz,oz+k*4+3,none⟩=some (.slice iA akq.ps.length ic):=by
              obtain⟨t0,t1,t2,t3,_⟩:=VY_z.out.facts;exact⟨t0,t1,t2,t3,dO KY_z.out _ _ _ HZ3.out⟩
             refine nN (S:=fun w'=>w'.cell? ⟨g,0,none⟩=some (.int .i64 d4.size)∧w'.cell? ⟨g,1,none⟩=some (.slice A4 d4.secs.length c4)∧w'.cell? ⟨g,2,none⟩=some (.slice P4 d4.pend.length cp4)∧w'.cell? ⟨g,3,none⟩=some (.int .i64 d4.left)∧w'.cell? ⟨bz,oz+k*4+3,none⟩=some (.slice iA akq.ps.length ic)) gB HS0 6 ?_;clear HS0 k8 VX KX;generalize wf.drew=wg at *;refine jr 0 [] ?_;refine gP 1 ?_;refine gP 2 ?_;refine gP 3 ?_;refine gP 4 ?_;refine jr 5 [] ?_;have CC:=af (WV wg _ _ _ d4 VY_z.out.dk hdl akq.ps (HAP.out.keep (dO KY_z.out)).ps)
             refine kF.lt 6 ?_;intro K hK;go_simp;refine CC.out.mono ?_;rintro e wi ⟨vs5,vp5,rfl,hD5,hb5⟩;obtain⟨A5,c5,P5,cp5,rfl,rfl,_,_,_,_⟩:=hD5.form;have V5:=VY_z.out.keep hb5;have VZ:=V5.assign hD5;have KZ:=jU (A:=A5) (c:=c5) (P:=P5) (cp:=cp5) (d:=vw d4 akq.ps) (KY_z.out.trans (hb5.mono KY_z.out.size)) hltg;obtain⟨t0,t1,t2,t3,r0,r1,r2,r3⟩:=V5.facts;refine hK _ _ ?_;clear hK K CC hb5 hD5;refine kF.lt 7 ?_;intro K hK;go_simp;refine hK _ _ (iP ?_);clear hK K;change Exit.then _ _ _ _ (mE wi g A5 c5 P5 cp5 (vw d4 akq.ps));clear t0 t1 t2 t3 r0 r1 r2 r3 V5 VY_z KY_z;generalize mE wi g A5 c5 P5 cp5 (vw d4 akq.ps)=wj at *
             go_wp2;go_meet;exact⟨k,rr,vw d4 akq.ps,A5,c5,P5,cp5,rfl,hrl.1,hrl.2,by omega,HQ2.out,HRR.out,VZ,KZ⟩
            ·have hk1:(n4 != 0)=true:=by simpa using XQ
             have hk2:(n4 != 20)=true:=by simpa using hn20
             clear HOU;go_wp2_with fail;refine(CA.out we).mono ?_;rintro e wZ ⟨rfl,Mr⟩;have U6:=(hTr KD Mr);clear Mr;go_wp2;go_ret;exact⟨rfl,U6.out⟩
          ·have HG5:=HGd;have HL5:=HLf;have VC:=V9_z;have LC_z:=L9_z;have KC:=K9;clear HGd HLf V9_z L9_z K9;go_upto_region 15 with (fail);clear y2;generalize d1=d5 at *;obtain⟨q0,q1,q2,q3,_⟩:=VC.out.facts;have ht:=Oy w9 s;have Va:=VC.out.alloc (.cells #[.string (fu s)] 9);have CW:=Ls _ _ _ d5 Va.dk (by rw[HG5.out.p];simp) (some ⟨w9.heap.size,0,none⟩) 1 [s] ht;have HOU:Hid (Out d5 rs (rs++[s]) (qa d5 [s])):=OY HG5.out [s];have hpn:=Tz HG5.out [s];generalize qa d5 [s]=y at *;obtain⟨d4,n4⟩:=y;simp only at CW hpn;have CW:=af CW;have LA_z:=af (LC_z.out.keep (Keeps.alloc w9 (.cells #[.string (fu s)] 9)))
           have KA:=af (KC.out.alloc KC.out.size (.cells #[.string (fu s)] 9));clear ht LC_z KC;go_wp2_with fail;refine CW.out.mono ?_;rintro e wd ⟨vs4,vp4,rfl,hD4,hb4⟩;obtain⟨A4,c4,P4,cp4,rfl,rfl,_,_,_,_⟩:=hD4.form;have VN_z:=af (Var.new hD4);have Vb_z:=Va.keep hb4;have hgw:=Vb_z.blk.lt;have V7_z:=af (Vb_z.alloc (.cells #[.int .i64 d4.size,.slice A4 d4.secs.length c4,.slice P4 d4.pend.length cp4,.int .i64 d4.left] 56));have KD:=KA.out.trans (hb4.mono KA.out.size);have LD_z:=af ((LA_z.out.keep (dO hb4)).keep (Keeps.alloc wd (.cells #[.int .i64 d4.size,.slice A4 d4.secs.length c4,.slice P4 d4.pend.length cp4,.int .i64 d4.left] 56)))
           have KD:=af (KD.alloc KD.size (.cells #[.int .i64 d4.size,.slice A4 d4.secs.length c4,.slice P4 d4.pend.length cp4,.int .i64 d4.left] 56));clear CW hb4 hD4 LA_z KA Va Vb_z VC q0 q1 q2 q3;go_upto_region 16 with (fail);generalize wd.alloc (.cells #[.int .i64 d4.size,.slice A4 d4.secs.length c4,.slice P4 d4.pend.length cp4,.int .i64 d4.left] 56)=we at *;generalize wd.heap.size=gn at *;by_cases XQ:n4=0
           ·
            subst XQ;have hgd:∃a' u',Good d4 a' (rs++[s]) u':=by
             cases HOU.out with
             |ok d' a' u' hg hl hs=>exact⟨a',u',hg⟩
             |bad _ he=>simp at he
            obtain⟨a',u',hg4⟩:=hgd;have HG4:=af (NG hg4 (-1) fZ );obtain⟨p0,p1,p2,p3,_⟩:=VN_z.out.facts;obtain⟨t0,t1,t2,t3,r0,r1,r2,r3⟩:=V7_z.out.facts;have VX:=V7_z.out.assign VN_z.out.dk;have LX_z:=dgs_put4 (A:=A4) (c:=c4) (P:=P4) (cp:=cp4) (d:=d4) LD_z.out V7_z.out;have KX:=jU (A:=A4) (c:=c4) (P:=P4) (cp:=cp4) (d:=d4) KD.out hltg;clear HOU hg4 HG5;go_upto_region 23 with (fail);change Code.wp _ _ _ _ (mE we g A4 c4 P4 cp4 d4);clear t0 t1 t2 t3 r0 r1 r2 r3 p0 p1 p2 p3 VN_z V7_z LD_z KD;generalize mE we g A4 c4 P4 cp4 d4=wf at *;obtain⟨t0,t1,t2,t3,r0,r1,r2,r3⟩:=VX.facts;have VL_z:=af (VX.left (-1) fZ fZ )
            have LL:=af (dgs_nou LX_z VX.blk dk_nou (gG wf g 3 (.int .i64 (-1))));have KL:=af (KX.setCell (p:=⟨g,3,none⟩) hltg (.int .i64 (-1)));clear LX_z KX;go_upto_region 24 with (fail);clear t0 t1 t2 t3 r0 r1 r2 r3 VX;generalize wf.setCell ⟨g,3,none⟩ (.int .i64 (-1))=wh at *;have hal:=(ah wh.heap.size wh).alloc (ak _) (.cells #[] 39);have LA_z:=af (LL.out.keep (dO hal));have KH_z:=af (KL.out.alloc KL.out.size (.cells #[] 39));have hbs:W.heap.size≤wh.heap.size:=KL.out.size;have hown:=Bj wh 39 2
            clear hal;have hdl:(L.flatMap rq).length=L.length*2:=lU Dn L;have aan:(x.flatMap rq).length=x.length*2:=lU Dn x;go_wp2_with (first
             |(at_builtin;refine iE _ rfl (.tmp 129) (.tmp 130) 27 rfl wh.heap.size 39 i1 _ 2 16 underlying27 hi1 hy0 hy1 hy2 rfl fZ (.slice (some ⟨wh.heap.size,0,none⟩) 0 0) 0 _ rfl hown _ L.length _ (L.flatMap rq) rfl hdl (tu LA_z.out) (zY L) fZ fZ gu ?_;intro v5 w5 hown5 hgr5 _;simp only[bH,aO]at hown5;obtain⟨A5,c5,rfl⟩:=iw hown5)
             |(at_builtin;refine iE _ rfl (.tmp 131) (.tmp 132) 27 rfl wh.heap.size 39 i1 _ 2 16 underlying27 hi1 hy0 hy1 hy2 rfl fZ (.slice A5 L.length c5) L.length _ rfl hown5 _ x.length _ (x.flatMap rq) rfl aan (tu (HX0.out.keep (dO (KH_z.out.grown hgr5 KH_z.out.size (fun q e=>by cases e;exact hbs))))) (zY x) fZ fZ (by have:=hgr5.size;simp at this;omega) ?_;intro v6 w6 hown6 aaz _;obtain⟨A6,c6,rfl⟩:=iw hown6))
            have K4:Below wh.heap.size wh w6:=(((ah wh.heap.size wh).alloc (ak _) (.cells #[] 39)).grown hgr5 gu (fun q e=>by cases e;exact ak _)).grown aaz (by have:=hgr5.size;simp at this;omega) (fun q e=>(hown5.lt q e).1);have K6_z:=(hTr KL K4);have V6:=af (VL_z.out.keep K4);have HA6:Hid (qi w6 (.slice A6 (L++x).length c6) (L++x)):=by
             rw[←aZ,←aj]at hown6;exact ze hown6
            rw[←aj];rw[←HFN.out]at HA6 ⊢;clear hown hown5 hown6 hgr5 aaz K4 VL_z LL KL LA_z KH_z hbs HFN;go_roundw
            case rel=>exact⟨k+1,A6,c6,rs++[s],{ d4 with left:=-1 },A4,c4,P4,cp4,a',u',by omega,by go_num,by go_num,rfl,by simp[hrk],HA6,Uw,HG4,rfl,V6,K6_z⟩
            case measure=>simp[intOf];omega
           ·have hk1:(n4 != 0)=true:=by simpa using XQ
            have hk2:(n4 != 20)=true:=by
             cases HOU.out with
             |ok d' a' u' hg hl hs=>simp at XQ
             |lost d' hL h0 hl hs=>exact absurd HL5.out hl
             |bad _ he=>rcases he with rfl|rfl<;>rfl
            clear HOU;go_wp2_with fail;refine(CA.out we).mono ?_;rintro e wZ ⟨rfl,Mr⟩;have U6:=(hTr KD Mr);clear Mr;go_wp2;go_ret;exact⟨rfl,U6.out⟩
         ·have hia':¬(k:Int)<(acts.length:Int):=by omega
          have HG5:=HGd;have HL5:=HLf;have VC:=V9_z;have LC_z:=L9_z;have KC:=K9;clear HGd HLf V9_z L9_z K9;go_upto_region 15 with (fail);generalize d1=d5 at *;obtain⟨q0,q1,q2,q3,_⟩:=VC.out.facts;have ht:=Oy w9 s;have Va:=VC.out.alloc (.cells #[.string (fu s)] 9);have CW:=Ls _ _ _ d5 Va.dk (by rw[HG5.out.p];simp) (some ⟨w9.heap.size,0,none⟩) 1 [s] ht;have HOU:Hid (Out d5 rs (rs++[s]) (qa d5 [s])):=OY HG5.out [s];have hpn:=Tz HG5.out [s];generalize qa d5 [s]=y at *;obtain⟨d4,n4⟩:=y;simp only at CW hpn;have CW:=af CW;have LA_z:=af (LC_z.out.keep (Keeps.alloc w9 (.cells #[.string (fu s)] 9)))
          have KA:=af (KC.out.alloc KC.out.size (.cells #[.string (fu s)] 9));clear ht LC_z KC;go_wp2_with fail;refine CW.out.mono ?_;rintro e wd ⟨vs4,vp4,rfl,hD4,hb4⟩;obtain⟨A4,c4,P4,cp4,rfl,rfl,_,_,_,_⟩:=hD4.form;have VN_z:=af (Var.new hD4);have Vb_z:=Va.keep hb4;have hgw:=Vb_z.blk.lt;have V7_z:=af (Vb_z.alloc (.cells #[.int .i64 d4.size,.slice A4 d4.secs.length c4,.slice P4 d4.pend.length cp4,.int .i64 d4.left] 56));have KD:=KA.out.trans (hb4.mono KA.out.size);have LD_z:=af ((LA_z.out.keep (dO hb4)).keep (Keeps.alloc wd (.cells #[.int .i64 d4.size,.slice A4 d4.secs.length c4,.slice P4 d4.pend.length cp4,.int .i64 d4.left] 56)))
          have KD:=af (KD.alloc KD.size (.cells #[.int .i64 d4.size,.slice A4 d4.secs.length c4,.slice P4 d4.pend.length cp4,.int .i64 d4.left] 56));clear CW hb4 hD4 LA_z KA Va Vb_z VC q0 q1 q2 q3;go_upto_region 16 with (fail);generalize wd.alloc (.cells #[.int .i64 d4.size,.slice A4 d4.secs.length c4,.slice P4 d4.pend.length cp4,.int .i64 d4.left] 56)=we at *;generalize wd.heap.size=gn at *;by_cases XQ:n4=0
          ·
           subst XQ;have hgd:∃a' u',Good d4 a' (rs++[s]) u':=by
            cases HOU.out with
            |ok d' a' u' hg hl hs=>exact⟨a',u',hg⟩
            |bad _ he=>simp at he
           obtain⟨a',u',hg4⟩:=hgd;have HG4:=af (NG hg4 (-1) fZ );obtain⟨p0,p1,p2,p3,_⟩:=VN_z.out.facts;obtain⟨t0,t1,t2,t3,r0,r1,r2,r3⟩:=V7_z.out.facts;have VX:=V7_z.out.assign VN_z.out.dk;have LX_z:=dgs_put4 (A:=A4) (c:=c4) (P:=P4) (cp:=cp4) (d:=d4) LD_z.out V7_z.out;have KX:=jU (A:=A4) (c:=c4) (P:=P4) (cp:=cp4) (d:=d4) KD.out hltg;clear HOU hg4 HG5;go_upto_region 23 with (fail);change Code.wp _ _ _ _ (mE we g A4 c4 P4 cp4 d4);clear t0 t1 t2 t3 r0 r1 r2 r3 p0 p1 p2 p3 VN_z V7_z LD_z KD;generalize mE we g A4 c4 P4 cp4 d4=wf at *;obtain⟨t0,t1,t2,t3,r0,r1,r2,r3⟩:=VX.facts;have VL_z:=af (VX.left (-1) fZ fZ )
           have LL:=af (dgs_nou LX_z VX.blk dk_nou (gG wf g 3 (.int .i64 (-1))));have KL:=af (KX.setCell (p:=⟨g,3,none⟩) hltg (.int .i64 (-1)));clear LX_z KX;go_upto_region 24 with (fail);clear t0 t1 t2 t3 r0 r1 r2 r3 VX;generalize wf.setCell ⟨g,3,none⟩ (.int .i64 (-1))=wh at *;have hal:=(ah wh.heap.size wh).alloc (ak _) (.cells #[] 39);have LA_z:=af (LL.out.keep (dO hal));have KH_z:=af (KL.out.alloc KL.out.size (.cells #[] 39));have hbs:W.heap.size≤wh.heap.size:=KL.out.size;have hown:=Bj wh 39 2;clear hal
           have hdl:(L.flatMap rq).length=L.length*2:=lU Dn L;have aan:(x.flatMap rq).length=x.length*2:=lU Dn x;go_wp2_with (first
            |(at_builtin;refine iE _ rfl (.tmp 129) (.tmp 130) 27 rfl wh.heap.size 39 i1 _ 2 16 underlying27 hi1 hy0 hy1 hy2 rfl fZ (.slice (some ⟨wh.heap.size,0,none⟩) 0 0) 0 _ rfl hown _ L.length _ (L.flatMap rq) rfl hdl (tu LA_z.out) (zY L) fZ fZ gu ?_;intro v5 w5 hown5 hgr5 _;simp only[bH,aO]at hown5;obtain⟨A5,c5,rfl⟩:=iw hown5)
            |(at_builtin;refine iE _ rfl (.tmp 131) (.tmp 132) 27 rfl wh.heap.size 39 i1 _ 2 16 underlying27 hi1 hy0 hy1 hy2 rfl fZ (.slice A5 L.length c5) L.length _ rfl hown5 _ x.length _ (x.flatMap rq) rfl aan (tu (HX0.out.keep (dO (KH_z.out.grown hgr5 KH_z.out.size (fun q e=>by cases e;exact hbs))))) (zY x) fZ fZ (by have:=hgr5.size;simp at this;omega) ?_;intro v6 w6 hown6 aaz _;obtain⟨A6,c6,rfl⟩:=iw hown6))
           have K4:Below wh.heap.size wh w6:=(((ah wh.heap.size wh).alloc (ak _) (.cells #[] 39)).grown hgr5 gu (fun q e=>by cases e;exact ak _)).grown aaz (by have:=hgr5.size;simp at this;omega) (fun q e=>(hown5.lt q e).1);have K6_z:=(hTr KL K4);have V6:=af (VL_z.out.keep K4);have HA6:Hid (qi w6 (.slice A6 (L++x).length c6) (L++x)):=by
            rw[←aZ,←aj]at hown6;exact ze hown6
           rw[←aj];rw[←HFN.out]at HA6 ⊢;clear hown hown5 hown6 hgr5 aaz K4 VL_z LL KL LA_z KH_z hbs HFN;go_roundw
           case rel=>exact⟨k+1,A6,c6,rs++[s],{ d4 with left:=-1 },A4,c4,P4,cp4,a',u',by omega,by go_num,by go_num,rfl,by simp[hrk],HA6,Uw,HG4,rfl,V6,K6_z⟩
           case measure=>simp[intOf];omega
          ·have hk1:(n4 != 0)=true:=by simpa using XQ
           have hk2:(n4 != 20)=true:=by
            cases HOU.out with
            |ok d' a' u' hg hl hs=>simp at XQ
            |lost d' hL h0 hl hs=>exact absurd HL5.out hl
            |bad _ he=>rcases he with rfl|rfl<;>rfl
           clear HOU;go_wp2_with fail;refine(CA.out we).mono ?_;rintro e wZ ⟨rfl,Mr⟩;have U6:=(hTr KD Mr);clear Mr;go_wp2;go_ret;exact⟨rfl,U6.out⟩
        ·have hkb:(f != 0)=true:=by simpa using hf
         go_wp2_with fail;refine(CA.out w9).mono ?_;rintro e wZ ⟨rfl,Mr⟩;have U6:=(hTr K9 Mr);clear Mr;go_wp2;go_ret;exact⟨rfl,U6.out⟩
       ·obtain rfl:k=ls.length:=by omega
        have hlt':¬(ls.length:Int)<(ls.length:Int):=by omega
        go_wp2;go_meet;exact⟨ls.length,rs,d1,A2,c2,P2,cp2,rfl,by omega,by omega,by omega,HQ.out,HGd.out.opn.FH,V8.out,K.out⟩
     case rest =>
      clear V8 K8_z HL0 HGd HLf HF;obtain⟨k,r,dd,A2,c2,P2,cp2,rfl,hk1,hk2,hk3,hpq,hrec,V,K⟩:=hcut;have CR:=Lj wc _ _ dd V.dk;rw[hrec]at CR;have CR:=af CR;obtain⟨q0,q1,q2,q3,_⟩:=V.facts;have HPQ:=af hpq;have KC:=af K;have hh1:¬(r.length:Int)<(k:Int):=by omega
      have hh2:¬(k:Int)+1<(r.length:Int):=by omega
      have hh3:¬(ls.length:Int)<(r.length:Int):=by omega
      clear hpq hrec K;go_wp2_with fail;refine CR.out.mono ?_;rintro e wd ⟨vB,rfl,htB,hbB⟩;simp only at htB;obtain⟨A6,c6,rfl,_,_⟩:=htB.form;have TR_z:=af htB;have KD:=(hTr KC hbB);clear CR htB hbB V KC q0 q1 q2 q3;go_upto_region 27 with (fail);go_cut [165] (fun q wx=>q=.bool false∧Below wd.heap.size wd wx)
      case first =>
       go_wp2;go_meet;exact⟨by first|rfl|(simp;omega),ah _ _⟩
      case rest =>
      obtain⟨rfl,hbq⟩:=hcut;replace TR_z:=af (TR_z.out.keep (dO hbq));replace KD:=(hTr KD hbq);clear hbq;have k1:=(ah wc.heap.size wc).alloc (ak _) (.cells #[] 74);have HV0:Hid (og ((wc.alloc (.cells #[] 74)).alloc (.cells #[] 39)) (.slice (some ⟨wc.heap.size,0,none⟩) 0 0) (jI p (ls.take 0).flatten)):=by
       show og _ _ _;rw[bO,fK,vR];exact⟨_,0,[],rfl,ak _,by unfold maxLen;omega,fun k u hu=>by simp at hu,rfl⟩
      have ho0:=o9 (Bj (wc.alloc (.cells #[] 74)) 39 2) (show wc.heap.size≤(wc.alloc (.cells #[] 74)).heap.size by simp);rw[show (wc.alloc (.cells #[] 74)).heap.size=wc.heap.size+1 by simp]at ho0;have HO0:=af ho0;have hn0:=nos_empty (wc.alloc (.cells #[] 74)) 39;rw[show (wc.alloc (.cells #[] 74)).heap.size=wc.heap.size+1 by simp]at hn0;have HN0:=af hn0;clear ho0 hn0;have HB0:=af (k1.alloc k1.size (.cells #[] 39));clear k1
      go_upto_region 31 with (fail);generalize (wc.alloc (.cells #[] 74)).alloc (.cells #[] 39)=we at *;go_loopw [20,21,170] (fun hv av iv wr=>∃(j:Nat) (A1:Option Addr) (c1:Nat) (A3:Option Addr) (c3:Nat),j≤r.length∧iv=.int .i64 j∧hv=.slice A1 (jI p (ls.take j).flatten).length c1∧av=.slice A3 (ls.take j).flatten.length c3∧Hid (og wr (.slice A1 (jI p (ls.take j).flatten).length c1) (jI p (ls.take j).flatten))∧Hid (wr.ownsRow wc.heap.size 39 2 (.slice A3 (ls.take j).flatten.length c3) (ls.take j).flatten.length ((ls.take j).flatten.flatMap rq))∧Hid (NoS wr (.slice A3 (ls.take j).flatten.length c3)∧∃ga,A3=some ⟨ga,0,none⟩)∧Hid (Below wc.heap.size wc wr)) (fun _ _ iv _=>r.length-(intOf iv).toNat)
      case atStart=>exact⟨0,_,0,_,0,by omega,rfl,by rw[bO,fK,vR];rfl,by rw[bO,fK];rfl,by
       have h:=HV0.out;rw[bO,fK,vR]at h ⊢;exact h,by
       have h:=HO0.out;rw[bO,fK];exact h,by
       have h:=HN0.out;rw[bO,fK];exact⟨h,_,rfl⟩,HB0⟩
      case round =>
       clear HV0 HO0 HB0 HN0;obtain⟨j,A1,c1,A3,c3,hj,rfl,rfl,rfl,HV,HO,HN,HB⟩:=hrel;obtain⟨hns,ga,rfl⟩:=HN.out;have HN:=af hns;clear hns;have KR_z:=af (KD.out.trans (HB.out.mono KD.out.size));have hLj:((ls.take j).flatten).length≤40:=by
        have h1:=flat_le2 10 (ls.take j) fun x hx=>HS.out.2.2.2 x (dZ hx)
        have h2:(ls.take j).length≤4:=by rw[aH];omega
        omega
       by_cases hlt:j<r.length
       ·have hlt':(j:Int)<(r.length:Int):=by omega
        have hlt2:(j:Int)<(ls.length:Int):=by omega
        obtain⟨x,hx⟩:∃x,ls[j]?=some x:=⟨_,au fZ ⟩;obtain⟨t,ht⟩:∃t,r[j]?=some t:=⟨_,au hlt⟩;obtain⟨ho,hg⟩:=HPQ.out j x t hx ht;obtain⟨bt,ot,rfl,q0⟩:=(TR_z.out.keep (dO HB.out)).get ht;obtain⟨bx,ox,Ax,cx,rfl,q1',uJ⟩:=HG.out.get hx;have hxl:=HS.out.2.2.2 x (aV hx);have HFN:Hid ((ls.take (j+1)).flatten=(ls.take j).flatten++x):=by show _=_;rw[take_snoc' hx];simp
        have HQ1:=af q1';have QO:=af uJ;obtain⟨L,hL⟩:∃L,L=(ls.take j).flatten:=⟨_,rfl⟩;rw[←hL]at HV HO HN HFN hLj ho hg ⊢;have CU:=af (uE wr _ p x L L t HV.out HS.out.1 fZ ho hg (fun b hb=>hb));clear hL hx ht ho hg q1' uJ;go_wp2_with fail;refine CU.out.mono ?_;rintro e w4 ⟨A4,c4,rfl,hp4,hb4⟩;have kY:=(hTr HB hb4);have K4:=(hTr KR_z hb4);have Fv:=af (HO.out.kept (iF hb4) (by simp[Value.ownBlock]));have HN4:=af (HN.out.keep HO.out hb4);have Nc:=af hp4;have q1:=dO K4.out _ _ _ HQ1.out;have HX4:=af (QO.out.keep (dO K4.out));have aan:(x.flatMap rq).length=x.length*2:=lU Dn x
        clear CU hp4 hb4 HV HO HB KR_z q0 HQ1 QO;go_wp2_with (first
         |(at_builtin;refine wpList_append_nos rfl (.tmp 184) (.tmp 188) 27 rfl wc.heap.size 39 i1 _ underlying27 hi1 hy0 hy1 hy2 rfl (fun s hs=>by simp[Value.cells]at hs) ga L.length c3 _ rfl Fv.out HN4.out _ x.length _ (x.flatMap rq) rfl aan (tu HX4.out) (zY x) (dgC_nos x) fZ fZ kY.out.size ?_;rintro v6 w6 hown6 aaz ⟨gb,c9,rfl⟩ hns6))
        have sI:=af (kY.out.grown aaz kY.out.size (fun q e=>(World.ownsRow.lt Fv.out q e).1));have Yj:=af (pls_other Nc.out HN4.out aaz);have HN6:Hid (NoS w6 (.slice (some ⟨gb,0,none⟩) (L.length+x.length) c9)∧∃ga,(some ⟨gb,0,none⟩:Option Addr)=some ⟨ga,0,none⟩):=⟨hns6,gb,rfl⟩;rw[←aj]at hown6 HN6 ⊢;rw[←aZ]at hown6;rw[←HFN.out]at Yj hown6 HN6 ⊢;have HO6:=af hown6;clear hown6 aaz hns6 kY K4 Fv Nc HX4 HFN HN HN4 q1;go_roundw
        case rel=>exact⟨j+1,A4,c4,_,c9,by omega,by go_num,rfl,rfl,Yj,HO6,HN6,sI⟩
        case measure=>simp[intOf];omega
       ·obtain rfl:j=r.length:=by omega
        have hlt':¬(r.length:Int)<(r.length:Int):=by omega
        generalize (ls.take r.length).flatten=L at *;have HL:=af (ze HO.out);have CK:=af (EU wr _ _ p L (HP.out.keep (dO KR_z.out)) HL.out fZ fZ );clear HO HN HB;go_wp2_with fail;refine CK.out.mono ?_;rintro e wi ⟨z,rfl,hz,hbi⟩;obtain⟨Az,cz,rfl,_,_⟩:=hz.form;have CE:=Bw wi _ _ (jI p L) (jI p L) (HV.out.keep (dO hbi)) hz;rw[decide_eq_true rfl]at CE;have CE:=af CE;have KI_z:=(hTr KR_z hbi);clear CK hz hbi KR_z HV HL;go_wp2_with fail;refine CE.out.mono ?_;rintro e wj ⟨rfl,hbj⟩;have KJ_z:=af (KI_z.out.trans ((hbj.below _).mono KI_z.out.size));clear CE hbj KI_z
        go_wp2_with fail;refine(CA.out wj).mono ?_;rintro e wZ ⟨rfl,Mr⟩;have U6:=(hTr KJ_z Mr);clear Mr;go_wp2;go_ret;exact⟨rfl,U6.out⟩
  ·have h5a:(4:Int)<(acts.length:Int):=by omega
   go_wp2_with fail;refine(CA.out W).mono ?_;rintro e wZ ⟨rfl,Mr⟩;have U6:=(hTr K0 Mr);clear Mr;go_wp2;go_ret;exact⟨rfl,U6.out⟩
 ·have h4a:(4:Int)<(ls.length:Int):=by omega
  go_wp2_with fail;refine(CA.out W).mono ?_;rintro e wZ ⟨rfl,Mr⟩;have U6:=(hTr K0 Mr);clear Mr;go_wp2;go_ret;exact⟨rfl,U6.out⟩
end Go.Proofs.YtichfhpgdhdiaaaGreat
