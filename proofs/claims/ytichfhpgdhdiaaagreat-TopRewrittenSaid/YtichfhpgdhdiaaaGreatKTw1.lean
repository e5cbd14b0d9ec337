/- Top: TopRewritten, the law. -/
import Derived.Test.YtichfhpgdhdiaaaGreatJ46
import Derived.Test.YtichfhpgdhdiaaaGreatJ3
import Derived.Test.YtichfhpgdhdiaaaGreatKSJw
import Derived.Test.YtichfhpgdhdiaaaGreatKSJoD
set_option maxRecDepth 100000
set_option maxHeartbeats 8000000
set_option linter.unusedVariables false
set_option linter.unusedSimpArgs false
open Go.Proofs.Tryz
namespace Go.Proofs.YtichfhpgdhdiaaaGreat
open Go.RowKit
theorem acts_one(w:World){rA iA:Option Addr}{rc ic:Nat}{a:uw}(h:Xr w rA rc iA ic a):NW (w.alloc (.cells #[.int .i64 a.kind,.slice rA a.recs.length rc,.int .i64 a.left,.slice iA a.ps.length ic] 62)) (.slice (some ⟨w.heap.size,0,none⟩) 1 1) [a] :=
 ⟨_,1,[.int .i64 a.kind,.slice rA a.recs.length rc,.int .i64 a.left,.slice iA a.ps.length ic],rfl,ak _,by unfold maxLen;omega,by simpa using gY w #[.int .i64 a.kind,.slice rA a.recs.length rc,.int .i64 a.left,.slice iA a.ps.length ic] 62 (0,0),
  jF.one ⟨_,_,rfl,h.recs.keep (Keeps.alloc _ _),h.ps.keep (Keeps.alloc _ _),⟨h.k0,h.k1⟩,h.l0,h.l1⟩ rfl⟩
theorem lds1{w:World}{A0:Option Addr}{c0:Nat}{a:List Dg}(h0:qi w (.slice A0 a.length c0) a)(t:TypeId):
  Ru (w.alloc (.cells #[.slice A0 a.length c0] t)) (.slice (some ⟨w.heap.size,0,none⟩) 1 1) [a] :=
 ⟨_,1,[.slice A0 a.length c0],rfl,ak _,by unfold maxLen;omega,by simpa using gY w #[.slice A0 a.length c0] t (0,0),
  [.slice A0 a.length c0],[],rfl,rfl,⟨A0,c0,rfl,h0.keep (Keeps.alloc _ _)⟩,rfl⟩
theorem PkE.one{p:List It}{l base:List Dg}{w0 w:World}{e:Ending}(h:PkE p l base w0 e w):
  ∃(s:List UInt8) (k:Int),e=.returned (.tuple #[.string (fu s),.int .i64 k])∧Below w0.heap.size w0 w∧(k=0→xB p l base∧YK p l base s)∧(k≠0→s = []):=by
 obtain⟨hb,⟨ho,s,hg,rfl⟩|⟨hn,k,hk,rfl⟩⟩:=h
 ·exact⟨s,0,rfl,hb,fun _=>⟨ho,hg⟩,fun h=>absurd rfl h⟩
 ·exact⟨[],k,rfl,hb,fun h=>absurd h hk,fun _=>rfl⟩
theorem txs_nostr{w w':World}{g:Nat}{cs:Array Value}{A:Option Addr}{c:Nat}{t:TypeId}{l:List iX}(h:vY w (.slice A l.length c) l)(hb:gV w g t cs)(hn:∀(k:Nat) s,cs[k]?≠some (Value.string s))(hg:w.grownBy w' (some g)):vY w' (.slice A l.length c) l:=by
 have hk:vY w (.slice A l.length c) l:=h;have hc:=txs_one h;obtain⟨A',c',us,e,h1,h2,_,he⟩:=h;injection e with e1 e2 e3;subst e1 e3;refine⟨A,c,(l.map fu).map .string,by rw[cZ],h1,h2,fun k x hx=>?_,Ee _⟩;rw[List.map_map]at hx;obtain⟨b,off,rfl,hy⟩:=hc k x hx;refine⟨b,off,rfl,uN hg (fun e=>?_) hy⟩;subst e;obtain⟨t0,_,rfl⟩:∃t0,l[k]?=some t0∧x=.string (fu t0):=by
  rw[fG]at hx;cases hl:l[k]? with
  |none=>rw[hl]at hx;cases hx
  |some t0=>rw[hl]at hx;exact⟨t0,rfl,(aB hx).symm⟩
 unfold World.cell? at hy;simp only[show w.heap[b]?=_ from hb]at hy;exact hn _ _ hy
theorem dk_nostr{z l:Int}{A P:Option Addr}{n c m cp:Nat}:∀(k:Nat) s,(#[Value.int .i64 z,.slice A n c,.slice P m cp,.int .i64 l]:Array Value)[k]?≠some (Value.string s):=fun k s=>by
 match k with
 |0=>simp
 |1=>simp
 |2=>simp
 |3=>simp
 |k+4=>simp
theorem txs_put4{w:World}{g:Nat}{A0 P0 A P B:Option Addr}{c0 cp0 c cp e:Nat}{d0 d:Dk}{l:List iX}(h:vY w (.slice B l.length e) l)(V:Var w g A0 c0 P0 cp0 d0):vY (mE w g A c P cp d) (.slice B l.length e) l :=
 txs_nostr h V.blk dk_nostr ((((gG w g 0 (.int .i64 d.size)).trans (gG _ g 1 (.slice A d.secs.length c))).trans (gG _ g 2 (.slice P d.pend.length cp))).trans (gG _ g 3 (.int .i64 d.left)))
theorem cut_rec{d:Dk}{P:List iX→Prop}(h:Gt d P)(ps:List Int):∃r,vG (vw d ps)=(r,0)∧P r:=by
 obtain⟨act,r,u,hg,hP,_⟩:=h.cut ps;exact⟨r,hg.opn.FH,hP⟩
def RwA(n:Int)(R old:List iX)(s:iX)(i:Int):Prop:=(n=0→i=0∧R = [s])∧(n=20→i=0∧(R=old∨R = [s]))
theorem out_rwa{d:Dk}{old:List iX}{s:iX}{x:Dk×Int}(h:Out d old [s] x)(ps:List Int):RwA x.2 (vG (vw x.1 ps)).1 old s (vG (vw x.1 ps)).2:=by
 cases h with
 |ok d' act u hg hl hs =>
  obtain⟨r,e,hr⟩:=cut_rec (hg.left (P:=fun x=>x = [s]) rfl) ps;rw[e];exact⟨fun _=>⟨rfl,hr⟩,fun h=>by cases h⟩
 |lost d' hL h0 hl hs =>
  obtain⟨r,e,hr⟩:=cut_rec hL ps;rw[e];exact⟨fun h=>(by cases h),fun _=>⟨rfl,hr⟩⟩
 |bad e he=>exact⟨fun h=>by subst h;simp at he,fun h=>by subst h;simp at he⟩
def PkL(p:List It)(R:List iX)(ms:List (List Dg)):Prop:=ms.length=R.length∧∀(i:Nat) m s,ms[i]?=some m→R[i]?=some s→xB p m []∧YK p m [] s
theorem pkl_one{p:List It}{l:List Dg}{s:iX}(h1:xB p l [])(h2:YK p l [] s):PkL p [s] [l]:=by
 refine⟨rfl,fun i m t hm ht=>?_⟩
 match i with
 |0 =>
  obtain rfl:=aB hm;obtain rfl:=aB ht;exact⟨h1,h2⟩
 |i+1=>cases hm
theorem okpk_one{p:List It}{l:List Dg}(h:xB p l []){d:Dg}(hd:d∈l):xB p [d] []:=⟨by simp,by simp,fun x hx=>by
 obtain rfl:x=d:=by simpa using hx
 exact h.2.2.1 x hd,fun x hx=>by cases hx⟩
theorem pkl_old{p:List It}{l:List Dg}{L:List iX}(h:xB p l [])(hl:L.length=l.length)(hg:∀(i:Nat) d s,l[i]?=some d→L[i]?=some s→YK p [d] [] s):PkL p L (l.map fun d=>[d]):=⟨by rw[cZ,hl],fun i m s hm hs=>by
 rw[fG]at hm;cases hd:l[i]? with
 |none=>rw[hd]at hm;cases hm
 |some d =>
  rw[hd]at hm;obtain rfl:=aB hm;exact⟨okpk_one h (aV hd),hg i d s hd hs⟩⟩
theorem flat_ones(l:List Dg):(l.map fun d=>[d]).flatten=l:=by induction l with|nil=>rfl|cons x l ih=>rw[dJ,List.flatten_cons,ih];rfl
theorem law_rewritten(W:World)(v u:Value)(p:List It)(l:List Dg)(h:og W v p)(g0:qi W u l)(rA:Option Addr)(rc:Nat)(iA:Option Addr)(ic:Nat)(a:uw)(ha:Xr W rA rc iA ic a):
  Calls prog 6 #[v,u,.agg #[.int .i64 a.kind,.slice rA a.recs.length rc,.int .i64 a.left,.slice iA a.ps.length ic]] W fun e w'=>e=.returned (.bool true)∧Below W.heap.size W w':=by
 obtain⟨A,c,rfl,hc,hm⟩:=h.form;obtain⟨B,d,rfl,hd,hn⟩:=g0.form;obtain⟨i1,hi1,hy0,hy1,hy2⟩:=info_parts Tryz.SN;have CA:=af Ca;have k1:=(ah W.heap.size W).alloc (ak _) (.cells #[.int .i64 a.kind,.slice rA a.recs.length rc,.int .i64 a.left,.slice iA a.ps.length ic] 62);have HP:=af (h.keep (dO k1));have HL:=af (g0.keep (dO k1));have HA:=af (ha.keep (dO k1));have HX:=af (gV.new W #[.int .i64 a.kind,.slice rA a.recs.length rc,.int .i64 a.left,.slice iA a.ps.length ic] 62);have K0:Hid (Below W.heap.size W (W.alloc (.cells #[.int .i64 a.kind,.slice rA a.recs.length rc,.int .i64 a.left,.slice iA a.ps.length ic] 62))):=k1
 clear h g0 ha k1;go_enter func6,ntmps6;go_upto_region 1 with (fail);generalize W.alloc (.cells #[.int .i64 a.kind,.slice rA a.recs.length rc,.int .i64 a.left,.slice iA a.ps.length ic] 62)=w1 at *;have k2:=(ah w1.heap.size w1).alloc (ak _) (.cells #[.slice B l.length d] 27);have CS:=af (He _ _ _ p [l] (HP.out.keep (dO k2)) (lds1 HL.out 27));have K2:=af k2;clear k2;go_wp2_with fail;refine CS.out.mono ?_;rintro e w2 ⟨b,rfl,hsm,hb2⟩;have HSM:=af hsm
 have K:=(hTr K2 hb2);clear CS hsm hb2 K2;cases b with
 |false =>
  go_wp2_with fail;refine(CA.out w2).mono ?_;rintro e wZ ⟨rfl,Mr⟩;have U6:=af (K0.out.trans ((K.out.trans (Mr.mono K.out.size)).mono K0.out.size));clear Mr;go_wp2;go_ret;exact⟨rfl,U6.out⟩
 |true =>
  have HS:=HSM.out rfl;have hll:=HS.2.2.2 l gu ;have hpl:=HS.2.1;have HS:=af HS;clear HSM;obtain⟨o0,o1,o2,o3⟩:=ku HX.out K.out;have al:=(ah w2.heap.size w2).alloc (ak _) (.cells #[.int .i64 a.kind,.slice rA a.recs.length rc,.int .i64 a.left,.slice iA a.ps.length ic] 62);have CF:=af (fine_any (w2.alloc (.cells #[.int .i64 a.kind,.slice rA a.recs.length rc,.int .i64 a.left,.slice iA a.ps.length ic] 62)) 3 1 fZ (some ⟨w2.heap.size,0,none⟩) 1 [a] (acts_one w2 (HA.out.keep (dO K.out))));go_wp2_with fail;refine CF.out.mono ?_
  rintro e w3 ⟨rfl,hbx⟩;replace K:=af (K.out.trans ((al.trans (hbx.mono al.size)).mono K.out.size));clear CF al hbx o0 o1 o2 o3;cases hfn:fineB 3 1 [a]with
  |false =>
   go_wp2_with fail;refine(CA.out w3).mono ?_;rintro e wZ ⟨rfl,Mr⟩;have U6:=af (K0.out.trans ((K.out.trans (Mr.mono K.out.size)).mono K0.out.size));clear Mr;go_wp2;go_ret;exact⟨rfl,U6.out⟩
  |true =>
   clear hfn;obtain⟨d1,hf1,hg1,hl1,hs1,hn1⟩:=TF (n:=1000) (z:=32) fZ fZ fZ fZ ;have HF:=af hf1;have HG:=af hg1;have WU:=af hl1;have X6:Hid ((zD 1000 32).pend.length=0):=rfl;have CN:=U0 w3 1000 32 fZ fZ fZ fZ ;rw[Xp]at CN;have CN:=af CN;generalize zD 1000 32=d0 at *;clear hf1 hg1 hl1 hs1 hn1;go_wp2_with fail;refine CN.out.mono ?_;rintro e w4 ⟨vs,vp,rfl,hD,hb4⟩;obtain⟨Ad,cd,Pd,cpd,rfl,rfl,_,_,_,_⟩:=hD.form;have V:=Var.new hD;have K4:=(hTr K hb4);have hlt:w1.heap.size≤w4.heap.size:=aS K.out.size hb4.size;have K5:=af (K4.out.alloc hlt (.cells #[.int .i64 d0.size,.slice Ad d0.secs.length cd,.slice Pd d0.pend.length cpd,.int .i64 d0.left] 56))
   clear CN hb4 hD K K4;go_upto_region 4 with (fail);generalize w4.alloc (.cells #[.int .i64 d0.size,.slice Ad d0.secs.length cd,.slice Pd d0.pend.length cpd,.int .i64 d0.left] 56)=w5 at *;generalize w4.heap.size=g at *;obtain⟨q0,q1,q2,q3,_⟩:=V.facts;have CF:=NU w5 _ _ d0 V.dk (by have:=X6.out;omega);rw[HF.out]at CF;have CF:=af CF;go_wp2_with fail;refine CF.out.mono ?_;rintro e w6 ⟨vs2,JS,rfl,hD2,hb6⟩;obtain⟨A2,c2,P2,cp2,rfl,rfl,_,_,_,_⟩:=hD2.form;have V6:=V.keep hb6;have VX:=V6.assign hD2;have KX:=jU (A:=A2) (c:=c2) (P:=P2) (cp:=cp2) (d:=d1) (K5.out.trans (hb6.mono K5.out.size)) hlt
   obtain⟨t0,t1,t2,t3,r0,r1,r2,r3⟩:=V6.facts;clear CF V V6 K5 hb6 hD2 q0 q1 q2 q3;go_upto_region 5 with (fail);change Code.wp _ _ _ _ (mE w6 g A2 c2 P2 cp2 d1);clear t0 t1 t2 t3 r0 r1 r2 r3;generalize mE w6 g A2 c2 P2 cp2 d1=w7 at *;have VX:=af VX;have KX:=af KX;have CP:=af (tq w7 _ _ (.slice none 0 0) p l [] (HP.out.keep (dO KX.out)) (HL.out.keep (dO KX.out)) (qi.nil _) HS.out.1 fZ fZ gu );go_wp2_with fail;refine CP.out.mono ?_;intro e w8 he;obtain⟨s,k,rfl,Dj,hok,-⟩:=he.one;have K8_z:=(hTr KX Dj);have V8:=af (VX.out.keep Dj);have Vj:=af hok;clear CP he Dj hok KX VX
   by_cases hk:k=0
   ·subst hk;obtain⟨hok,Uv⟩:=Vj.out rfl;have ahC:=af hok;have HGK:=af Uv;clear Vj hok Uv;have K9:Hid (Below w8.heap.size w8 (w8.alloc (.cells #[] 9))):=(ah w8.heap.size w8).alloc (ak _) _;have HO9:=af (Bj w8 9 1);go_upto_region 10 with (fail);generalize w8.alloc (.cells #[] 9)=w9 at *;go_loopw [12,69] (fun ov iv wr=>∃(k:Nat) (A1:Option Addr) (c1:Nat) (L:List iX),k≤l.length∧iv=.int .i64 k∧ov=.slice A1 k c1∧L.length=k∧Hid (wr.ownsRow w8.heap.size 9 1 (.slice A1 k c1) k (L.map fun t=>.string (fu t)))∧Hid (∀(i:Nat) d s,l[i]?=some d→L[i]?=some s→YK p [d] [] s)∧Hid (Below w8.heap.size w8 wr)) (fun _ iv _=>l.length-(intOf iv).toNat)
    case atStart=>exact⟨0,_,0,[],by omega,rfl,rfl,rfl,HO9,af (fun i d s _ h=>by cases h),K9⟩
    case round =>
     clear HO9 K9;obtain⟨k,A1,c1,L,hk,rfl,rfl,hLk,HO,HLG,KR_z⟩:=hrel;by_cases hlt2:k<l.length
     ·have hlt3:(k:Int)<(l.length:Int):=by omega
      obtain⟨x,hx⟩:∃x,l[k]?=some x:=⟨_,au hlt2⟩;have K8R:=af (K8_z.out.trans (KR_z.out.mono K8_z.out.size));obtain⟨bx,ox,rfl,q0,q1⟩:=(HL.out.keep (dO K8R.out)).get hx;have al:=(ah wr.heap.size wr).alloc (ak _) (.cells #[.int .u64 (x.1.toNat:Int),.int .u64 (x.2.toNat:Int)] 39);have oU:=af (gV.new wr #[.int .u64 (x.1.toNat:Int),.int .u64 (x.2.toNat:Int)] 39);have HOx:=af (World.ownsRow.alloc HO.out (.cells #[.int .u64 (x.1.toNat:Int),.int .u64 (x.2.toNat:Int)] 39));have KRx:=(hTr KR_z al);have HXM:=af (okpk_one ahC.out (aV hx))
      have mZ:=af hx;clear al hx HO KR_z K8R;go_upto_region 12 with (fail);generalize wr.alloc (.cells #[.int .u64 (x.1.toNat:Int),.int .u64 (x.2.toNat:Int)] 39)=ws at *;generalize wr.heap.size=gx at *;clear q0 q1;obtain⟨q0,q1⟩:=kI oU.out;have K8S:=af (K8_z.out.trans (KRx.out.mono K8_z.out.size));have al:=(ah ws.heap.size ws).alloc (ak _) (.cells #[.int .u64 (x.1.toNat:Int),.int .u64 (x.2.toNat:Int)] 39);have CQ_z:=af (tq _ _ _ (.slice none 0 0) p [x] [] ((HP.out.keep (dO K8S.out)).keep (dO al)) (Ya ws x) (qi.nil _) HS.out.1 fZ gu gu )
      have HOy:=af (World.ownsRow.alloc HOx.out (.cells #[.int .u64 (x.1.toNat:Int),.int .u64 (x.2.toNat:Int)] 39));have KRy:=(hTr KRx al);clear al HOx KRx K8S oU;go_wp2_with fail;refine CQ_z.out.mono ?_;rintro e wt ⟨hbt,⟨_,s1,hg1,rfl⟩|⟨hno,_⟩⟩
      ·have HOt:=HOy.out.kept (iF hbt) (by cases (Value.slice A1 k c1).ownBlock<;>simp);have KRt:=KRy.out.trans (hbt.mono KRy.out.size);have Wq:=af (World.ownsRow.alloc HOt (.cells #[.string (fu s1)] 9));have KR2:=af (KRt.alloc KRt.size (.cells #[.string (fu s1)] 9));have HC2:Hid (iM (wt.alloc (.cells #[.string (fu s1)] 9)) (some ⟨wt.heap.size,0,none⟩) [.string (fu s1)]):=gY wt #[.string (fu s1)] 9 (0,0);have HG1:=af hg1;clear CQ_z hbt hg1 HOt KRt HOy KRy q0 q1;go_wp2_with (first
        |(at_builtin;refine iE _ rfl (.tmp 82) (.tmp 84) 53 rfl w8.heap.size 9 i1 _ 1 16 underlying53 hi1 hy0 hy1 hy2 rfl fZ (.slice A1 k c1) k _ rfl Wq.out _ 1 _ [.string (fu s1)] rfl rfl HC2.out (by simp[Value.oneCell']) fZ fZ (by have:=KR2.out.size;omega) ?_;intro v5 w5 hown5 hgr5 _;obtain⟨A5,c5,rfl⟩:=iw hown5))
       have KR3:=af (KR2.out.grown hgr5 KR2.out.size (fun q e=>(World.ownsRow.lt Wq.out q e).1));have M9:Hid (w5.ownsRow w8.heap.size 9 1 (.slice A5 (k+1) c5) (k+1) ((L++[s1]).map fun t=>.string (fu t))):=by
        show World.ownsRow _ _ _ _ _ _ _;rw[eG];exact hown5
       have HLG3:Hid (∀(i:Nat) d s,l[i]?=some d→(L++[s1])[i]?=some s→YK p [d] [] s):=by
        show ∀(i:Nat) d s,l[i]?=some d→(L++[s1])[i]?=some s→YK p [d] [] s;intro i d' s' hd' hs';rcases aP i L.length with hi|hi
        ·rw[aY hi]at hs';exact HLG.out i d' s' hd' hs'
        ·have hi2:i<(L++[s1]).length:=(ay.1 hs').1;simp only[aj,aI,aM]at hi2;obtain rfl:i=L.length:=by omega
         rw[bD gF,Nat.sub_self]at hs';obtain rfl:=aB hs';rw[hLk]at hd';obtain rfl:=aB (mZ.out.symm.trans hd');exact HG1.out
       clear hown5 hgr5 Wq KR2 HC2 HLG;go_roundw
       case rel=>exact⟨k+1,A5,c5,L++[s1],by omega,by go_num,rfl,by simp[hLk],M9,HLG3,KR3⟩
       case measure=>simp[intOf];omega
      ·exact absurd HXM.out hno
     ·obtain rfl:k=l.length:=by omega
      have hlt3:¬(l.length:Int)<(l.length:Int):=by omega
      have HT:Hid (vY wr (.slice A1 L.length c1) L):=txs_ownS rfl (by rw[hLk];exact HO.out);have VR_z:=af (V8.out.keep KR_z.out);have KR1:=af (K8_z.out.trans (KR_z.out.mono K8_z.out.size));have HPK:=af (pkl_old ahC.out hLk HLG.out);have hll2:L.length≤10:=by omega
      have HLK:=af hLk;rw[←hLk]at hlt3 ⊢;clear HO HLG KR_z V8 K8_z hLk hlt2 hk;go_upto_region 17 with (fail);obtain⟨q0,q1,q2,q3,_⟩:=VR_z.out.facts;have CJ:=Ls wr _ _ d1 VR_z.out.dk (by rw[HG.out.p];simp) A1 c1 L HT.out;have HOU:Hid (Out d1 [] L (qa d1 L)):=OY HG.out L;generalize qa d1 L=y at *;obtain⟨d2,n2⟩:=y;simp only at CJ;have CJ:=af CJ;go_wp2_with fail;refine CJ.out.mono ?_;rintro e wx ⟨vs3,vp3,rfl,hD3,hb3⟩;obtain⟨A3,c3,P3,cp3,rfl,rfl,_,_,_,_⟩:=hD3.form;have V3:=VR_z.out.keep hb3;have VX:=V3.assign hD3;have HT4:=af (txs_put4 (A:=A3) (c:=c3) (P:=P3) (cp:=cp3) (d:=d2) (HT.out.keep (dO hb3)) V3)
      have KX:=jU (A:=A3) (c:=c3) (P:=P3) (cp:=cp3) (d:=d2) (KR1.out.trans (hb3.mono KR1.out.size)) hlt;obtain⟨t0,t1,t2,t3,r0,r1,r2,r3⟩:=V3.facts;clear CJ V3 hb3 hD3 q0 q1 q2 q3 VR_z KR1 HT;go_upto_region 18 with (fail);change Code.wp _ _ _ _ (mE wx g A3 c3 P3 cp3 d2);clear t0 t1 t2 t3 r0 r1 r2 r3;generalize mE wx g A3 c3 P3 cp3 d2=wy at *;have VX:=af VX;have KX:=af KX;by_cases hn2:n2=0
      ·subst hn2;have hgd:∃act u,Good d2 act L u∧d2.left=-1:=by
        cases HOU.out with
        |ok d' act u hg hl hs=>exact⟨act,u,hg,hl WU.out⟩
        |bad _ he=>simp at he
       obtain⟨act,uu,hg2,hl2⟩:=hgd;have HG2:=af hg2;have HL2:=af hl2;clear hg2 hl2 HOU;obtain⟨o0,o1,o2,o3⟩:=ku HX.out KX.out;go_upto_if 98 with (fail);go_cut [17] (fun q wc=>q=.int .i64 0∧∃lf:Int,-1≤lf∧Var wc g A3 c3 P3 cp3 { d2 with left:=lf }∧vY wc (.slice A1 L.length c1) L∧Below w1.heap.size w1 wc)
       case first =>
        by_cases hlf:0≤a.left
        ·obtain⟨q0,q1,q2,q3,r0,r1,r2,r3⟩:=VX.out.facts;have VL_z:=VX.out.left (a.left%200) fZ fZ ;have TL_z:=txs_nostr HT4.out VX.out.blk dk_nostr (gG wy g 3 (.int .i64 (a.left%200)));have KL:=KX.out.setCell (p:=⟨g,3,none⟩) hlt (.int .i64 (a.left%200));go_wp2;go_meet;exact⟨rfl,a.left%200,by omega,VL_z,TL_z,KL⟩
        ·go_wp2;go_meet;exact⟨rfl,-1,by omega,by have:=VX.out;rw[show ({ d2 with left:=-1 }:Dk)=d2 from by rw[←HL2.out]];exact this,HT4.out,KX.out⟩
       case rest =>
        obtain⟨rfl,lf,hlf,VC,TC,KC⟩:=hcut;have HG3:=af (NG HG2.out lf hlf);generalize ({ d2 with left:=lf }:Dk)=d3 at *;obtain⟨q0,q1,q2,q3,_⟩:=VC.facts;have ht:=Oy wc s;have Va:=VC.alloc (.cells #[.string (fu s)] 9);have CW:=rewrite_any _ _ _ d3 Va.dk (by rw[HG3.out.p];simp) (some ⟨wc.heap.size,0,none⟩) 1 [s] ht;have HOU:Hid (Out d3 L [s] (wY d3 [s])):=OZ HG3.out [s];have hpn:=TA HG3.out [s];generalize wY d3 [s]=y at *;obtain⟨d4,n4⟩:=y;simp only at CW hpn;have CW:=af CW;have TA_z:=af (TC.keep (Keeps.alloc wc (.cells #[.string (fu s)] 9)))
        have KA:=af (KC.alloc KC.size (.cells #[.string (fu s)] 9));clear ht Va VC TC KC;go_wp2_with fail;refine CW.out.mono ?_;rintro e wd ⟨vs4,vp4,rfl,hD4,hb4⟩;obtain⟨A4,c4,P4,cp4,rfl,rfl,_,_,_,_⟩:=hD4.form;have VN_z:=af (Var.new hD4);have KD:=KA.out.trans (hb4.mono KA.out.size);have TD_z:=af ((TA_z.out.keep (dO hb4)).keep (Keeps.alloc wd (.cells #[.int .i64 d4.size,.slice A4 d4.secs.length c4,.slice P4 d4.pend.length cp4,.int .i64 d4.left] 56)));have KD:=af (KD.alloc KD.size (.cells #[.int .i64 d4.size,.slice A4 d4.secs.length c4,.slice P4 d4.pend.length cp4,.int .i64 d4.left] 56))
        clear CW hb4 hD4 TA_z KA q0 q1 q2 q3;go_upto_region 23 with (fail);generalize wd.alloc (.cells #[.int .i64 d4.size,.slice A4 d4.secs.length c4,.slice P4 d4.pend.length cp4,.int .i64 d4.left] 56)=we at *;generalize wd.heap.size=gn at *;obtain⟨q0,q1,q2,q3,_⟩:=VN_z.out.facts;obtain⟨o0,o1,o2,o3⟩:=ku HX.out KD.out;have CC:=af (WV we _ _ _ d4 VN_z.out.dk fZ a.ps (HA.out.keep (dO KD.out)).ps);go_wp2_with fail;refine CC.out.mono ?_;rintro e wf ⟨vs5,vp5,rfl,hD5,hb5⟩;have CR:=Lj wf _ _ (vw d4 a.ps) hD5;have HRW:Hid (RwA n4 (vG (vw d4 a.ps)).1 L s (vG (vw d4 a.ps)).2):=out_rwa HOU.out a.ps
        generalize vG (vw d4 a.ps)=z at *;obtain⟨R,i4⟩:=z;try simp only at CR
        have CR:=af CR;obtain⟨A5,c5,P5,cp5,rfl,rfl,_,_,_,_⟩:=hD5.form;have TF_z:=af (TD_z.out.keep (dO hb5));have KF_z:=(hTr KD hb5);clear CC hb5 hD5 TD_z KD VN_z q0 q1 q2 q3 o0 o1 o2 o3;go_wp2_with fail;refine CR.out.mono ?_;rintro e wg ⟨vB,rfl,htB,hbB⟩;obtain⟨A6,c6,rfl,_,_⟩:=htB.form;have TG_z:=af (TF_z.out.keep (dO hbB));have KG_z:=(hTr KF_z hbB);have TR_z:=af htB;clear CR htB hbB TF_z KF_z;by_cases hgd:n4=0∨n4=20
        ·have HI:i4=0∧(R=L∨R = [s])∧(n4=0→R = [s]):=by
          rcases hgd with rfl|rfl
          ·exact⟨(HRW.out.1 rfl).1,.inr (HRW.out.1 rfl).2,fun _=>(HRW.out.1 rfl).2⟩
          ·exact⟨(HRW.out.2 rfl).1,(HRW.out.2 rfl).2,fun h=>by cases h⟩
         obtain⟨rfl,hR,hR0⟩:=HI;have HR:=af hR;have yT:=af hR0;clear hR hR0 HRW;go_upto_region 24 with (fail);go_cut [123] (fun q wc=>q=.bool false∧wc=wg)
         case first =>
          rcases hgd with rfl|rfl
          ·go_wp2;go_meet;exact⟨rfl,rfl⟩
          ·go_wp2;go_meet;exact⟨rfl,rfl⟩
         case rest =>
          obtain⟨rfl,rfl⟩:=hcut;go_upto_region 26 with (fail);have C1:=af (rsame_any wc A6 c6 R TR_z.out A1 c1 L TG_z.out);have C2:Hid (∀w',Below wc.heap.size wc w'→Calls prog 23 #[.slice A6 R.length c6,.slice (some ⟨w'.heap.size,0,none⟩) 1 1] (w'.alloc (.cells #[.string (fu s)] 9)) fun en w''=>en=.returned (.bool (decide (R = [s])))∧Below w'.heap.size w' w''):=by
           show ∀w',_→_;intro w' hb;have al:=(ah w'.heap.size w').alloc (ak _) (.cells #[.string (fu s)] 9);refine(rsame_any _ A6 c6 R (TR_z.out.keep (dO (hb.trans (al.mono hb.size)))) (some ⟨w'.heap.size,0,none⟩) 1 [s] (Oy w' s)).mono ?_;rintro e w'' ⟨rfl,hb2⟩;exact⟨rfl,al.trans (hb2.mono al.size)⟩
          go_cut [150] (fun q wd=>q=.bool false∧Below wc.heap.size wc wd)
          case first =>
           by_cases hRL:R=L
           ·have D1:=C1.out;rw[decide_eq_true hRL]at D1;have D1:=af D1;clear C1;rcases hgd with rfl|rfl
            ·have D2:=C2.out;rw[decide_eq_true (yT.out rfl)]at D2;have D2:=af D2;clear C2 hRL;go_wp2_with fail;refine D1.out.mono ?_;rintro e wh ⟨rfl,hbh⟩;go_wp2_with fail;refine(D2.out wh hbh).mono ?_;rintro e wi ⟨rfl,hbi⟩;go_wp2;go_meet;exact⟨rfl,hbh.trans (hbi.mono hbh.size)⟩
            ·clear C2 hRL;go_wp2_with fail;refine D1.out.mono ?_;rintro e wh ⟨rfl,hbh⟩;go_wp2;go_meet;exact⟨rfl,hbh⟩
           ·have D1:=C1.out;rw[decide_eq_false hRL]at D1;have D1:=af D1;have D2:=C2.out;rw[decide_eq_true (HR.out.resolve_left hRL)]at D2;have D2:=af D2;clear C1 C2 hRL;go_wp2_with fail;refine D1.out.mono ?_;rintro e wh ⟨rfl,hbh⟩;go_wp2_with fail;refine(D2.out wh hbh).mono ?_;rintro e wi ⟨rfl,hbi⟩;have hbi2:=hbh.trans (hbi.mono hbh.size);rcases hgd with rfl|rfl
            ·go_wp2_with fail;refine(D2.out wi hbi2).mono ?_;rintro e wj ⟨rfl,hbj⟩;go_wp2;go_meet;exact⟨rfl,hbi2.trans (hbj.mono hbi2.size)⟩
            ·go_wp2;go_meet;exact⟨rfl,hbi2⟩
          case rest =>
           obtain⟨rfl,hbq⟩:=hcut;have hms:∃ms,PkL p R ms∧ms.flatten=l:=by
            rcases HR.out with h|h
            ·exact⟨_,by rw[h];exact HPK.out,flat_ones l⟩
            ·exact⟨[l],by rw[h];exact pkl_one ahC.out HGK.out,by simp⟩
           obtain⟨ms,hpk,hfl⟩:=hms;have KQ_z:=(hTr KG_z hbq);have TQ_z:=af (TR_z.out.keep (dO hbq));have HPM:=af hpk;have HFL:=af hfl;have Vk:=af hpk.1;clear C1 C2 hpk hfl hbq HR yT hgd TG_z TR_z KG_z HPK HGK HG HG2 HG3 HF;have kq:=(ah wc.heap.size wc).alloc (ak _) (.cells #[] 74);have HV0:Hid (og (wc.alloc (.cells #[] 74)) (.slice (some ⟨wc.heap.size,0,none⟩) 0 0) (jI p (ms.take 0).flatten)):=by
            show og _ _ _;rw[bO,fK,vR];exact⟨_,0,[],rfl,ak _,by unfold maxLen;omega,fun k u hu=>by simp at hu,rfl⟩
           have TQ_z:=af (TQ_z.out.keep (dO kq));have KQ_z:=(hTr KQ_z kq);clear kq;go_upto_region 30 with (fail);generalize wc.alloc (.cells #[] 74)=wp at *;go_loopw [22,154] (fun hv iv wr=>∃(k:Nat) (A1:Option Addr) (c1:Nat),k≤R.length∧iv=.int .i64 k∧hv=.slice A1 (jI p (ms.take k).flatten).length c1∧Hid (og wr (.slice A1 (jI p (ms.take k).flatten).length c1) (jI p (ms.take k).flatten))∧Hid (Below wp.heap.size wp wr)) (fun _ iv _=>R.length-(intOf iv).toNat)
           case atStart=>exact⟨0,_,0,by omega,rfl,by rw[bO,fK,vR];rfl,by
            have h:=HV0.out;rw[bO,fK,vR]at h ⊢;exact h,ah _ _⟩
           case round =>
            clear HV0;obtain⟨k,A7,c7,hk,rfl,rfl,HV,HB⟩:=hrel;by_cases hlt4:k<R.length
            ·have hlt5:(k:Int)<(R.length:Int):=by omega
             obtain⟨m,hm⟩:∃m,ms[k]?=some m:=⟨_,au (by have:=Vk.out;omega)⟩;obtain⟨t,htk⟩:∃t,R[k]?=some t:=⟨_,au hlt4⟩;obtain⟨okm,gkm⟩:=HPM.out.2 k m t hm htk;obtain⟨bx,ox,rfl,q0⟩:=(TQ_z.out.keep (dO HB.out)).get htk;have HFN:Hid ((ms.take (k+1)).flatten=(ms.take k).flatten++m):=by show _=_;rw[take_snoc' hm];simp
             have CU:=af (uE wr _ p m [] (ms.take k).flatten t HV.out HS.out.1 fZ okm gkm (fun b hb=>by cases hb));clear hm htk okm gkm;go_wp2_with fail;refine CU.out.mono ?_;rintro e w4 ⟨A4,c4,rfl,hp4,hb4⟩;rw[←HFN.out]at hp4 ⊢;have Nc:=af hp4;have kY:=(hTr HB hb4);clear CU hp4 hb4 HV HB HFN q0;go_wp2;go_roundw
             case rel=>exact⟨k+1,A4,c4,by omega,by go_num,rfl,Nc,kY⟩
             case measure=>simp[intOf];omega
            ·obtain rfl:k=R.length:=by omega
             have hlt5:¬(R.length:Int)<(R.length:Int):=by omega
             have hfe:(ms.take R.length).flatten=l:=by rw[←Vk.out,bG];exact HFL.out
             rw[hfe]at HV ⊢;rw[(HLK.out:L.length=l.length)];have KZ:=af (KQ_z.out.trans (HB.out.mono KQ_z.out.size));have CK:=af (EU wr _ _ p l (HP.out.keep (dO KZ.out)) (HL.out.keep (dO KZ.out)) fZ fZ );clear hfe HB;go_wp2_with fail;refine CK.out.mono ?_;rintro e wi ⟨z,rfl,hz,hbi⟩;obtain⟨Az,cz,rfl,_,_⟩:=hz.form;have CE:=Bw wi _ _ (jI p l) (jI p l) (HV.out.keep (dO hbi)) hz;rw[decide_eq_true rfl]at CE;have CE:=af CE;have KI_z:=(hTr KZ hbi);clear CK hz hbi KZ HV;go_wp2_with fail;refine CE.out.mono ?_;rintro e wj ⟨rfl,hbj⟩;have KJ_z:=af (KI_z.out.trans ((hbj.below _).mono KI_z.out.size))
             clear CE hbj KI_z;go_wp2_with fail;refine(CA.out wj).mono ?_;rintro e wZ ⟨rfl,Mr⟩;have U6:=af (K0.out.trans ((KJ_z.out.trans (Mr.mono KJ_z.out.size)).mono K0.out.size));clear Mr;go_wp2;go_ret;exact⟨rfl,U6.out⟩
        ·have hk1:(n4 != 0)=true:=by simp;omega
         have hk2:(n4 != 20)=true:=by simp;omega
         go_wp2_with fail;refine(CA.out wg).mono ?_;rintro e wZ ⟨rfl,Mr⟩;have U6:=af (K0.out.trans ((KG_z.out.trans (Mr.mono KG_z.out.size)).mono K0.out.size));clear Mr;go_wp2;go_ret;exact⟨rfl,U6.out⟩
      ·have hkb:(n2 != 0)=true:=by simpa using hn2
       go_wp2_with fail;refine(CA.out wy).mono ?_;rintro e wZ ⟨rfl,Mr⟩;have U6:=af (K0.out.trans ((KX.out.trans (Mr.mono KX.out.size)).mono K0.out.size));clear Mr;go_wp2;go_ret;exact⟨rfl,U6.out⟩
   ·have hkb:(k != 0)=true:=by simpa using hk
    go_wp2_with fail;refine(CA.out w8).mono ?_;rintro e wZ ⟨rfl,Mr⟩;have U6:=af (K0.out.trans ((K8_z.out.trans (Mr.mono K8_z.out.size)).mono K0.out.size));clear Mr;go_wp2;go_ret;exact⟨rfl,U6.out⟩
end Go.Proofs.YtichfhpgdhdiaaaGreat
