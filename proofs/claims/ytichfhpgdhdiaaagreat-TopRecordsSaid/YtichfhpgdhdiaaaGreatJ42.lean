/- Pools -/
import Derived.Test.YtichfhpgdhdiaaaGreatJ41
import Derived.Test.YtichfhpgdhdiaaaGreatJ38
import Derived.Test.YtichfhpgdhdiaaaGreatJ3
import Derived.Test.YtichfhpgdhdiaaaGreatJ16
import Derived.Test.YtichfhpgdhdiaaaGreatJ31
set_option maxRecDepth 100000
set_option maxHeartbeats 8000000
set_option linter.unusedVariables false
set_option linter.unusedSimpArgs false
open Go.Proofs.Tryz
namespace Go.Proofs.YtichfhpgdhdiaaaGreat
open Go.RowKit
theorem FR(W:World)(x:It)(hx:Q6 x):
  Calls prog 68 #[.agg #[.int .u64 (x.1.1.toNat:Int),.int .u64 (x.1.2.toNat:Int),.string (fu x.2)]] W (R7 W):=by
 obtain⟨⟨o,ho,hol,hxo⟩,hxd⟩:=hx;have hal:=(ah W.heap.size W).alloc (ak _) (.cells #[.int .u64 (x.1.1.toNat:Int),.int .u64 (x.1.2.toNat:Int),.string (fu x.2)] 74);have Ra:=af (gV.new W #[.int .u64 (x.1.1.toNat:Int),.int .u64 (x.1.2.toNat:Int),.string (fu x.2)] 74);have YD:=af hal;have CO:=af (fun w=>zq (fu x.2) (by rw[gL,hxo];omega) w);have CD:=af (fun w=>tZ w o ho hol);rw[←hxo]at CD;have HQ:Hid ((((jJ x.2).1.toNat:Int) != (x.1.1.toNat:Int)||((jJ x.2).2.toNat:Int) != (x.1.2.toNat:Int))=false):=(LX _ _).trans (by rw[hxd];simp)
 clear hal hxo hxd ho hol;go_enter func68,ntmps68;go_upto_region 1 with (fail);generalize W.alloc (.cells #[.int .u64 (x.1.1.toNat:Int),.int .u64 (x.1.2.toNat:Int),.string (fu x.2)] 74)=w0 at *;have q2:=Ra.out.cl 2;go_wp2_with fail;refine(CD.out w0).mono ?_;rintro e w2 ⟨A,n,c,A',n',c',rfl,hO,hb⟩;have hb2:=hb.alloc hb.size (.cells (je o (.slice A n c) (.slice A' n' c')) 44);have HB2:=(hTr YD hb2);have nG:=af (Ra.out.keep hb2);unfold je at *;clear q2 hO hb hb2 CD Ra YD;go_upto_region 4 with (fail)
 generalize w2.alloc (.cells #[.int .i64 o.kind,.string (fu o.data),.slice A n c,.int .u64 (o.tree.1.toNat:Int),.int .u64 (o.tree.2.toNat:Int),.slice A' n' c',.string (fu o.gM),.int .i64 o.time,.string (fu o.msg)] 44)=w3 at *;refine iN gB 6 (fun i v w=>match i with
  |0=>v=.pointer (some ⟨W.heap.size,2,none⟩)
  |1=>v=.string (fu x.2)
  |2=>v=.agg #[.int .u64 ((jJ x.2).1.toNat:Int),.int .u64 ((jJ x.2).2.toNat:Int)]
  |3=>v=.pointer (some ⟨W.heap.size,0,none⟩)
  |4=>v=.agg #[.int .u64 (x.1.1.toNat:Int),.int .u64 (x.1.2.toNat:Int)]
  |_=>v=.bool false) 0 gB (fun i v w w' h hb=>?_) ?_ ?_
 ·exact PH
 ·rintro i o hi ho a w1 hdf hlen hold hbel gK K hK;clear hdf;have hX:=(nG.out.keep (gH _)).keep hbel;have q0:=hX.cl 0;have q1:=hX.cl 1;have q2:=hX.cl 2;have s1:=kZ hold 1 (.pointer (some ⟨W.heap.size,0,none⟩));have hi':i=0∨i=1∨i=2∨i=3∨i=4∨i=5:=by omega
  rcases hi' with rfl|rfl|rfl|rfl|rfl|rfl<;>obtain rfl:=aB ho
  ·exact iJ s1
  ·exact iJ (iq gK 0 13)
  ·refine qM (iq gK 1 14) ?_;refine(CO.out w1).mono ?_;rintro e' w4 ⟨rfl,hb4⟩;exact hK _ w4 (by rw[iI];rfl) hb4
  ·exact iJ s1
  ·exact iJ (iq gK 3 16)
  ·refine sM (iq gK 2 15) (iq gK 4 17) ?_;exact hK _ w1 (congrArg Value.bool HQ.out) gD
 ·rintro a w1 hdf hlen hold hbel hnew;have e18:=qH hnew 5 18;simp only at e18;obtain⟨uq,hu,hact⟩:=kL [13,14,15,16,17,18] hdf hlen hold;simp only[hu]at e18;simp only[List.foldl,e18,SA]at hact;clear hdf hlen hold hnew e18 hu;subst hact;refine iP ?_;have HN:=af (HB2.out.trans (((gH _).trans hbel).mono HB2.out.size));clear hbel nG CO HQ HB2;go_wp2;go_ret;exact⟨rfl,HN.out⟩
theorem kI{w:World}{g:Nat}{a b:Value}{t:TypeId}(h:gV w g t #[a,b]):w.cell? ⟨g,0,none⟩=some a∧w.cell? ⟨g,1,none⟩=some b:=⟨h.cl 0,h.cl 1⟩
theorem aat{p:List It}{d:Dg}{i:Nat}(h:zW p d i)(hs:pO p){x:It}(hx:x∈p)(e:x.1=d):p[i]?=some x:=by
 obtain⟨k,hk⟩:=bU hx;have h1:¬k<i:=fun hl=>by
  have:=(h.2 k x hk).1 hl;rw[e]at this;exact mO _ this
 rcases dD (Nat.le_of_not_lt h1)with h2|rfl
 ·exfalso;have hkl:=(ay.1 hk).1;obtain⟨y,hy⟩:∃y,p[i]?=some y:=⟨_,au fZ ⟩;have h3:=hs.lt hy hk h2;rw[e]at h3;exact absurd ((h.2 i y hy).2 h3) (Nat.lt_irrefl _)
 ·exact hk
theorem Jd(W:World)(v:Value)(p:List It)(d:Dg)(o:Ob)(h:og W v p)(hg:zR p)(hx:(d,jS o)∈p)(ho:Cw o)(hol:(jS o).length≤65536)(hp:p.length≤1000000):
  Calls prog 15 #[v,lS d] W (Yd o W):=by
 obtain⟨A0,c0,rfl,hc0,hm0⟩:=h.form;have k0:=(ah W.heap.size W).alloc (ak _) (.cells #[.int .u64 (d.1.toNat:Int),.int .u64 (d.2.toNat:Int)] 39);have hsz:(W.alloc (.cells #[.int .u64 (d.1.toNat:Int),.int .u64 (d.2.toNat:Int)] 39)).heap.size=W.heap.size+1:=by simp
 have k1:=k0.alloc fZ (.cells (je jO (.slice none 0 0) (.slice none 0 0)) 44);have hD:=(gV.new W #[.int .u64 (d.1.toNat:Int),.int .u64 (d.2.toNat:Int)] 39).alloc (.cells (je jO (.slice none 0 0) (.slice none 0 0)) 44);have hO:=gV.new (W.alloc (.cells #[.int .u64 (d.1.toNat:Int),.int .u64 (d.2.toNat:Int)] 39)) (je jO (.slice none 0 0) (.slice none 0 0)) 44;rw[hsz]at hO;have HP:=af (h.keep (dO k1));have HK:=af k1;have HO:=af hO;have HX:=af (fun i (hi:zW p d i)=>aat hi hg.1 hx rfl)
 have hha:=rP hx;have CD:=af (fun w=>tZ w o ho hol);obtain⟨w0,hw0⟩:∃w0,w0=(W.alloc (.cells #[.int .u64 (d.1.toNat:Int),.int .u64 (d.2.toNat:Int)] 39)).alloc (.cells (je jO (.slice none 0 0) (.slice none 0 0)) 44):=⟨_,rfl⟩;rw[←hw0]at hD HP HK HO;have CF:=BA w0 _ p d HP.out hg.1 hp;unfold lS at CF;simp only at hha;have q0:=hD.cl 0;have q1:=hD.cl 1;have hs0:w0.heap.size=W.heap.size+2:=by rw[hw0];simp
 have CF:=af CF;clear h hg hx k0 k1 hO ho;unfold lS;go_enter func15,ntmps15;go_upto_region 1 with (fail);change Code.wp _ _ _ _ ((W.alloc (.cells #[.int .u64 (d.1.toNat:Int),.int .u64 (d.2.toNat:Int)] 39)).alloc (.cells (je jO (.slice none 0 0) (.slice none 0 0)) 44));rw[←hw0];clear hw0 hsz;go_wp2_with fail;refine CF.out.mono ?_;rintro e w1 ⟨i,hi,rfl,hb⟩;have hxi:=HX.out i hi;have hil:=(ay.1 hxi).1;rw[hha];have VQ:=HP.out.keep (dO hb);obtain⟨b1,o1,rfl,z0,z1,z2⟩:=VQ.get hxi;have HO1:=af (HO.out.keep hb)
 have QK:=(hTr HK hb);have hs1:=hb.size;have Uy:(i:Int)<(p.length:Int):=by omega
 clear q0 q1 CF hb hi VQ hxi HX HP HO HK hha hD;go_wp2_with fail;refine(CD.out w1).mono ?_;rintro e wE ⟨A,n,c,A',n',c',rfl,hOw,xV⟩;have hsE:=xV.size;have t:=HO1.out.keep xV;obtain⟨t0,t1,t2,t3,t4,t5,t6,t7,t8⟩:=iB t;obtain⟨w0,w1,w2,w3,w4,w5,w6,w7,w8⟩:=mP t;have PB:=af (jG (o:=o) (ve:=.slice A n c) (vp:=.slice A' n' c') t);have PG:=iR wE (W.heap.size+1) o (.slice A n c) (.slice A' n' c');have PK:=af (iW (QK.out.trans (xV.mono QK.out.size)) PG fZ fZ );have PO:=af ((hOw.kept PG fZ ).lower (B':=W.heap.size) fZ );clear t HO1 QK xV hOw PG CD z0 z1 z2
 unfold je;go_wp2;change bodyPost _ _ _ _ _ (kJ wE (W.heap.size+1) o (.slice A n c) (.slice A' n' c'));clear t0 t1 t2 t3 t4 t5 t6 t7 t8 w0 w1 w2 w3 w4 w5 w6 w7 w8;obtain⟨k0,k1,k2,k3,k4,k5,k6,k7,k8⟩:=iB PB.out;generalize kJ wE (W.heap.size+1) o (.slice A n c) (.slice A' n' c')=wx at *;exact bodyPost_ret (v:=.tuple #[.agg (je o (.slice A n c) (.slice A' n' c')),.int .i64 0]) (by unfold je;simp[results,results15,go_sem,k0,k1,k2,k3,k4,k5,k6,k7,k8]) rfl ⟨_,_,_,_,_,_,rfl,PO.out,PK.out⟩
theorem Cr{w:World}{b j:Nat}{u:Value}{g o:Nat}{x:Value}(hne:g≠b)(h:w.cell? ⟨g,o,none⟩=some x):(w.setCell ⟨b,j,none⟩ u).cell? ⟨g,o,none⟩=some x:=by
 have:=bf w ⟨b,j,none⟩ u g hne;unfold World.cell? at *;simp only at *;rw[this];exact h
theorem Py{w:World}{b j:Nat}{u a0 a1 z:Value}{t:TypeId}{p:List It}(h:og w z p)(hb:gV w b t #[a0,a1]):og (w.setCell ⟨b,j,none⟩ u) z p:=by
 obtain⟨A,c,us,rfl,h1,h2,hc,he⟩:=h;refine⟨A,c,us,rfl,h1,h2,fun k x hk=>?_,he⟩;obtain⟨g,off,rfl,hx⟩:=hc k x hk;refine⟨g,off,rfl,Cr (fun e=>?_) hx⟩;subst e;have hus:=pR _ _ he;cases p with
 |nil=>rw[hus]at hk;simp at hk
 |cons y p =>
  obtain⟨g',off',e',hx2⟩:=hc 2 (.string (fu y.2)) (by rw[hus];rfl);injection e' with e';injection e' with e1 e2;subst e1 e2;unfold World.cell? at hx2;simp only[show w.heap[g]?=_ from hb]at hx2;have:(#[a0,a1]:Array Value)[off+2]?=none:=by simp
  first
   |(rw[this]at hx2;cases hx2)
   |simp at hx2
theorem UD(W:World)(v:Value)(p:List It)(x:It)(h:og W v p)(hs:pO p)(hp:p.length≤10000)(hx:Q6 x):
  Calls prog 31 #[v,lS x.1,.string (fu x.2)] W (Mg (nQ p x) W):=by
 obtain⟨A0,c0,rfl,hc0,hm0⟩:=h.form;have k0:=(ah W.heap.size W).alloc (ak _) (.cells #[.int .u64 (x.1.1.toNat:Int),.int .u64 (x.1.2.toNat:Int)] 39);have hsz:(W.alloc (.cells #[.int .u64 (x.1.1.toNat:Int),.int .u64 (x.1.2.toNat:Int)] 39)).heap.size=W.heap.size+1:=by simp
 have k1:=k0.alloc fZ (.cells #[.int .u64 (x.1.1.toNat:Int),.int .u64 (x.1.2.toNat:Int),.string (fu x.2)] 74);have hD:=(gV.new W #[.int .u64 (x.1.1.toNat:Int),.int .u64 (x.1.2.toNat:Int)] 39);have hI:=gV.new (W.alloc (.cells #[.int .u64 (x.1.1.toNat:Int),.int .u64 (x.1.2.toNat:Int)] 39)) #[.int .u64 (x.1.1.toNat:Int),.int .u64 (x.1.2.toNat:Int),.string (fu x.2)] 74;rw[hsz]at hI;have z0:=hD.cl 0;have z1:=hD.cl 1;have HP:=af (h.keep (dO k1));have HK:=af k1;have HI:=af hI;have HX:=af hx;have HS:=af hs
 clear h k0 k1 hI hs hx hD;unfold lS;go_enter func31,ntmps31;go_upto_region 2 with (fail);clear z0 z1;generalize (W.alloc (.cells #[.int .u64 (x.1.1.toNat:Int),.int .u64 (x.1.2.toNat:Int)] 39)).alloc (.cells #[.int .u64 (x.1.1.toNat:Int),.int .u64 (x.1.2.toNat:Int),.string (fu x.2)] 74)=w0 at *;have q0:=HI.out.cl 0;have q1:=HI.out.cl 1;have q2:=HI.out.cl 2;have CK:=af (FR w0 x HX.out);go_wp2_with fail;refine CK.out.mono ?_;rintro e w1 ⟨rfl,hb⟩;have HI1:=af (HI.out.keep hb);have VQ:=af (HP.out.keep (dO hb))
 have QK:=(hTr HK hb);clear q0 q1 q2 CK HI HP HK hb;have q0:=HI1.out.cl 0;have q1:=HI1.out.cl 1;have q2:=HI1.out.cl 2;have CI:=af (EX w1 _ p x VQ.out HS.out hp);go_wp2_with fail;refine CI.out.mono ?_;rintro e w2 ⟨z,rfl,hz,hb⟩;have HB:=(hTr QK hb);have HZ:=af hz;generalize hr:(nQ p x).2=r;have HR:=af hr;clear q0 q1 q2 CI HI1 VQ QK hb hz hr;go_wp2;go_ret2;exact Mg.mk HR.out.symm HZ.out HB.out
def VR(o:Ob):It:=(jJ (jS o),jS o)
theorem Mh{o:Ob}(ho:Cw o)(hl:(jS o).length≤65536):Q6 (VR o):=⟨⟨o,ho,hl,rfl⟩,rfl⟩
theorem UY{p:List It}{x:It}:(nQ p x).2=0∨(nQ p x).2=16:=by
 unfold nQ;split
 ·split
  ·exact .inl rfl
  ·exact .inr rfl
 ·exact .inl rfl
def XZ(p:List It)(x:It)(w0:World)(e:Ending)(w:World):Prop:=∃A n c,Below w0.heap.size w0 w ∧
 (((nQ p x).2=0∧e=.returned (.tuple #[.slice A n c,.agg #[.int .u64 (x.1.1.toNat:Int),.int .u64 (x.1.2.toNat:Int)],.int .i64 0])∧og w (.slice A n c) (nQ p x).1) ∨
  ((nQ p x).2≠0∧e=.returned (.tuple #[.slice A n c,.agg #[.int .u64 0,.int .u64 0],.int .i64 16])))
theorem Pz(W:World)(v:Value)(p:List It)(o:Ob)(eA pA:Option Addr)(en pn ec pc:Nat)(h:og W v p)(hs:pO p)(hp:p.length≤10000)(hO:wU W (.slice eA en ec) (.slice pA pn pc) o)(ho:Cw o)(hol:(jS o).length≤65536):
  Calls prog 13 #[v,.agg (je o (.slice eA en ec) (.slice pA pn pc))] W (XZ p (VR o) W):=by
 obtain⟨A0,c0,rfl,hc0,hm0⟩:=h.form;have k0:=(ah W.heap.size W).alloc (ak _) (.cells (je o (.slice eA en ec) (.slice pA pn pc)) 44);have hsz:(W.alloc (.cells (je o (.slice eA en ec) (.slice pA pn pc)) 44)).heap.size=W.heap.size+1:=by simp
 have k1:=k0.alloc fZ (.cells #[.int .u64 0,.int .u64 0] 39);have hB:=(gV.new W (je o (.slice eA en ec) (.slice pA pn pc)) 44).alloc (.cells #[.int .u64 0,.int .u64 0] 39);have hD:=gV.new (W.alloc (.cells (je o (.slice eA en ec) (.slice pA pn pc)) 44)) #[.int .u64 0,.int .u64 0] 39;rw[hsz]at hD;obtain⟨w0,hw0⟩:∃w0,w0=(W.alloc (.cells (je o (.slice eA en ec) (.slice pA pn pc)) 44)).alloc (.cells #[.int .u64 0,.int .u64 0] 39):=⟨_,rfl⟩
 rw[←hw0]at hB hD k1;have hs0:w0.heap.size=W.heap.size+2:=by rw[hw0];simp
 have CE:=af (qK w0 o _ _ (hO.keep (dO k1)) ho hol);have HP:=af (h.keep (dO k1));have HK:=af k1;have HD:=af hD;have HS:=af hs;have HIF:=af (UY (p:=p) (x:=VR o));have CO:=af (fun w=>zq (fu (jS o)) (by rw[gL];omega) w);unfold je at *;obtain⟨q0,q1,q2,q3,q4,q5,q6,q7,q8⟩:=iB hB;clear h k0 k1 hB hD hO ho hs;go_enter func13,ntmps13;go_upto_region 1 with (fail);change Code.wp _ _ _ _ ((W.alloc (.cells #[.int .i64 o.kind,.string (fu o.data),.slice eA en ec,.int .u64 (o.tree.1.toNat:Int),.int .u64 (o.tree.2.toNat:Int),.slice pA pn pc,.string (fu o.gM),.int .i64 o.time,.string (fu o.msg)] 44)).alloc (.cells #[.int .u64 0,.int .u64 0] 39))
 rw[←hw0];clear hw0 hsz;go_wp2_with fail;refine CE.out.mono ?_;rintro e w1 ⟨rfl,hb1⟩;have VQ:=af (HP.out.keep (dO hb1));have QK:=(hTr HK hb1);have HD1:=af (HD.out.keep hb1);have hs1:=hb1.size;clear CE HP HK HD hb1 q0 q1 q2 q3 q4 q5 q6 q7 q8;go_wp2_with fail;refine(CO.out w1).mono ?_;rw[iI];rintro e w2 ⟨rfl,hb2⟩;have hX:VR o=(jJ (jS o),jS o):=rfl;generalize jJ (jS o)=dd at *;generalize jS o=eo at *;have hal:=hb2.alloc hb2.size (.cells #[.int .u64 (dd.1.toNat:Int),.int .u64 (dd.2.toNat:Int)] 39);have Jb:=af (VQ.out.keep (dO hal))
 have lG:=(hTr QK hal);have HD2:=af (HD1.out.keep hal);have HN:=af (gV.new w2 #[.int .u64 (dd.1.toNat:Int),.int .u64 (dd.2.toNat:Int)] 39);have hs2:=hb2.size;have HX:=af hX;clear VQ QK HD1 hb2 hal hX CO;go_upto_region 5 with (fail);generalize w2.alloc (.cells #[.int .u64 (dd.1.toNat:Int),.int .u64 (dd.2.toNat:Int)] 39)=w3 at *;generalize w2.heap.size=gx at *;obtain⟨p0,p1⟩:=kI HN.out;have CI:=EX w3 _ p (VR o) Jb.out HS.out hp;rw[HX.out]at CI HIF ⊢;have CI:=af CI;go_wp2_with fail;refine CI.out.mono ?_;rintro e w4 ⟨z,rfl,hz,hb4⟩
 obtain⟨Az,cz,rfl,_,_⟩:=hz.form;have HK4:=(hTr lG hb4);have HD4:=af (HD2.out.keep hb4);have HN4:=af (HN.out.keep hb4);have HZ:=af hz;clear p0 p1 CI Jb lG HD2 HN hb4 hz;obtain⟨y0,y1⟩:=kI HD4.out;obtain⟨f0,f1⟩:=JO HD4.out;rcases HIF.out with h0|h0
 ·rw[h0];obtain⟨p0,p1⟩:=kI HN4.out;have hD5:=(HD4.out.set 0 (.int .u64 (dd.1.toNat:Int))).set 1 (.int .u64 (dd.2.toNat:Int));have hg5:=(gG w4 (W.heap.size+1) 0 (.int .u64 (dd.1.toNat:Int))).trans (gG _ (W.heap.size+1) 1 (.int .u64 (dd.2.toNat:Int)));have pq:=af (HK4.out.grown hg5 HK4.out.size (fun k e=>by cases e;omega));have HD5:=af hD5;have HH:=af h0;have HZ5:=af (Py (j:=1) (u:=.int .u64 (dd.2.toNat:Int)) (Py (j:=0) (u:=.int .u64 (dd.1.toNat:Int)) HZ.out HD4.out) (HD4.out.set 0 (.int .u64 (dd.1.toNat:Int))));clear hD5 hg5 h0;go_upto_region 8 with (fail)
  go_region
  all_goals
   go_wp2;clear y0 y1 f0 f1 p0 p1;obtain⟨y0,y1⟩:=kI (HD5.out.keep (gH _));have sI:=af (kG pq.out);have HZ6:=af (HZ5.out.keep (dO (gH _)));clear pq HD5 HZ5 HZ HD4 HN4 HK4;generalize ((w4.setCell ⟨W.heap.size+1,0,none⟩ (.int .u64 (dd.1.toNat:Int))).setCell ⟨W.heap.size+1,1,none⟩ (.int .u64 (dd.2.toNat:Int))).drew=wx at *;exact bodyPost_ret (v:=.tuple #[.slice Az (nQ p (dd,eo)).1.length cz,.agg #[.int .u64 (dd.1.toNat:Int),.int .u64 (dd.2.toNat:Int)],.int .i64 0]) (by simp[results,results13,go_sem,y0,y1]) rfl ⟨_,_,_,sI.out,.inl ⟨by rw[HX.out];exact HH.out,by rw[HX.out],by rw[HX.out];exact HZ6.out⟩⟩
 ·rw[h0];have hD5:=(HD4.out.set 0 (.int .u64 0)).set 1 (.int .u64 0);have hg5:=(gG w4 (W.heap.size+1) 0 (.int .u64 0)).trans (gG _ (W.heap.size+1) 1 (.int .u64 0));have pq:=af (HK4.out.grown hg5 HK4.out.size (fun k e=>by cases e;omega));have HD5:=af hD5;have HH:Hid ((nQ p (dd,eo)).2≠0):=by show _≠_;rw[h0];decide
  clear hD5 hg5 h0;go_wp2;clear y0 y1 f0 f1;obtain⟨y0,y1⟩:=kI HD5.out;generalize (w4.setCell ⟨W.heap.size+1,0,none⟩ (.int .u64 0)).setCell ⟨W.heap.size+1,1,none⟩ (.int .u64 0)=wx at *;exact bodyPost_ret (v:=.tuple #[.slice none 0 0,.agg #[.int .u64 0,.int .u64 0],.int .i64 16]) (by simp[results,results13,go_sem,y0,y1]) rfl ⟨_,_,_,pq.out,.inr ⟨by rw[HX.out];exact HH.out,rfl⟩⟩
end Go.Proofs.YtichfhpgdhdiaaaGreat
namespace Go.Proofs.YtichfhpgdhdiaaaGreat
open Go.RowKit
theorem Tryz.L8:(Tryz.prog.info? 132).map (fun i=>(i.zero,i.size,i.bytes))=some (some (.agg #[.bool false,.int .u64 0,.int .u64 0,.string ⟨#[]⟩,.int .i64 0]),5,48):=by kernel_rfl
def FN:lZ:=⟨false,(0,0),[],0⟩
def FO:Array Value:=#[.bool false,.int .u64 0,.int .u64 0,.string ⟨#[]⟩,.int .i64 0]
theorem UL(n:Nat):((List.replicate n FN).flatMap FM).toArray=madeCells FO (n*5):=by
 apply Array.ext
 ·simp[madeCells,wR]
 ·intro i h1 h2;have hi:i<n*5:=by simpa [madeCells] using h2
  have hq:i/5<n:=by omega
  have e:=flat_get wR (List.replicate n FN) (i/5) (i%5) FN (by rw[List.getElem?_replicate,if_pos hq]) (Nat.mod_lt _ fZ );rw[show i/5*5+i%5=i by omega]at e;have e2:=au (l:=(List.replicate n FN).flatMap FM) (i:=i) (by simpa using h1);have h5:i%5<5:=Nat.mod_lt _ fZ ;have e3:(FM FN)[i%5]?=some ((FM FN)[i%5]'(by rw[wR];exact h5)):=au _;rw[e2,e3]at e;have e4:=aB e;simp only[List.getElem_toArray,e4];simp only[madeCells,Array.getElem_map,Array.getElem_range];show (FM FN)[i%5]=FO[i%5]!;have:∀(r:Nat) (hr:r<5) (h':r<(FM FN).length),(FM FN)[r]=FO[r]! := fun r hr h'=>by
   have:r=0∨r=1∨r=2∨r=3∨r=4:=by omega
   rcases this with rfl|rfl|rfl|rfl|rfl<;>rfl
  exact this _ h5 _
theorem Cq{F:Fence}{k:Nat}{P:Program}(w:World){ops:Array Oper}{rest:List Oper}{o:Oper}{a:Go.Act}{Q:Exit→Go.Act→World→Prop}(hgd:o.guard=none)(l c:Operand)(t:TypeId)(hop:o.op=Op.makeSlice t l c)(e:TypeId)(i:TypeInfo)(z:Value)(sz:Nat)(h1:P.underlying t=some (.slice e))(h2:P.info? e=some i)(h3:i.zero=some z)(h4:i.size=sz)(kl kc:IntKind)(L C:Int)(n:Nat)(hl:a.eval l=.int kl L)(hc:a.eval c=.int kc C)(hL:L=(n:Int))(hC:C=(n:Int))(b2:i.bytes*n≤281474976710656)(b3:n≤9223372036854775807)(hK:wpListIn F k P ops Q rest (a.put o.dst (.slice (some ⟨w.heap.size,0,none⟩) n n)) (w.alloc (.cells (madeCells z.cells (n*sz)) e))):
  wpListIn F k P ops Q (o::rest) a w:=by
 refine wpListIn_plain hgd fun K hK'=>?_
 subst hL;subst hC;subst h4;have hb:(i.bytes:Int)*(n:Int)≤281474976710656:=by
  have h:((i.bytes*n:Nat):Int)≤281474976710656:=by omega
  rwa [eH]at h
 have hrun:=run_make (P:=P) w t e i z h1 h2 h3 kl kc n n fZ fZ hb fZ ;simp only[aT]at hrun;unfold Oper.wpIn;refine⟨?_,?_⟩
 ·simp[Oper.about,hop,resolve,Target.leads,Sem.run_pure]
 ·rw[Oper.semAt_plain F _ _ (by rw[hop];intro c hc';cases hc')];simp[execOp,hop,hl,hc,hrun,Result.andThen];exact hK' _ _ hK
def pM(w:World)(g:Nat)(cs:List lZ):Prop:=gV w g 132 (cs.flatMap FM).toArray
theorem pM.cells{w:World}{g:Nat}{cs:List lZ}(h:pM w g cs){i:Nat}{c:lZ}(hc:cs[i]?=some c):
  w.cell? ⟨g,i*5,none⟩=some (.bool c.has)∧w.cell? ⟨g,i*5+1,none⟩=some (.int .u64 (c.base.1.toNat:Int))∧w.cell? ⟨g,i*5+2,none⟩=some (.int .u64 (c.base.2.toNat:Int))∧w.cell? ⟨g,i*5+3,none⟩=some (.string (fu c.delta))∧w.cell? ⟨g,i*5+4,none⟩=some (.int .i64 c.size):=by
 have f:∀j u,(FM c)[j]?=some u→j<5→w.cell? ⟨g,i*5+j,none⟩=some u:=fun j u hu hj=>h.cell (by
  have:=flat_get wR cs i j c hc hj;rw[hu]at this;simpa using this)
 exact⟨f 0 _ rfl fZ ,f 1 _ rfl fZ ,f 2 _ rfl fZ ,f 3 _ rfl fZ ,f 4 _ rfl fZ ⟩
theorem pM.set1{w:World}{g:Nat}{cs:List lZ}(h:pM w g cs){i j:Nat}{c c':lZ}{u:Value}(hc:cs[i]?=some c)(hj:j<5)(e:(FM c).set j u=FM c'):pM (w.setCell ⟨g,i*5+j,none⟩ u) g (cs.set i c'):=by
 have h1:=h.set (i*5+j) u;rw[List.setIfInBounds_toArray,uX wR cs i j c c' u hc hj e.symm]at h1;exact h1
theorem pM.put{w:World}{g:Nat}{cs:List lZ}(h:pM w g cs){i:Nat}{c:lZ}(hc:cs[i]?=some c)(x:lZ):
  pM (((((w.setCell ⟨g,i*5,none⟩ (.bool x.has)).setCell ⟨g,i*5+1,none⟩ (.int .u64 (x.base.1.toNat:Int))).setCell ⟨g,i*5+2,none⟩ (.int .u64 (x.base.2.toNat:Int))).setCell ⟨g,i*5+3,none⟩ (.string (fu x.delta))).setCell ⟨g,i*5+4,none⟩ (.int .i64 x.size)) g (cs.set i x):=by
 have hl:=(ay.1 hc).1;have s:∀(l:List lZ) (y:lZ),i<l.length→(l.set i y)[i]?=some y:=fun l y h=>by rw[bE h]
 have h1:=h.set1 (j:=0) (c':=⟨x.has,c.base,c.delta,c.size⟩) (u:=.bool x.has) hc fZ rfl;have h2:=h1.set1 (j:=1) (c':=⟨x.has,(x.base.1,c.base.2),c.delta,c.size⟩) (u:=.int .u64 (x.base.1.toNat:Int)) (s _ _ hl) fZ rfl;rw[List.set_set]at h2;have h3:=h2.set1 (j:=2) (c':=⟨x.has,x.base,c.delta,c.size⟩) (u:=.int .u64 (x.base.2.toNat:Int)) (s _ _ hl) fZ rfl;rw[List.set_set]at h3;have h4:=h3.set1 (j:=3) (c':=⟨x.has,x.base,x.delta,c.size⟩) (u:=.string (fu x.delta)) (s _ _ hl) fZ rfl;rw[List.set_set]at h4;have h5:=h4.set1 (j:=4) (c':=x) (u:=.int .i64 x.size) (s _ _ hl) fZ rfl;rw[List.set_set]at h5
 exact h5
theorem pM.chs{w:World}{g:Nat}{cs:List lZ}(h:pM w g cs)(hm:cs.length≤1000000):Rs w (.slice (some ⟨g,0,none⟩) cs.length cs.length) cs:=by
 refine⟨some ⟨g,0,none⟩,cs.length,cs.flatMap FM,rfl,ak _,by unfold maxLen;omega,fun k u hu=>⟨g,0,rfl,?_⟩,GU cs⟩;rw[bH];exact h.cell (by simpa using hu)
def Oj(w:World)(g i:Nat)(x:lZ):World:=((((w.setCell ⟨g,i*5,none⟩ (.bool x.has)).setCell ⟨g,i*5+1,none⟩ (.int .u64 (x.base.1.toNat:Int))).setCell ⟨g,i*5+2,none⟩ (.int .u64 (x.base.2.toNat:Int))).setCell ⟨g,i*5+3,none⟩ (.string (fu x.delta))).setCell ⟨g,i*5+4,none⟩ (.int .i64 x.size)
theorem EP(w:World)(g i:Nat)(x:lZ):w.grownBy (Oj w g i x) (some g) :=
 ((((gG w g (i*5) (.bool x.has)).trans (gG _ g (i*5+1) (.int .u64 (x.base.1.toNat:Int)))).trans (gG _ g (i*5+2) (.int .u64 (x.base.2.toNat:Int)))).trans (gG _ g (i*5+3) (.string (fu x.delta)))).trans (gG _ g (i*5+4) (.int .i64 x.size))
theorem nO.ahb{t:List UInt8}{B g gr:Nat}{w w':World}{cs:List lZ}(h:nO t B g w)(hr:pM w gr cs)(hg:w.grownBy w' (some gr)):nO t B g w':=by
 obtain⟨m,la,ns,es,own,A,L,⟨vn,ve,hV⟩,R,I,hl⟩:=h;have hr':w.heap[gr]?=some (.cells (cs.flatMap FM).toArray 132 (0,0)):=hr;have ne:∀{e:TypeId} {sz n:Nat} {v:Value} {xs:List Value},w.ownsRow B e sz v n xs→e≠132→v.ownBlock≠some gr:=fun ho he e1=>by
  rcases ho.2 with ⟨rfl,_⟩|⟨g',cap,cur,rfl,_,hc,_⟩
  ·cases e1
  ·have e2:g'=gr:=by simpa [Value.ownBlock] using e1
   rw[e2,hr']at hc;injection hc with hc;injection hc with _ hc;exact he hc.symm
 have nb:g≠gr:=fun e=>by
  subst e;have hx:w.heap[g]?=_:=hV.box;rw[hr']at hx;injection hx with hx;injection hx with _ hx;exact absurd hx gm
 exact⟨m,la,ns,es,own,A,L,⟨vn,ve,hV.box.grown hg (by intro e;injection e with e;exact nb e),hV.base,hV.nodes.kept hg (.inr (ne hV.nodes gm )),hV.ru.kept hg (.inr (ne hV.ru gm ))⟩,R,I,hl⟩
theorem aaq{gr:Nat}{w w':World}{cs:List lZ}(hr:pM w gr cs)(hg:w.grownBy w' (some gr)):KeepsOthers w w':=⟨hg.size,fun k o hx ho=>by
 have hne:some k≠some gr:=fun e=>by
  injection e with e;subst e;rw[show w.heap[k]?=_ from hr]at hx;cases hx;cases ho
 exact(hg.block k (ax.1 hx).1 hne).trans hx⟩
theorem Ol{gr h:Nat}{w w':World}(hg:w.grownBy w' (some gr)):iZ (fun b=>b=gr) h w w':=⟨hg.size,fun b o _ hm hx=>(hg.block b (ax.1 hx).1 (by intro e;injection e with e;exact hm e)).trans hx⟩
theorem pM.put'{w:World}{g:Nat}{cs:List lZ}(h:pM w g cs){i:Nat}{c:lZ}(hc:cs[i]?=some c)(x:lZ):pM (Oj w g i x) g (cs.set i x):=h.put hc x
theorem Om(w:World)(g i:Nat)(x:lZ)(cs:List lZ)(hr:pM w g cs)(hi:i<cs.length):
  (storeVar 132 ⟨g,i*5,none⟩ (.agg #[.bool x.has,.int .u64 (x.base.1.toNat:Int),.int .u64 (x.base.2.toNat:Int),.string (fu x.delta),.int .i64 x.size])).run prog w=.ok () (Oj w g i x):=by
 obtain⟨ic,hic,hy0,hy1,hy2⟩:=info_parts Tryz.L8;have hsz:(cs.flatMap FM).toArray.size=cs.length*5:=by simp[lU wR]
 have hrun:=run_storeCells_cells (P:=prog) g (i*5) [.bool x.has,.int .u64 (x.base.1.toNat:Int),.int .u64 (x.base.2.toNat:Int),.string (fu x.delta),.int .i64 x.size] 0 w
  (fun j hj=>by
   have hj':j<5:=hj;have:i*5+j<(cs.flatMap FM).toArray.size:=by rw[hsz];omega
   rw[Nat.add_zero,hr.cell (j:=i*5+j) (bg this)];rfl) (fun j hj=>hr.frozen _) (fun v hv=>by
   simp only[bC,List.not_mem_nil,or_false]at hv;rcases hv with rfl|rfl|rfl|rfl|rfl<;>rfl)
 simp[storeVar,sizeOf,typeInfo,hic,Value.cells,hy1,hrun];rfl
theorem uO{F:Fence}{k:Nat}(w:World){ops:Array Oper}{rest:List Oper}{o:Oper}{a:Go.Act}{Q:Exit→Go.Act→World→Prop}(hgd:o.guard=none)(p y:Operand)(ho:o.op=Op.store 132 p y)(g i:Nat)(x:lZ)(cs:List lZ)(hr:pM w g cs)(hi:i<cs.length)(hp:a.eval p=.pointer (some ⟨g,i*5,none⟩))(hy:a.eval y=.agg #[.bool x.has,.int .u64 (x.base.1.toNat:Int),.int .u64 (x.base.2.toNat:Int),.string (fu x.delta),.int .i64 x.size])(hd:o.dst=none)(hK:wpListIn F k prog ops Q rest a (Oj w g i x)):wpListIn F k prog ops Q (o::rest) a w:=by
 refine wpListIn_plain hgd fun K hK'=>?_
 have hrun:=Om w g i x cs hr hi;unfold Oper.wpIn;refine⟨?_,?_⟩
 ·simp[Oper.about,ho]
 ·rw[Oper.semAt_plain F _ _ (by rw[ho];intro c hc';cases hc')];unfold execOp;simp only[ho,hp,hy,Instr.storeAt,Instr.sureAddr,Sem.run_bind,Sem.run_pure,Result.andThen_ok,hrun];refine hK' _ _ ?_;simpa [Act.put,hd] using hK
theorem XR{p:List It}{l base:List Dg}{x:YL}(h:x∈qh p l base):x.data=iC p x.dg∧((x.dg∈base∧x.frm=0)∨∃k,l[k]?=some x.dg∧x.frm=k+1):=by
 unfold qh at h;rcases bq.1 h with h|h
 ·obtain⟨d,hd,rfl⟩:=dS.1 h;exact⟨rfl,.inl ⟨hd,rfl⟩⟩
 ·obtain⟨⟨d,i⟩,hd,rfl⟩:=dS.1 h;refine⟨rfl,.inr ⟨i,?_,rfl⟩⟩;have:=List.mk_mem_zipIdx_iff_getElem?.1 hd;exact this
theorem QZ(w:World)(A1 A2:Option Addr)(n1 c1 n2 c2 mb:Nat):
  Calls prog 61 #[.slice A2 n2 c2,.slice A1 n1 c1,.map (some mb)] w fun e w'=>e=.returned (.func (.func 105) #[] #[.pointer (some ⟨w.heap.size+1,0,none⟩),.pointer (some ⟨w.heap.size+2,0,none⟩),.pointer (some ⟨w.heap.size,0,none⟩)]) ∧
   w'=((w.alloc (.cells #[.slice A2 n2 c2] 27)).alloc (.cells #[.slice A1 n1 c1] 27)).alloc (.cells #[.map (some mb)] 72):=by
 go_enter func61,ntmps61;go_wp2;go_ret;exact⟨rfl,rfl⟩
end Go.Proofs.YtichfhpgdhdiaaaGreat
