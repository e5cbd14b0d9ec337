/- delta -/
import Derived.Test.YtichfhpgdhdiaaaGreatJ23
import Derived.Test.YtichfhpgdhdiaaaGreatJ4
import Derived.Test.YtichfhpgdhdiaaaGreatJ2
import Derived.Deep.RegionHeld3
import Derived.StillTailTactics
import Derived.Deep.CutBlock
import Derived.Test.YtichfhpgdhdiaaaGreatJ3
set_option maxRecDepth 100000
set_option maxHeartbeats 8000000
set_option linter.unusedVariables false
set_option linter.unusedSimpArgs false
open Go.Proofs.Tryz
namespace Go.Proofs.YtichfhpgdhdiaaaGreat
open Go.RowKit
def Sv(B g:Nat)(Bq:lu)(q part m:Nat)(e0:Option Nat)(w0 w:World):Prop :=
 ∃ns es own C,xW w B g ns es∧tH ns es own C∧Copy es own Bq q part e0 C∧ns.length=m∧Below B w0 w
def Sw(A:lu)(L:Nat→List UInt8)(t:List UInt8)(c:UInt8)(whole p q part:Nat)(Bq:lu)(B g m:Nat)(p':Option Nat)(b:Nat)(w0 w:World):Prop :=
 ∃ns es own D,xW w B g ns es∧tH ns es own D∧Turn A L t c whole p q part Bq p' b D∧ns.length=m∧Below B w0 w
def DU(A:lu)(L:Nat→List UInt8)(t:List UInt8)(c:UInt8)(whole p q part:Nat)(Bq:lu)(B g:Nat)(w:World):Prop :=
 ∃ns es own D p' b,xW w B g ns es∧tH ns es own D∧ns.length=part+1∧Turn A L t c whole p q part Bq p' b D∧Turned A c p q part Bq D
def stepM(i:Value)(A:lu):Nat:=if intOf i<0 then 0 else A.len (intOf i).toNat+1
theorem DT(A:lu):stepM (.int .i64 (mJ none)) A=0:=rfl
theorem ug(A:lu)(p:Nat):stepM (.int .i64 (mJ (some p))) A=A.len p+1:=by
 have h:¬((p:Nat):Int)<0:=by omega
 simp[stepM,intOf,mJ,h]
theorem Qa(w:World){B g:Nat}{ns:List Nd}{es:List Ed}{own:Nat→Nat}{A Bq:lu}{L:Nat→List UInt8}{t:List UInt8}{last whole p q b:Nat}{c:UInt8}(M:xW w B g ns es)(R:tH ns es own Bq)(h:A.Inv L t last)(hf:¬A.V whole)(P:Path A L t c whole (some p) b Bq)(hg:Bq.go p c=some q)(hl:A.len p+1<A.len q)(hn:ns.length≤200000)(ht:t.length≤100000000):
  Calls prog 165 #[.pointer (some ⟨g,0,none⟩),.int .i64 p,.int .i64 q,.int .u8 c.toNat] w fun e w' =>
   e=.returned (.int .i64 ns.length)∧DU A L t c whole p q ns.length Bq B g w'∧Below B w w':=by
 obtain⟨i1,hi1,hy0,hy1,hy2⟩:=info_parts Tryz.FZ;obtain⟨vq,hge⟩:=P.Ij h hg;obtain⟨vp,hpt,hb⟩:=P.pos;have hpw:p≠whole:=fun e=>hf (e▸vp)
 have hqw:q≠whole:=fun e=>hf (e▸vq)
 have hvp:p<ns.length:=(R.V p).1 ((P.V p).2 (.inl vp));have hvq:q<ns.length:=(R.V q).1 ((P.V q).2 (.inl vq));have hvw:whole<ns.length:=(R.V whole).1 ((P.V whole).2 (.inr rfl));have hfp:¬A.V ns.length:=fun e=>by have:=(R.V ns.length).1 ((P.V _).2 (.inl e));omega
 have hpx:=au hvp;have Zb:=au hvq;generalize ns[p]=px at hpx;generalize ns[q]=qx at Zb;have r1:=(R.node p px hpx).1;have r2:=(R.node q qx Zb).2.1;have r3:=(R.node q qx Zb).2.2.1;have r1':px.len=A.len p:=by rw[r1,P.len];exact upd_ne _ _ hpw
 have hlen:=h.Ik vq;have R1:=R.Yf (px.len+1) qx.link qx.fin;rw[r1',r2,r3]at R1;have HR1:=af R1;have HCS:=af (Kj (l:=A.len p+1) (lk:=Bq.link q) (f:=Bq.fin q) R Zb);obtain⟨vn,ve,hV⟩:=M;obtain⟨gn,cn,rfl,_,hc1,hc2,n0,_⟩:=hV.lM hpx;obtain⟨gn',cn',e1,_,_,_,_,m1,m2,m3⟩:=hV.lM Zb;injection e1 with e1 _ e3;subst e3;injection e1 with e1;injection e1 with e1 _ _;subst e1;have b0:w.cell? ⟨g,0,none⟩=some (.slice (some ⟨gn,0,none⟩) ns.length cn):=hV.box.cell rfl;have hgs:=hV.box.lt;have hbs:=hV.base;have hon:=hV.nodes;have hgl:=(hon.lt gn rfl).2;have oP:=hV.box
 have H:=af hV;have HH:=af h;have HP:=af P;have Hf:=af hf;have Hfp:=af hfp;have Hg:=af hg;have HE:Hid (Yn ⟨A.len p+1,Bq.link q,Bq.fin q,none⟩ = [.int .i64 ((px.len:Int)+1),.int .i64 (mJ qx.link),.int .i64 qx.fin,.int .i64 (-1)]):=by
  show _=_;rw[r1',r2,r3];rfl
 have hpl:px.len+1<100000000:=by omega
 clear R R1 hV h P hf hfp hg hge r1 r1' r2 r3 hl hpt hb vp vq;generalize mJ qx.link=lk at *;generalize qx.fin=fi at *;generalize px.len=pl at *;have hxl:=Zb;clear hpx Zb;have hz1:IntKind.i64.wrap ((pl:Int)+1)=(pl:Int)+1:=jo fZ fZ ;go_enter func165,ntmps165;go_wp2_with fail;refine nN (S:=fun w'=>w'.cell? ⟨g,0,none⟩=some (.slice (some ⟨gn,0,none⟩) ns.length cn)∧w'.cell? ⟨gn,p*4,none⟩=some (.int .i64 pl)∧w'.cell? ⟨gn,q*4+1,none⟩=some (.int .i64 lk)∧w'.cell? ⟨gn,q*4+2,none⟩=some (.int .i64 fi)) gB ⟨b0,n0,m1,m2⟩ 32 ?_
 refine gP 0 ?_;refine gP 1 ?_;refine gP 2 ?_;refine gP 3 ?_;refine jr 4 [0] ?_;refine gP 5 ?_;refine gP 6 ?_;refine gP 7 ?_;refine jr 8 [0] ?_;refine gP 9 ?_;refine gP 10 ?_;refine gP 11 ?_;refine jr 12 [0] ?_;refine gP 13 ?_;refine gP 14 ?_;refine gP 15 ?_;refine gP 16 ?_;refine jr 17 [0] ?_;refine gP 18 ?_;refine gP 19 ?_;refine gP 20 ?_;refine jr 21 [0] ?_;refine gP 22 ?_;refine gP 23 ?_;refine gP 24 ?_;refine jr 25 [0] ?_;refine gP 26 ?_;refine gP 27 ?_;refine gP 28 ?_;refine jr 29 [0] ?_
 refine gP 30 ?_;refine kF.on 31 ?_;intro K hK;go_simp;have Fs:=((ah w.heap.size w).alloc (ak _) (.cells #[.int .i64 ((pl:Int)+1),.int .i64 lk,.int .i64 fi,.int .i64 (-1)] 196)).drew;have hK':=hK;clear hK;refine hK' _ _ ⟨by rw[Fs.cell (p:=⟨g,0,none⟩) hgs];exact b0,by rw[Fs.cell (p:=⟨gn,p*4,none⟩) hgl];exact n0,by rw[Fs.cell (p:=⟨gn,q*4+1,none⟩) hgl];exact m1,by rw[Fs.cell (p:=⟨gn,q*4+2,none⟩) hgl];exact m2⟩ ?_;clear hK' K;refine Cy 32 ?_;refine jf _ rfl _ _ _ rfl B 196 i1 _ 4 32 underlying197 hi1 hy0 hy1 hy2 rfl fZ (.slice (some ⟨gn,0,none⟩) ns.length cn) ns.length _ rfl (World.ownsRow.drew (World.ownsRow.alloc hon _)) _ 1 1 [.int .i64 ((pl:Int)+1),.int .i64 lk,.int .i64 fi,.int .i64 (-1)] rfl rfl (gY _ _ _ _) (by simp[Value.oneCell']) fZ fZ (by simp;omega) ?_
 intro v1 w2 hown1 hgr hat;obtain⟨A',c',rfl⟩:=iw hown1;have hbk2:=gV.grown (gV.drew (gV.alloc oP (.cells #[.int .i64 ((pl:Int)+1),.int .i64 lk,.int .i64 fi,.int .i64 (-1)] 196))) hgr (ig hon oP gm ).symm;have p1:=hbk2.cl 0;have f1:=hbk2.frozen 0;have H2:=(H.out.keep Fs).DL (x:=⟨A.len p+1,Bq.link q,Bq.fin q,none⟩) (by rw[HE.out];exact hown1) hgr (ig hon oP gm );have hd3:=((Fs.mono (show B≤w.heap.size by omega)).grown hgr (by simp;omega) (fun g' h=>(hon.lt g' h).1)).setCell (p:=⟨g,0,none⟩) hbs (.slice A' (ns.length+1) c')
 simp only[Act.put,SA];refine gP 33 ?_;refine gP 34 ?_;refine kF.lt 35 ?_;intro K hK;go_simp;refine hK _ _ (kF.done gB ?_);clear hK K;refine NoPanic.normal ?_;clear p1 f1 hbk2 hown1 hgr hat Fs hon oP b0 n0 m1 m2 m3 H HE hz1 hgs hgl hc1 hc2;generalize w2.setCell ⟨g,0,none⟩ (.slice A' (ns.length+1) c')=w3 at *;have abK:(ns++[(⟨A.len p+1,Bq.link q,Bq.fin q,none⟩:Nd)])[q]?=some qx:=by rw[aY hvq];exact hxl
 obtain⟨gn',cn',e1,_,hc1',hc2',_,_,_,k3⟩:=H2.lM abK;injection e1 with e1 e2 e3;subst e1;subst e3;rw[←e2]at hc1';clear e2;have c0:w3.cell? ⟨g,0,none⟩=some (.slice (some ⟨gn',0,none⟩) (ns.length+1) c'):=H2.box.cl 0;have hw1:IntKind.i64.wrap (((ns.length+1:Nat):Int)-1)=(ns.length:Int):=by rw[jo fZ fZ ];omega
 have HC:Sv B g (Bq.node ns.length (A.len p+1) (Bq.link q) (Bq.fin q)) q ns.length (ns.length+1) qx.edge w w3:=⟨_,_,_,_,⟨_,_,H2⟩,HR1.out,HCS.out,by simp,hd3⟩;have HC':=af HC;clear HC HR1 HCS H2 hd3 hxl abK;clear hi1 hy0 hy1 hy2;go_wp2;go_loopw [10] (fun i wr=>∃e0:Option Nat,i=.int .i64 (mJ e0)∧Sv B g (Bq.node ns.length (A.len p+1) (Bq.link q) (Bq.fin q)) q ns.length (ns.length+1) e0 w wr) (fun i _=>(intOf i+1).toNat)
 case atStart=>exact⟨_,rfl,HC'.out⟩
 case round =>
  obtain⟨e0,rfl,HC⟩:=hrel;cases e0 with
  |none =>
   obtain⟨Wz,es2,Sq,C,⟨vn2,ve2,HV⟩,R2,K2,hm,hb⟩:=HC;have ML:q≠ns.length:=by omega
   have hT:=Kk HH.out Hf.out Hfp.out fZ HP.out Hg.out K2.same K2.go (fun x=>by rw[K2.fin R2 fZ ML x]);have OL:=au (show q<Wz.length by omega);generalize Wz[q]=xq at OL;have hk:=R2.rW OL (some ns.length);obtain⟨gn2,cn2,rfl,hg1,hg2,hfr,HW⟩:=HV.zf OL (k:=1) fZ (x':={ xq with link:=some ns.length }) (u:=.int .i64 ns.length) rfl;have c2:wr.cell? ⟨g,0,none⟩=some (.slice (some ⟨gn2,0,none⟩) Wz.length cn2):=HV.box.cell rfl;obtain⟨_,_,e1,_,_,_,_,q1,_,_⟩:=HV.lM OL;injection e1 with e1 _ e3;injection e1 with e1;injection e1 with e1 _ _;subst e1;clear e3
   have hlq:q<Wz.length:=by omega
   have HC2:Sw A L t c whole p q ns.length Bq B g (ns.length+1) (some p) (A.len p+1) w (wr.setCell ⟨gn2,q*4+1,none⟩ (.int .i64 ns.length)) :=
    ⟨_,_,_,_,⟨_,_,HW⟩,hk,hT,by rw[aX];exact hm,hb.setCell (p:=⟨gn2,q*4+1,none⟩) hg1 _⟩
   have afm:=af HC2;clear HC2 HW hk hT HV R2 K2 hm hb OL HC';simp only[nY];go_wp2;go_loopw [1] (fun i wr=>∃p':Option Nat,i=.int .i64 (mJ p')∧∃b,Sw A L t c whole p q ns.length Bq B g (ns.length+1) p' b w wr) (fun i _=>stepM i A)
   case atStart=>exact⟨_,rfl,_,afm.out⟩
   case round =>
    obtain⟨p',rfl,b',HC⟩:=hrel;obtain⟨Fe,es3,ae5,D,M3,R3,T3,Yg,hb3⟩:=HC;cases p' with
    |none =>
     have HS:DU A L t c whole p q ns.length Bq B g wr:=⟨_,_,_,_,_,_,M3,R3,Yg,T3,T3.DN⟩;have Wu:=af HS;have Hb:=af hb3;clear HS M3 R3 T3 Yg hb3;simp only[nY];go_wp2;go_ret;exact⟨rfl,Wu.out,Hb.out⟩
    |some r =>
     obtain⟨vr,hrt,hrb⟩:=T3.pos;have hr3:r<Fe.length:=(R3.V r).1 ((T3.V r).2 (.inl (.inl vr)));have Ii:=au hr3;generalize Fe[r]=xr at Ii;have CF:=af (DR _ M3 R3 Ii c);have JY:=af M3;have HR3:=af R3;have HT3:=af T3;have Hm:=af Yg;have Hb:=af hb3;have HX:=af Ii;clear M3 R3 T3 Yg hb3 Ii hrt hrb vr;simp only[lC];go_wp2_with fail;refine CF.out.mono ?_;rintro e w1 ⟨rfl,e0,rfl,hf⟩;cases e0 with
     |none =>
      have hd:=hf.none HR3.out hr3;have HS:DU A L t c whole p q ns.length Bq B g w1:=⟨_,_,_,_,_,_,JY.out,HR3.out,Hm.out,HT3.out,HT3.out.zh HH.out HP.out Hg.out (by rw[hd];exact fun e=>(by cases e))⟩;have Wu:=af HS;clear HS hd hf;simp only[nY];go_wp2;go_ret;exact⟨rfl,Wu.out,Hb.out⟩
     |some j =>
      obtain⟨y,hy,ho,hl',hd⟩:=hf.some HR3.out;obtain⟨vn3,ve3,wV⟩:=JY.out;obtain⟨ge,ce,rfl,hj,Y4,Y5,e0,e1,e2⟩:=wV.zi hy;have b1:w1.cell? ⟨g,1,none⟩=some (.slice (some ⟨ge,0,none⟩) es3.length ce):=wV.box.cell rfl;by_cases hq:y.tto=q
      ·obtain⟨b2,hb2,HN⟩:=HT3.out.next HH.out Hf.out Hfp.out HP.out Hg.out (by rw[hd,hq])
       have afn:ns.length<Fe.length:=by have:=Hm.out;omega
       have hk:=HR3.out.abL hy afn;rw[ho]at hk;obtain⟨ge',ce',e3,hg1,hg2,hfr,HW⟩:=wV.Sn hy (k:=1) fZ (x':=⟨y.letter,ns.length,y.next⟩) (u:=.int .i64 ns.length) rfl;injection e3 with e3 _ e4;injection e3 with e3;injection e3 with e3 _ _;subst e3;subst e4;have Ii:=HX.out;obtain⟨gn3,cn3,rfl,hv3,hc31,hc32,n0,n1,n2,n3⟩:=HW.lM Ii;have b0:(w1.setCell ⟨ge,j*3+1,none⟩ (.int .i64 ns.length)).cell? ⟨g,0,none⟩=some (.slice (some ⟨gn3,0,none⟩) Fe.length cn3):=HW.box.cell rfl;have hlk:=(HR3.out.node r xr Ii).2.1;have hms:stepM (.int .i64 (mJ xr.link)) A<A.len r+1:=by
        rw[hlk];have hp1:=HN.pos;obtain⟨_,_,hb1⟩:=HT3.out.pos;cases hq:D.link r with
        |none=>rw[DT];omega
        |some u=>rw[hq]at hp1;obtain⟨_,_,hp2⟩:=hp1;rw[ug];omega
       rw[←hlk]at HN;have Yh:Sw A L t c whole p q ns.length Bq B g (ns.length+1) xr.link b2 w (w1.setCell ⟨ge,j*3+1,none⟩ (.int .i64 ns.length)) :=
        ⟨_,_,_,_,⟨_,_,HW⟩,hk,by rw[hl'];exact HN,Hm.out,Hb.out.setCell (p:=⟨ge,j*3+1,none⟩) hg1 _⟩
       have Sj:=af Yh;have Hms:=af hms;subst hq;clear Yh HN hk HW wV hy hf hd Ii hlk hms ho hl' HX hb2 CF JY HR3 HT3 Hm;simp only[lC];go_upto_region 12 with (fail);clear e0 e1 e2 b1 hfr;generalize w1.setCell ⟨ge,j*3+1,none⟩ (.int .i64 ns.length)=w5 at *;go_wp2;go_roundw
       case rel=>exact⟨_,rfl,_,Sj.out⟩
       case measure=>rw[←lC,ug];exact Hms.out
      ·have HS:DU A L t c whole p q ns.length Bq B g w1:=⟨_,_,_,_,_,_,JY.out,HR3.out,Hm.out,HT3.out,HT3.out.zh HH.out HP.out Hg.out (by rw[hd];exact fun e=>hq (aB e))⟩;have Wu:=af HS;clear HS hd hf hy ho hl' wV;have hq':((y.tto:Int) != (q:Int))=true:=by
        rw[bne_iff_ne];omega
       clear hq;simp only[lC];go_wp2;go_ret;exact⟨rfl,Wu.out,Hb.out⟩
  |some j =>
   obtain⟨Wz,es2,Sq,C,⟨vn2,ve2,HV⟩,R2,K2,hm,hb⟩:=HC;obtain⟨y,hy⟩:∃y,es2[j]?=some y:=by
    obtain⟨k,h1,h2,_⟩:=K2.k;exact⟨_,au (by have:=(mK h2.symm).1;omega)⟩
   have afo:ns.length<Wz.length:=by omega
   have hx2:=au afo;generalize Wz[ns.length]=x2 at hx2;have ae6:=R2.few;obtain⟨ge,ce,rfl,hj,Y4,Y5,e0,e1,e2⟩:=HV.zi hy;have b1:wr.cell? ⟨g,1,none⟩=some (.slice (some ⟨ge,0,none⟩) es2.length ce):=HV.box.cell rfl;have HVd:=HV.keep (ah wr.heap.size wr).drew;obtain⟨K2a,K2b⟩:=Copy.next (nx:=x2.edge) R2 K2 fZ hy
   have abM:=(R2.next j y hy).2.1;have hlt:mJ y.next<j:=by
    have:=(R2.next j y hy).2.2;rw[this];cases hq:lT Sq (Sq j) j with
    |none=>simp[mJ];omega
    |some q=>have:=(mK hq).1;simp[mJ];omega
   have hge : -1≤mJ y.next:=by
    cases y.next with
    |none=>simp[mJ]
    |some q=>simp only[mJ];omega
   have R3:=R2.add hx2 (u:=y.tto) abM K2a;have HR3:=af R3;have Cf:=af K2b;have CA:=af (OI wr.drew ⟨_,_,HVd⟩ hx2 y.letter y.tto fZ );have HY:=af hy;have Hm:=af hm;have Hb:=af hb;clear R2 K2 hm hb hy HV HVd K2a K2b R3 hx2 abM;simp only[lC];go_wp2_with fail;go_still_tail 18, gB ;go_wp2_with fail;refine CA.out.mono ?_;rintro e w4 ⟨rfl,⟨vn4,ve4,Nc⟩,hb4⟩;have hb5:=Hb.out.trans (((ah B wr).drew).trans hb4);have hy4:(es2++[(⟨y.letter,y.tto,x2.edge⟩:Ed)])[j]?=some y:=by rw[aY hj];exact HY.out
   obtain⟨ge4,ce4,rfl,hj4,abv,ae8,f0,f1,f2⟩:=Nc.zi hy4;have d1:w4.cell? ⟨g,1,none⟩=some (.slice (some ⟨ge4,0,none⟩) (es2++[(⟨y.letter,y.tto,x2.edge⟩:Ed)]).length ce4):=Nc.box.cell rfl;have Yh:Sv B g (Bq.node ns.length (A.len p+1) (Bq.link q) (Bq.fin q)) q ns.length (ns.length+1) y.next w w4:=⟨_,_,_,_,⟨_,_,Nc⟩,HR3.out,Cf.out,by rw[aX];exact Hm.out,hb5⟩
   have Sj:=af Yh;clear Yh Nc hb4 hb5 hy4 HR3 Cf CA HY Hm Hb;generalize (es2++[(⟨y.letter,y.tto,x2.edge⟩:Ed)]).length=m4 at *;go_wp2;go_roundw
   case rel=>exact⟨_,rfl,Sj.out⟩
   case measure=>simp[intOf];omega
end Go.Proofs.YtichfhpgdhdiaaaGreat
namespace Go.Proofs.YtichfhpgdhdiaaaGreat
open Go.RowKit
def Ga(A:lu)(L:Nat→List UInt8)(t:List UInt8)(c:UInt8)(whole:Nat)(B g m:Nat)(p':Option Nat)(b:Nat)(w0 w:World):Prop :=
 ∃ns es own D,xW w B g ns es∧tH ns es own D∧Path A L t c whole p' b D∧ns.length=m∧Below B w0 w
def Ws(t:List UInt8)(B g m last:Nat)(w:World):Prop :=
 ∃ns es own A L,xW w B g ns es∧tH ns es own A∧A.Inv L t last∧ns.length≤m
theorem Ga.keep{A:lu}{L:Nat→List UInt8}{t:List UInt8}{c:UInt8}{whole B g m b:Nat}{p':Option Nat}{w0 w w':World}(h:Ga A L t c whole B g m p' b w0 w)(k:Below w.heap.size w w')(hB:B≤w.heap.size):Ga A L t c whole B g m p' b w0 w':=by
 obtain⟨ns,es,own,D,⟨vn,ve,h1⟩,h2,h3,h4,h5⟩:=h;exact⟨ns,es,own,D,⟨vn,ve,h1.keep k⟩,h2,h3,h4,h5.trans (k.mono hB)⟩
def Wt(t:List UInt8)(B g m:Nat)(w0:World)(e:Ending)(w:World):Prop:=∃last',e=.returned (.int .i64 (last':Nat))∧Ws t B g m last' w∧Below B w0 w
theorem Nb(w:World){B g:Nat}{ns:List Nd}{es:List Ed}{own:Nat→Nat}{A:lu}{L:Nat→List UInt8}{t:List UInt8}{last:Nat}{c:UInt8}(M:xW w B g ns es)(R:tH ns es own A)(h:A.Inv L t last)(hn:ns.length≤199998)(ht:t.length≤1000000):
  Calls prog 144 #[.pointer (some ⟨g,0,none⟩),.int .i64 last,.int .u8 c.toNat] w (Wt (t++[c]) B g (ns.length+2) w):=by
 obtain⟨i1,hi1,hy0,hy1,hy2⟩:=info_parts Tryz.FZ;have hvl:last<ns.length:=(R.V last).1 h.last.1;have hf:¬A.V ns.length:=fun e=>by have:=(R.V ns.length).1 e;omega
 have hlx:=au hvl;generalize ns[last]=lx at hlx;have hll:lx.len=t.length:=by rw[(R.node last lx hlx).1,←h.len last h.last.1,h.last.2]
 obtain⟨vn,ve,hV⟩:=M;obtain⟨gn,cn,rfl,_,hc1,hc2,n0,_⟩:=hV.lM hlx;rw[hll]at n0;have b0:w.cell? ⟨g,0,none⟩=some (.slice (some ⟨gn,0,none⟩) ns.length cn):=hV.box.cell rfl;have hgs:=hV.box.lt;have hbs:=hV.base;have hon:=hV.nodes;have oP:=hV.box;have hgl:=(hon.lt gn rfl).2;have hP:=JX (c:=c) h hf;have hR:=R.Yf (t.length+1) (some 0) (t.length+1);have HH:=af h;have Hf:=af hf;have H:=af hV;have HP:=af hP;have HR:=af hR;clear h hf hV hP hR R hlx hll;have hbB:B≤w.heap.size:=by omega
 go_enter func144,ntmps144;go_wp2_with (at_builtin;go_must (refine iE _ rfl (.tmp 24) (.tmp 28) _ rfl B 196 i1 _ 4 32 underlying197 hi1 hy0 hy1 hy2 rfl fZ (.slice (some ⟨gn,0,none⟩) ns.length cn) ns.length _ rfl (World.ownsRow.alloc hon _) _ 1 1 [.int .i64 ((t.length:Int)+1),.int .i64 0,.int .i64 ((t.length:Int)+1),.int .i64 (-1)] rfl rfl (gY _ _ _ _) (by simp[Value.oneCell']) fZ fZ (by simp;omega) ?_));intro v1 w2 hown1 hgr hat;obtain⟨A',c',rfl⟩:=iw hown1
 have Fs:=(ah w.heap.size w).alloc (ak _) (.cells #[.int .i64 ((t.length:Int)+1),.int .i64 0,.int .i64 ((t.length:Int)+1),.int .i64 (-1)] 196);have hbk2:=gV.grown (gV.alloc oP (.cells #[.int .i64 ((t.length:Int)+1),.int .i64 0,.int .i64 ((t.length:Int)+1),.int .i64 (-1)] 196)) hgr (ig hon oP gm ).symm;have p1:w2.cell? ⟨g,0,none⟩=some (.slice (some ⟨gn,0,none⟩) ns.length cn):=hbk2.cl 0;have f1:=hbk2.frozen 0;have H2:=(H.out.keep Fs).DL (x:=⟨t.length+1,some 0,t.length+1,none⟩) hown1 hgr (ig hon oP gm );have hd3:=((Fs.mono (show B≤w.heap.size by omega)).grown hgr (by simp;omega) (fun g' h=>(hon.lt g' h).1)).setCell (p:=⟨g,0,none⟩) hbs (.slice A' (ns.length+1) c')
 have hs3:B≤(w2.setCell ⟨g,0,none⟩ (.slice A' (ns.length+1) c')).heap.size:=by have:=hd3.size;omega
 have c0:(w2.setCell ⟨g,0,none⟩ (.slice A' (ns.length+1) c')).cell? ⟨g,0,none⟩=some (.slice A' (ns.length+1) c'):=H2.box.cl 0;have HC:Ga A L t c ns.length B g (ns.length+1) (some last) (t.length+1) w (w2.setCell ⟨g,0,none⟩ (.slice A' (ns.length+1) c')):=⟨_,_,_,_,⟨_,_,H2⟩,HR.out,HP.out,by simp,hd3⟩;have HC':=af HC;have hw1:IntKind.i64.wrap (((ns.length+1:Nat):Int)-1)=(ns.length:Int):=by rw[jo fZ fZ ];omega
 clear HC H2 hd3 hown1 hgr hat Fs hbk2 H HP HR hi1 hy0 hy1 hy2 hon oP n0 b0;go_upto_region 3 with (fail);clear p1 f1;generalize w2.setCell ⟨g,0,none⟩ (.slice A' (ns.length+1) c')=w3 at *;go_wp2;go_loopw [9] (fun i wr=>∃p':Option Nat,i=.int .i64 (mJ p')∧∃b,Ga A L t c ns.length B g (ns.length+1) p' b w wr) (fun i _=>stepM i A)
 case atStart=>exact⟨some last,rfl,_,HC'.out⟩
 case round =>
  obtain⟨p',rfl,b,HC⟩:=hrel;clear HC' c0;obtain⟨Fe,es3,ae5,D,M3,R3,P3,Yg,hb3⟩:=HC;cases p' with
  |none =>
   obtain⟨k1,k2⟩:=P3.DN HH.out Hf.out;have HE:Wt (t++[c]) B g (ns.length+2) w (.returned (.int .i64 ns.length)) wr:=⟨_,rfl,⟨_,_,_,_,_,M3,R3.congr k1,k2,by omega⟩,hb3⟩;have qB:=af HE;clear HE k1 k2 M3 R3 P3 Yg hb3;simp only[nY];go_wp2;go_ret;exact qB.out
  |some r =>
   obtain⟨vr,hrt,hrb⟩:=P3.pos;have hr3:r<Fe.length:=(R3.V r).1 ((P3.V r).2 (.inl vr));have Ii:=au hr3;generalize Fe[r]=xr at Ii;have CF:=af (DR _ M3 R3 Ii c);have JY:=af M3;have HR3:=af R3;have Gb:=af P3;have Hm:=af Yg;have Hb:=af hb3;have HX:=af Ii;clear M3 R3 P3 Yg hb3 Ii hrt hrb;simp only[lC];go_wp2_with fail;refine CF.out.mono ?_;rintro e w1 ⟨rfl,e0,rfl,hf⟩;cases e0 with
   |none =>
    have hd:=hf.none HR3.out hr3;obtain⟨b2,hb2,HN⟩:=Gb.out.next HH.out Hf.out hd
    have hlk:=(HR3.out.node r xr HX.out).2.1;have ae6:=HR3.out.few;have CA:=af (OI _ JY.out HX.out c ns.length (by have:=Hm.out;omega));have hk:=HR3.out.add HX.out (u:=ns.length) (by have:=Hm.out;omega) hd;have hms:stepM (.int .i64 (mJ xr.link)) A<A.len r+1:=by
     rw[hlk];have hp1:=HN.pos;obtain⟨_,_,hb1⟩:=Gb.out.pos;cases hq:D.link r with
     |none=>rw[DT];omega
     |some u=>rw[hq]at hp1;obtain⟨_,_,hp2⟩:=hp1;rw[ug];omega
    rw[←hlk]at HN;have HN':=af HN;have Hk:=af hk;have Hms:=af hms;clear HN hk hms hlk hd hf hb2 CF;simp only[nY];go_wp2_with fail;refine CA.out.mono ?_;rintro e w4 ⟨rfl,⟨vn4,ve4,Nc⟩,hb4⟩;have hx4:(Fe.set r { xr with edge:=some es3.length })[r]?=some { xr with edge:=some es3.length }:=bE hr3;obtain⟨gn4,cn4,rfl,hj4,abv,ae8,f0,f1,f2,f3⟩:=Nc.lM hx4;rw[aX]at hj4 abv;have d1:w4.cell? ⟨g,0,none⟩=some (.slice (some ⟨gn4,0,none⟩) (Fe.set r { xr with edge:=some es3.length }).length cn4):=Nc.box.cell rfl;rw[aX]at d1;have Yh:Ga A L t c ns.length B g (ns.length+1) xr.link b2 w w4:=⟨_,_,_,_,⟨_,_,Nc⟩,Hk.out,HN'.out,by rw[aX];exact Hm.out,Hb.out.trans hb4⟩
    have Sj:=af Yh;clear Yh Nc hb4 hx4 Hk HN' CA JY HR3 Gb Hm Hb HX;go_wp2;go_roundw
    case rel=>exact⟨_,rfl,_,Sj.out⟩
    case measure=>rw[←lC,ug];exact Hms.out
   |some j =>
    obtain⟨y,hy,ho,hl',hd⟩:=hf.some HR3.out;clear hf hy ho hl' CF;generalize y.tto=q at *;obtain⟨vq,hge⟩:=Gb.out.Ij HH.out hd;have hq3:q<Fe.length:=(HR3.out.V q).1 ((Gb.out.V q).2 (.inl vq));have CS:=JZ _ JY.out HR3.out hr3 c;rw[hd]at CS;have Nf:=af CS;have HD:=af hd;clear CS hd;simp only[lC];go_wp2_with fail;refine Nf.out.mono ?_;rintro e w4 ⟨rfl,rfl⟩;simp only[lC];obtain⟨vn5,ve5,HV5⟩:=JY.out;have OL:=au hq3;generalize Fe[q]=xq at OL;have hw3:ns.length<Fe.length:=by have:=Hm.out;omega
    have hxw:=au hw3;generalize Fe[ns.length]=xw at hxw;have l1:xr.len=A.len r:=by rw[(HR3.out.node r xr HX.out).1,Gb.out.len];exact upd_ne _ _ fun e=>by subst e;exact Hf.out vr
    have l2:xq.len=A.len q:=by rw[(HR3.out.node q xq OL).1,Gb.out.len];exact upd_ne _ _ fun e=>by subst e;exact Hf.out vq
    obtain⟨gn5,cn5,rfl,_,akN,akO,m0,_⟩:=HV5.lM HX.out;obtain⟨Y3,cn6,e6,_,_,_,q0,_⟩:=HV5.lM OL;injection e6 with e6 _ e7;injection e6 with e6;injection e6 with e6 _ _;subst e6;subst e7;obtain⟨Y3,cn6,e6,_,_,_,_,z1,_⟩:=HV5.lM hxw;injection e6 with e6 _ e7;injection e6 with e6;injection e6 with e6 _ _;subst e6;subst e7;have d0:w4.cell? ⟨g,0,none⟩=some (.slice (some ⟨gn5,0,none⟩) Fe.length cn5):=HV5.box.cell rfl;have fz:w4.frozen? ⟨gn5,ns.length*4+1,none⟩=false:=HV5.nodes.frozenAt _;have b1:=HH.out.Ik vr;have b2:=HH.out.Ik vq;rw[l1]at m0;rw[l2]at q0
    have Yi:=Hm.out;by_cases hl:A.len q≤A.len r+1
    ·obtain⟨k1,k2⟩:=Gb.out.zh HH.out Hf.out HD.out hl;have HS:∀n,Wt (t++[c]) B g (ns.length+2) w (.returned (.int .i64 ns.length)) ((w4.drewN n).setCell ⟨gn5,ns.length*4+1,none⟩ (.int .i64 q)):=fun n=>by
      have kb:=((jZ.refl w4).drewN n).below w4.heap.size;obtain⟨Y3,cn6,e6,h1,h2,_,HW⟩:=(HV5.keep kb).zf hxw (k:=1) fZ (x':={ xw with link:=some q }) (u:=.int .i64 q) rfl;injection e6 with e6 _ _;injection e6 with e6;injection e6 with e6 _ _;subst e6;exact⟨_,rfl,⟨_,_,_,_,_,⟨_,_,HW⟩,(HR3.out.rW hxw (some q)).congr k1,k2,by rw[aX];omega⟩,(Hb.out.trans (((jZ.refl w4).drewN n).below B)).setCell (p:=⟨gn5,ns.length*4+1,none⟩) h1 _⟩
     have Wu:=af HS;have hz1:IntKind.i64.wrap ((A.len r:Int)+1)=(A.len r:Int)+1:=jo fZ fZ ;clear HS k1 k2 HV5 OL hxw l1 l2 Nf HD JY HR3 Gb Hm Hb HX vr vq hge;have g1:¬(A.len r:Int)+1<A.len q:=by omega
     go_wp2;go_quiet (fail);go_wp2;go_ret;exact Wu.out _
    ·have CP:∀n,Calls prog 165 #[.pointer (some ⟨g,0,none⟩),.int .i64 r,.int .i64 q,.int .u8 c.toNat] (w4.drewN n) fun e w' =>
       e=.returned (.int .i64 Fe.length)∧DU A L t c ns.length r q Fe.length D B g w'∧Below B (w4.drewN n) w':=fun n =>
      Qa _ ⟨_,_,HV5.keep (((jZ.refl w4).drewN n).below w4.heap.size)⟩ HR3.out HH.out Hf.out Gb.out HD.out fZ fZ fZ
     have V9:=af CP;have hz1:IntKind.i64.wrap ((A.len r:Int)+1)=(A.len r:Int)+1:=jo fZ fZ ;have hfp:¬A.V Fe.length:=fun e=>by have:=(HR3.out.V Fe.length).1 ((Gb.out.V _).2 (.inl e));omega
     have Hfp:=af hfp;have Hvr:=af vr;clear CP HV5 OL hxw l1 l2 Nf JY HR3 Hm HX vr vq hge hfp fz z1;have g1:(A.len r:Int)+1<A.len q:=by omega
     have Hm5:=af Yi;clear Yi;go_wp2;go_quiet (fail);go_wp2_with fail;have Yi:=Hm5.out;refine(V9.out _).mono ?_;rintro e w5 ⟨rfl,HS,hb5⟩;have hb6:=Hb.out.trans ((((jZ.refl w4).drewN _).below B).trans hb5);obtain⟨ns6,es6,akR,D6,p6,b6,M6,R6,hm6,T6,TT⟩:=HS;obtain⟨k1,k2⟩:=T6.fin' HH.out Hf.out Hfp.out fZ Gb.out HD.out fZ TT;have hw6:ns.length<ns6.length:=by omega
     have hxw:=au hw6;generalize ns6[ns.length]=xw at hxw;obtain⟨vn6,ve6,Yj⟩:=M6;obtain⟨Y3,cn6,rfl,_,akT,akU,_,z1,_⟩:=Yj.lM hxw;have d0:w5.cell? ⟨g,0,none⟩=some (.slice (some ⟨Y3,0,none⟩) ns6.length cn6):=Yj.box.cell rfl;have fz:w5.frozen? ⟨Y3,ns.length*4+1,none⟩=false:=Yj.nodes.frozenAt _;have HS:Wt (t++[c]) B g (ns.length+2) w (.returned (.int .i64 ns.length)) (w5.setCell ⟨Y3,ns.length*4+1,none⟩ (.int .i64 Fe.length)):=by
      obtain⟨gn7,cn7,e6,h1,h2,_,HW⟩:=Yj.zf hxw (k:=1) fZ (x':={ xw with link:=some Fe.length }) (u:=.int .i64 Fe.length) rfl;injection e6 with e6 _ _;injection e6 with e6;injection e6 with e6 _ _;subst e6;exact⟨_,rfl,⟨_,_,_,_,_,⟨_,_,HW⟩,(R6.rW hxw (some Fe.length)).congr k1,k2,by rw[aX];omega⟩,hb6.setCell (p:=⟨Y3,ns.length*4+1,none⟩) h1 _⟩
     have Wu:=af HS;clear HS k1 k2 Yj hxw R6 T6 TT hb5 hb6 V9 HD Gb Hb Hfp Hvr hm6;clear Yi;go_wp2;go_ret;exact Wu.out
end Go.Proofs.YtichfhpgdhdiaaaGreat
namespace Go.Proofs.YtichfhpgdhdiaaaGreat
open Go.RowKit
theorem Nl:tH [⟨0,none,0,none⟩] [] (fun _=>0) qU:=by
 refine⟨fun v=>?_,fun v x hx=>?_,fun e x hx=>by simp at hx,fun e x hx=>by simp at hx,fun v c u _ h=>(by cases h),fun e _ x _ hx=>by simp at hx⟩
 ·show v=0↔v<1;omega
 ·have hv:=(ay.1 hx).1;simp only[aI,aM]at hv;obtain rfl:v=0:=by omega
  cases hx;exact⟨rfl,rfl,rfl,rfl⟩
theorem Qg(s:ByteArray)(k:Nat)(h:k<s.size):s.data.toList.take (k+1)=s.data.toList.take k++[s[k]]:=by
 rw[aN (by simpa using h)];rfl
def nO(t:List UInt8)(B g:Nat)(w:World):Prop:=∃m last,Ws t B g m last w
def abI(t:List UInt8)(w0:World)(e:Ending)(w:World):Prop:=∃g,e=.returned (.pointer (some ⟨g,0,none⟩))∧nO t w0.heap.size g w∧Below w0.heap.size w0 w
theorem Iq(w:World)(s:ByteArray)(hs:s.size≤65536):
  Calls prog 106 #[.string s] w (abI s.data.toList w):=by
 have h0:Ws [] w.heap.size (w.heap.size+1) 1 0 ((w.alloc (.cells #[.int .i64 0,.int .i64 (-1),.int .i64 0,.int .i64 (-1)] 196)).alloc (.cells #[.slice (some ⟨w.heap.size,0,none⟩) 1 1,.slice none 0 0] 200)):=by
  refine⟨[⟨0,none,0,none⟩],[],_,qU,_,⟨.slice (some ⟨w.heap.size,0,none⟩) 1 1,.slice none 0 0,⟨?_,by omega,?_,World.ownsRow_nil _ _ _ _⟩⟩,Nl,Dr,by simp⟩
  ·have:=heap_alloc_new (w.alloc (.cells #[.int .i64 0,.int .i64 (-1),.int .i64 0,.int .i64 (-1)] 196)) (.cells #[.slice (some ⟨w.heap.size,0,none⟩) 1 1,.slice none 0 0] 200);rwa [aJ]at this
  ·refine World.ownsRow.alloc ⟨rfl,.inr ⟨w.heap.size,1,#[.int .i64 0,.int .i64 (-1),.int .i64 0,.int .i64 (-1)],rfl,ak _,heap_alloc_new w _,ak _,by unfold maxLen;omega,rfl,rfl⟩⟩ _
 have hb0:=((ah w.heap.size w).alloc (ak _) (.cells #[.int .i64 0,.int .i64 (-1),.int .i64 0,.int .i64 (-1)] 196)).alloc gu (.cells #[.slice (some ⟨w.heap.size,0,none⟩) 1 1,.slice none 0 0] 200);have H0:=af h0;have HB:=af hb0;clear h0 hb0;go_enter func106,ntmps106;go_wp2;go_loopw [4,12] (fun la i wr=>∃k last:Nat,k≤s.size∧i=.int .i64 k∧la=.int .i64 last∧Ws (s.data.toList.take k) w.heap.size (w.heap.size+1) (2*k+1) last wr∧Below w.heap.size w wr) (fun _ i _=>s.size-(intOf i).toNat)
 case atStart=>exact⟨0,0,by omega,rfl,rfl,H0.out,HB.out⟩
 case round =>
  obtain⟨k,la,hk,rfl,rfl,hE,hB⟩:=hrel;clear H0 HB;by_cases hlt:k<s.size
  ·obtain⟨ns,es,own,A,L,M,R,I,hl⟩:=hE;have hlen:(s.data.toList.take k).length≤k:=List.length_take_le _ _;have CE:=Nb wr (c:=s[k]) M R I fZ fZ ;rw[←Qg s k hlt]at CE;have CE':=af CE;have HB':=af hB;clear M R I hB CE;go_wp2_with fail;refine CE'.out.mono ?_;rintro e w1 ⟨last',rfl,hE,hb1⟩;have HB2:=af (HB'.out.trans hb1);have HE2:=af hE;clear hE hb1;go_wp2;go_roundw
   case rel =>
    refine⟨k+1,last',by omega,by go_num,rfl,?_,HB2.out⟩;obtain⟨Wz,es2,Sq,A2,L2,M2,R2,I2,hl2⟩:=HE2.out;exact⟨Wz,es2,Sq,A2,L2,M2,R2,I2,by omega⟩
   case measure=>simp[intOf];omega
  ·have hks:k=s.size:=by omega
   have HP:abI s.data.toList w (.returned (.pointer (some ⟨w.heap.size+1,0,none⟩))) wr:=⟨_,rfl,⟨_,_,by
    have:=hE;rw[aF (by simp;omega)]at this;exact this⟩,hB⟩
   have HP':=af HP;clear HP hE hB hks;go_wp2;go_ret;exact HP'.out
theorem Kh(s:ByteArray):s.extract 0 s.size=s:=by
 apply dX;simp
def abJ(t:List UInt8)(w0:World)(e:Ending)(w:World):Prop:=∃B g,w0.heap.size≤B∧e=.returned (.agg #[.pointer (some ⟨g,0,none⟩)])∧nO t B g w∧Below w0.heap.size w0 w
theorem Fw(w:World)(s:ByteArray)(hs:s.size≤65536):
  Calls prog 62 #[.string s] w (abJ s.data.toList w):=by
 have CN:=af (Iq (w.alloc (.cells #[.pointer none] 141)) s hs);have hm:min s.size 65536=s.size:=by omega
 have hx:=Kh s;have hle:(s.size:Int)≤65536:=by omega
 go_enter func62,ntmps62;go_wp2_with fail;refine CN.out.mono ?_;rintro e w1 ⟨g,rfl,hI,hb⟩;have hbx:=(gV.new w #[.pointer none] 141).keep hb;have c0:=hbx.cl 0;have f0:=hbx.frozen 0;have hb2:Below w.heap.size w (w1.setCell ⟨w.heap.size,0,none⟩ (.pointer (some ⟨g,0,none⟩))):=(((ah _ _).alloc (ak _) _).trans (hb.mono gu )).setCell (p:=⟨w.heap.size,0,none⟩) (ak _) _;have hI2:nO s.data.toList (w.alloc (.cells #[.pointer none] 141)).heap.size g (w1.setCell ⟨w.heap.size,0,none⟩ (.pointer (some ⟨g,0,none⟩))):=by
  obtain⟨m,la,ns,es,own,A,L,⟨vn,ve,HV⟩,R,I,hl⟩:=hI;have hb0:w.heap.size<(w.alloc (.cells #[.pointer none] 141)).heap.size:=by simp
  refine⟨m,la,ns,es,own,A,L,⟨vn,ve,HV.box.far (p:=⟨w.heap.size,0,none⟩) (by have:=HV.base;simp only;omega) _,HV.base,?_,?_⟩,R,I,hl⟩
  ·exact iY (M:=fun b=>b=w.heap.size) HV.nodes (fun b hb e=>by have:=(HV.nodes.lt b hb).1;omega) _ (Agree.set1 w1 w.heap.size 0 _)
  ·exact iY (M:=fun b=>b=w.heap.size) HV.ru (fun b hb e=>by have:=(HV.ru.lt b hb).1;omega) _ (Agree.set1 w1 w.heap.size 0 _)
 have HE:abJ s.data.toList w (.returned (.agg #[.pointer (some ⟨g,0,none⟩)])) (w1.setCell ⟨w.heap.size,0,none⟩ (.pointer (some ⟨g,0,none⟩))):=⟨_,g,by simp,rfl,hI2,hb2⟩;have qB:=af HE;have d0:=((hbx.set 0 (.pointer (some ⟨g,0,none⟩)))).cl 0;clear HE hI2 hI hb2 hb hbx CN hx hm;go_wp2
 trace_state
 exact bodyPost_ret (v:=.agg #[.pointer (some ⟨g,0,none⟩)]) (by simp[results,results62,go_sem,d0]) rfl qB.out
end Go.Proofs.YtichfhpgdhdiaaaGreat
