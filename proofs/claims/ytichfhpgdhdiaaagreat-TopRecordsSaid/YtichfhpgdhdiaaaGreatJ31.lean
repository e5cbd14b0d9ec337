/- delta -/
import Derived.Test.YtichfhpgdhdiaaaGreatJ25
import Derived.Test.YtichfhpgdhdiaaaGreatJ30
import Derived.Test.YtichfhpgdhdiaaaGreatJ3
import Derived.Test.YtichfhpgdhdiaaaGreatJ16
set_option maxRecDepth 100000
set_option maxHeartbeats 8000000
set_option linter.unusedVariables false
set_option linter.unusedSimpArgs false
open Go.Proofs.Tryz
namespace Go.Proofs.YtichfhpgdhdiaaaGreat
open Go.RowKit
attribute [local go_sem] Oper.semAt_some
structure rX(w w':World):Prop where
 size:w.heap.size≤w'.heap.size
 same:∀(b:Nat) (o:Obj),w.heap[b]?=some o→(∀cs fz,o≠Obj.cells cs 5 fz)→w'.heap[b]?=some o
section
variable {w w' w'':World}
theorem uI(k:Below w.heap.size w w'):rX w w':=⟨k.size,fun b o hx _=>(k.block b (ax.1 hx).1).trans hx⟩
theorem rX.below(x:rX w w')(k:Below w'.heap.size w' w''):rX w w'':=⟨aS x.size k.size,fun b o hx ho=>by
 have h1:=x.same b o hx ho;exact(k.block b (ax.1 h1).1).trans h1⟩
theorem rX.BL{h:Nat}(x:rX w w')(k:mM 5 w.heap.size h w' w''):rX w w'':=⟨aS x.size k.size,fun b o hx ho=>k.same b o (.inl (ax.1 hx).1) (x.same b o hx ho) ho⟩
theorem rX.blk(x:rX w w'){g:Nat}{t:TypeId}{cs:Array Value}(hb:gV w g t cs)(ht:t≠5):gV w' g t cs:=x.same g _ hb fun cs' fz e=>ht (by injection e)
theorem rX.own(x:rX w w'){B sz n:Nat}{e:TypeId}{v:Value}{xs:List Value}(ho:w.ownsRow B e sz v n xs)(he:e≠5):w'.ownsRow B e sz v n xs:=by
 refine⟨ho.1,?_⟩;rcases ho.2 with hn|⟨g,cap,cur,rfl,hb,hg,rest⟩
 ·exact .inl hn
 ·exact .inr ⟨g,cap,cur,rfl,hb,x.same g _ hg (fun cs fz e'=>he (by injection e')),rest⟩
theorem rX.index(x:rX w w'){t:List UInt8}{B g:Nat}(h:nO t B g w):nO t B g w':=by
 obtain⟨m,la,ns,es,own,A,L,⟨vn,ve,hV⟩,R,I,hl⟩:=h;exact⟨m,la,ns,es,own,A,L,⟨vn,ve,x.blk hV.box gm ,hV.base,x.own hV.nodes gm ,x.own hV.ru gm ⟩,R,I,hl⟩
theorem nO.below{t:List UInt8}{B g:Nat}(h:nO t B g w)(k:Below w.heap.size w w'):nO t B g w':=(uI k).index h
end
theorem J7(b:ByteArray)(k:Nat)(h:k<b.size):b.extract k (k+1)=fu ((b.data.toList.drop k).take 1):=by
 apply dX;rw[dF];apply Array.ext';simp[fu,eO,dN]
theorem tN{a b:List UInt8}{f k:Nat}(hk:k<b.length)(h:4≤(jX a (b.drop k)).2):mg a b (f+1) k=⟨(jX a (b.drop k)).1,(jX a (b.drop k)).2,[]⟩::mg a b f (k+(jX a (b.drop k)).2):=by
 rw[mg,if_pos hk,if_pos h]
theorem vV{a b:List UInt8}{f k:Nat}(hk:k<b.length)(h:¬4≤(jX a (b.drop k)).2):mg a b (f+1) k=⟨0,0,(b.drop k).take 1⟩::mg a b f (k+1):=by
 rw[mg,if_pos hk,if_neg h]
theorem vW{a b:List UInt8}{k:Nat}(hk:¬k<b.length):∀f,mg a b f k = []
 |0=>rfl
 |f+1=>by rw[mg,if_neg hk]
theorem JW(a s:List UInt8):(jX a s).1≤a.length∧(jX a s).2≤s.length:=by
 obtain⟨h1,h2,h3⟩:=tL a s a.length;show (l6 a s a.length).1≤_∧(l6 a s a.length).2≤_;rcases fQ (l6 a s a.length).2 with h|h
 ·rw[h2 h,h];omega
 ·obtain⟨k1,k2,_⟩:=h3 h;have:=Im (a.drop (l6 a s a.length).1) s;omega
def xE(gs gi:Nat):Value:=.func (.func 111) #[] #[.pointer (some ⟨gs,0,none⟩),.pointer (some ⟨gi,0,none⟩)]
theorem Sc(w:World){t:List UInt8}{b:ByteArray}{B g gs gi gf:Nat}(hI:nO t B g w)(x1:gV w gs 9 #[.string b])(x2:gV w gi 139 #[.pointer (some ⟨g,0,none⟩)])(x3:gV w gf 201 #[xE gs gi])(hb:b.size≤65536)(ht:t.length≤65536):
  Yields' w.heap.size w 114 #[.pointer (some ⟨gs,0,none⟩),.pointer (some ⟨gf,0,none⟩)] (mg t b.data.toList (b.data.toList.length+1) 0):=by
 intro n l J hn hJ hJm hY W hBW h0;have HI:=af hI;have MC:=af x1;have mZ:=af x2;have Cu:=af x3;have HJ:=af hJ;have HJM:=af hJm;have HY:=af hY;have hbl:b.data.toList.length=b.size:=by simp
 have Wv:=af hbl;have hU:=uI hBW;generalize hxs:mg t b.data.toList (b.data.toList.length+1) 0=xs at HY ⊢;have HXE:=af hxs;clear hI x1 x2 x3 hJ hJm hY hbl hxs hBW;refine callsIn_of_wp func114 rfl trivial ?_ rfl;simp only[ntmps114,di,aI,aM,Nat.reduceAdd,Nat.reduceSub,dm,dB,dL,dH,aO,cB];gi_wp2;gi_loopw [4] (fun at_ wr=>∃(k f h:Nat) (pre:List jq),at_=.int .i64 k∧k≤b.size∧b.size-k<f∧Hid (xs=pre++mg t b.data.toList f k)∧J h pre wr∧h≤wr.heap.size∧rX w wr) (fun at_ _=>b.size-(intOf at_).toNat)
 case atStart=>exact⟨0,b.data.toList.length+1,_,[],rfl,by omega,by have:=Wv.out;omega,by show _=_;rw[HXE.out];rfl,h0,ak _,hU⟩
 case round =>
  clear h0 hU;obtain⟨k,f,h,pre,rfl,hk,hf,HX,hj,hh,hu⟩:=hrel;have q1:wr.cell? ⟨gs,0,none⟩=some (.string b):=(hu.blk MC.out gm ).cl 0;have q3:wr.cell? ⟨gf,0,none⟩=some (xE gs gi):=(hu.blk Cu.out gm ).cl 0;unfold xE at q3;by_cases hlt:k<b.size
  ·obtain⟨f,rfl⟩:∃f',f=f'+1:=⟨f-1,by omega⟩;have hkl:k<b.data.toList.length:=by have:=Wv.out;omega
   have hxe:=J7 b k hlt;have hdl:((b.data.toList.drop k).take 1).length=1:=by rw[aH,aC];omega
   have HDC:Hid (4≤(jX t (b.data.toList.drop k)).2→mg t b.data.toList (f+1) k=⟨(jX t (b.data.toList.drop k)).1,(jX t (b.data.toList.drop k)).2,[]⟩::mg t b.data.toList f (k+(jX t (b.data.toList.drop k)).2)):=tN hkl;have HDI:Hid (¬4≤(jX t (b.data.toList.drop k)).2→mg t b.data.toList (f+1) k=⟨0,0,(b.data.toList.drop k).take 1⟩::mg t b.data.toList f (k+1)):=vV hkl;have hdl0:=hdl;obtain⟨pk1,pk2⟩:=JW t (b.data.toList.drop k);rw[aC,Wv.out]at pk2;have hal:=(ah wr.heap.size wr).alloc (ak _) (.cells #[.int .i64 0,.int .i64 0,.string (fu ((b.data.toList.drop k).take 1))] 191)
   have hbx:=gV.new wr #[.int .i64 0,.int .i64 0,.string (fu ((b.data.toList.drop k).take 1))] 191;have hu2:=hu.below hal;have CL:=af (J8 (wr.alloc (.cells #[.int .i64 0,.int .i64 0,.string (fu ((b.data.toList.drop k).take 1))] 191)) (hu2.index HI.out) ((hu2.blk MC.out gm ).cl 0) ((hu2.blk mZ.out gm ).cl 0) hlt hb ht);have hsz:wr.heap.size<(wr.alloc (.cells #[.int .i64 0,.int .i64 0,.string (fu ((b.data.toList.drop k).take 1))] 191)).heap.size:=hbx.lt;have HXX:=af hxe;have Jv:=af hdl;obtain⟨gx,hgx⟩:∃gx,gx=wr.heap.size:=⟨_,rfl⟩
   have hk0:(0:Int)≤(k:Int):=by omega
   have hk1:(k:Int)<(b.size:Int):=by omega
   have hz1:IntKind.i64.wrap ((k:Int)+1)=(k:Int)+1:=jo fZ fZ ;have afd:=hxe;clear hdl;gi_upto_region 3 with (fail);have hj2:=HJ.out _ _ _ _ hal hj;have q3':(wr.alloc (.cells #[.int .i64 0,.int .i64 0,.string (fu ((b.data.toList.drop k).take 1))] 191)).cell? ⟨gf,0,none⟩=some (xE gs gi):=(hu2.blk Cu.out gm ).cl 0;unfold xE at q3';have HD:=af hdl0;clear hxe afd hj2 hu2 hdl0;rw[←hgx]at hbx hsz ⊢;generalize (wr.alloc (.cells #[.int .i64 0,.int .i64 0,.string (fu ((b.data.toList.drop k).take 1))] 191))=w2 at *;have hg1:wr.heap.size≤gx:=by omega
   have hg2:gx≤wr.heap.size:=by omega
   clear hgx;gi_wp2_with fail;refine⟨trivial,?_⟩;refine(callsIn_wide.2 CL.out).mono ?_;rintro e w3 ⟨off,rfl,hoff,hd⟩;have hb3:Below wr.heap.size wr w3:=hal.trans (hd.below _);have jH:gV w3 gx 191 #[.int .i64 0,.int .i64 0,.string (fu ((b.data.toList.drop k).take 1))]:=hbx.keep (hd.below _);clear hbx hal CL q3' hd hsz;generalize (jX t (b.data.toList.drop k)).2=mm at *;generalize (jX t (b.data.toList.drop k)).1=oo at *;by_cases h4:4≤mm
   ·have HXS:=af (HX.out.trans (congrArg (pre++·) (HDC.out h4)));have e1:=hoff fZ ;subst e1;have Yk:(4:Int)≤(mm:Int):=by omega
    obtain⟨f0,f1,f2⟩:=fz3 jH;have t0:=jH.cl 0;have t1:=jH.cl 1;have t2:=jH.cl 2;have jE:=((jH.set 0 (.int .i64 off)).set 1 (.int .i64 mm)).set 2 (.string ⟨#[]⟩);have hb4:=((hb3.setCell (p:=⟨gx,0,none⟩) (by simp only;omega) (.int .i64 off)).setCell (p:=⟨gx,1,none⟩) (by simp only;omega) (.int .i64 mm)).setCell (p:=⟨gx,2,none⟩) (by simp only;omega) (.string ⟨#[]⟩);have Sk:Hid (rR ⟨(off:Int),(mm:Int),[]⟩=(mm:Int)):=if_pos (by simp only;omega);have hmk:k+mm≤b.size:=by omega
    gi_upto_region 6 with (fail);clear f0 f1 f2 t0 t1 t2 jH hb3 hoff HX HDC HDI pk1 pk2;generalize ((w3.setCell ⟨gx,0,none⟩ (.int .i64 off)).setCell ⟨gx,1,none⟩ (.int .i64 mm)).setCell ⟨gx,2,none⟩ (.string ⟨#[]⟩)=w4 at *;obtain⟨fn,tmps,assign,body,hy,hR⟩:=HY.out h pre ⟨off,mm,[]⟩ w4 (HJ.out _ _ _ _ hb4 hj) (by have:=hb4.size;omega) ⟨_,HXS.out⟩;have HR:=af hR;unfold dV at hy;simp only at hy;have r0:w4.cell? ⟨gx,0,none⟩=some (.int .i64 off):=jE.cl 0;have r1:w4.cell? ⟨gx,1,none⟩=some (.int .i64 mm):=jE.cl 1;have r2:w4.cell? ⟨gx,2,none⟩=some (.string (fu [])):=jE.cl 2
    have hlx:=jE.lt;have hu4:=hu.below hb4;clear hR hj;gi_wp2_with fail;refine HR.out.mono ?_;rintro e w5 ⟨rfl,hj5,hk5⟩;have l5:gV w5 gx 191 #[.int .i64 off,.int .i64 mm,.string (fu [])]:=hk5.blk jE (.inr fZ ) gm ;have hu5:=hu4.BL hk5;have s0:w5.cell? ⟨gx,0,none⟩=some (.int .i64 off):=l5.cl 0;have s1:w5.cell? ⟨gx,1,none⟩=some (.int .i64 mm):=l5.cl 1;have s2:w5.cell? ⟨gx,2,none⟩=some (.string (fu [])):=l5.cl 2;have CZ:=af (Dz ⟨off,mm,[]⟩ w5);clear hk5 HR hy r0 r1 r2 jE l5 hu4 hb4 q1 q3 hu;have HU:=af hu5;have HJ5:=af hj5;clear hu5 hj5
    gi_wp2_with fail;refine⟨trivial,?_⟩;unfold dV at CZ;simp only at CZ;refine(callsIn_wide.2 CZ.out).mono ?_;rintro e w6 ⟨rfl,hb6⟩;rw[Sk.out];have HU6:=af (HU.out.below hb6);have HJ6:=af (HJ.out _ _ _ _ hb6 HJ5.out);have hs6:=hb6.size;clear hb6 s0 s1 s2 CZ HU HJ5;gi_wp2;go_roundw
    case rel=>exact⟨k+mm,f,w5.heap.size,pre++[⟨off,mm,[]⟩],by go_num,by omega,by omega,by show _=_;rw[HXS.out,aA];rfl,HJ6.out,hs6,HU6.out⟩
    case measure=>simp[intOf];omega
   ·have HXS:=af (HX.out.trans (congrArg (pre++·) (HDI.out h4)));have Yk:¬(4:Int)≤(mm:Int):=by omega
    have akX:(mm:Int)<4:=by omega
    have jE:=jH;have hb4:=hb3;have Sk:Hid (rR ⟨0,0,(b.data.toList.drop k).take 1⟩=(1:Int)):=by
     show _=_;rw[show rR ⟨0,0,(b.data.toList.drop k).take 1⟩=(((b.data.toList.drop k).take 1).length:Int)from if_neg gu ,HD.out];rfl
    clear hoff HX HDC HDI pk1 pk2 jH hb3;generalize w3=w4 at *;obtain⟨fn,tmps,assign,body,hy,hR⟩:=HY.out h pre ⟨0,0,((b.data.toList.drop k).take 1)⟩ w4 (HJ.out _ _ _ _ hb4 hj) (by have:=hb4.size;omega) ⟨_,HXS.out⟩;have HR:=af hR;unfold dV at hy;simp only at hy;have r0:w4.cell? ⟨gx,0,none⟩=some (.int .i64 0):=jE.cl 0;have r1:w4.cell? ⟨gx,1,none⟩=some (.int .i64 0):=jE.cl 1;have r2:w4.cell? ⟨gx,2,none⟩=some (.string (fu ((b.data.toList.drop k).take 1))):=jE.cl 2;have hlx:=jE.lt;have hu4:=hu.below hb4;clear hR hj;gi_wp2_with fail;refine HR.out.mono ?_;rintro e w5 ⟨rfl,hj5,hk5⟩
    have l5:gV w5 gx 191 #[.int .i64 0,.int .i64 0,.string (fu ((b.data.toList.drop k).take 1))]:=hk5.blk jE (.inr fZ ) gm ;have hu5:=hu4.BL hk5;have s0:w5.cell? ⟨gx,0,none⟩=some (.int .i64 0):=l5.cl 0;have s1:w5.cell? ⟨gx,1,none⟩=some (.int .i64 0):=l5.cl 1;have s2:w5.cell? ⟨gx,2,none⟩=some (.string (fu ((b.data.toList.drop k).take 1))):=l5.cl 2;have CZ:=af (Dz ⟨0,0,((b.data.toList.drop k).take 1)⟩ w5);clear hk5 HR hy r0 r1 r2 jE l5 hu4 hb4 q1 q3 hu;have HU:=af hu5;have HJ5:=af hj5;clear hu5 hj5;gi_wp2_with fail;refine⟨trivial,?_⟩
    unfold dV at CZ;simp only at CZ;refine(callsIn_wide.2 CZ.out).mono ?_;rintro e w6 ⟨rfl,hb6⟩;rw[Sk.out];have HU6:=af (HU.out.below hb6);have HJ6:=af (HJ.out _ _ _ _ hb6 HJ5.out);have hs6:=hb6.size;clear hb6 s0 s1 s2 CZ HU HJ5;gi_wp2;go_roundw
    case rel=>exact⟨k+1,f,w5.heap.size,pre++[⟨0,0,((b.data.toList.drop k).take 1)⟩],by go_num,by omega,by omega,by show _=_;rw[HXS.out,aA];rfl,HJ6.out,hs6,HU6.out⟩
    case measure=>simp[intOf];omega
  ·have HE:Hid (xs=pre):=by
    show _=_;rw[HX.out,vW (by have:=Wv.out;omega),aU]
   have HE2:J wr.heap.size xs wr:=by rw[HE.out];exact HJM.out _ _ _ _ hh hj
   have HE3:=af HE2;clear HE2 HX hj HE;have hlt':¬(k:Int)<b.size:=by omega
   gi_wp2;go_end0;exact⟨⟨_,rfl⟩,HE3.out⟩
end Go.Proofs.YtichfhpgdhdiaaaGreat
namespace Go.Proofs.YtichfhpgdhdiaaaGreat
open Go.RowKit
theorem DI{a b:List UInt8}(ha:a.length≤65536)(hb:b.length≤65536):∀f k,(mg a b f k).length≤f∧∀x∈mg a b f k,OkD x
 |0,k=>⟨by simp[mg],fun x hx=>by simp[mg]at hx⟩
 |f+1,k=>by
  by_cases hk:k<b.length
  ·obtain⟨p1,p2⟩:=JW a (b.drop k);rw[aC]at p2;by_cases h4:4≤(jX a (b.drop k)).2
   ·rw[tN hk h4];obtain⟨h1,h2⟩:=DI ha hb f (k+(jX a (b.drop k)).2);refine⟨by rw[aI];omega,fun x hx=>?_⟩;rcases bC.1 hx with rfl|hx
    ·refine⟨by simp only;omega,by simp only;omega,by simp only;omega,by simp only;omega,by simp⟩
    ·exact h2 x hx
   ·rw[vV hk h4];obtain⟨h1,h2⟩:=DI ha hb f (k+1);refine⟨by rw[aI];omega,fun x hx=>?_⟩;rcases bC.1 hx with rfl|hx
    ·refine⟨by simp,by simp,by simp,by simp,by simp only[aH];omega⟩
    ·exact h2 x hx
  ·rw[vW hk];exact⟨by simp,fun x hx=>by simp at hx⟩
theorem Sb{w:World}{B B' sz n:Nat}{e:TypeId}{v:Value}{xs:List Value}(h:w.ownsRow B e sz v n xs)(hb:B'≤B):w.ownsRow B' e sz v n xs:=by
 refine⟨h.1,?_⟩;rcases h.2 with hn|⟨g,cap,cur,rfl,hb2,rest⟩
 ·exact .inl hn
 ·exact .inr ⟨g,cap,cur,rfl,by omega,rest⟩
def abo(xs:List jq)(w0:World)(e:Ending)(w:World):Prop:=∃v,e=.returned v∧w.ownsRow w0.heap.size 191 3 v xs.length (xs.flatMap dC)∧Below w0.heap.size w0 w
theorem F9(w:World){t:List UInt8}{b:ByteArray}{B g:Nat}(hI:nO t B g w)(hb:b.size≤65536)(ht:t.length≤65536):
  Calls prog 64 #[.agg #[.pointer (some ⟨g,0,none⟩)],.string b] w (abo (nT t b.data.toList) w):=by
 have HI:=af hI;have hd:decide ((65536:Int)<(b.size:Int))=false:=by simp;omega
 clear hI;go_enter func64,ntmps64;go_wp2_with fail;obtain⟨o1,ho1⟩:∃o,o=Obj.cells #[.pointer (some ⟨g,0,none⟩)] 141:=⟨_,rfl⟩;obtain⟨H,hH⟩:∃H,H=w.heap.size:=⟨_,rfl⟩;have z1:(w.alloc (.cells #[.pointer (some ⟨g,0,none⟩)] 141)).heap.size=w.heap.size+1:=by simp
 have z2:((w.alloc (.cells #[.pointer (some ⟨g,0,none⟩)] 141)).alloc (.cells #[.string b] 9)).heap.size=w.heap.size+1+1:=by simp
 have z3:(((w.alloc (.cells #[.pointer (some ⟨g,0,none⟩)] 141)).alloc (.cells #[.string b] 9)).alloc (.cells #[.pointer (some ⟨g,0,none⟩)] 139)).heap.size=w.heap.size+1+1+1:=by simp
 have x1:=(((gV.new (w.alloc (.cells #[.pointer (some ⟨g,0,none⟩)] 141)) #[.string b] 9).alloc (.cells #[.pointer (some ⟨g,0,none⟩)] 139)).alloc (.cells #[xE (w.heap.size+1) (w.heap.size+1+1)] 201));have x2:=((gV.new ((w.alloc (.cells #[.pointer (some ⟨g,0,none⟩)] 141)).alloc (.cells #[.string b] 9)) #[.pointer (some ⟨g,0,none⟩)] 139).alloc (.cells #[xE (w.heap.size+1) (w.heap.size+1+1)] 201));have x3:=gV.new (((w.alloc (.cells #[.pointer (some ⟨g,0,none⟩)] 141)).alloc (.cells #[.string b] 9)).alloc (.cells #[.pointer (some ⟨g,0,none⟩)] 139)) #[xE (w.heap.size+1) (w.heap.size+1+1)] 201
 have k1:=((((ah w.heap.size w).alloc (ak _) (.cells #[.pointer (some ⟨g,0,none⟩)] 141)).alloc gu (.cells #[.string b] 9)).alloc (by simp<;>omega) (.cells #[.pointer (some ⟨g,0,none⟩)] 139)).alloc (by simp<;>omega) (.cells #[xE (w.heap.size+1) (w.heap.size+1+1)] 201);rw[z1]at x1;rw[z2]at x2;rw[z3]at x3;have hI4:=HI.out.below k1;have hU:=Sc _ hI4 x1 x2 x3 hb ht;obtain⟨hl,hok⟩:=DI (b:=b.data.toList) ht (by simpa using hb) (b.data.toList.length+1) 0;have hbl:b.data.toList.length=b.size:=by simp
 have CJ:=Sd _ 114 #[.pointer (some ⟨w.heap.size+1,0,none⟩),.pointer (some ⟨w.heap.size+1+1+1,0,none⟩)] (enters_of func114 gB rfl) _ hok fZ hU;unfold xE at CJ k1;have CJ':=af CJ;have K1:=af k1;clear CJ k1 x1 x2 x3 hI4 hU hl hok z1 z2 z3 HI hbl;refine CJ'.out.mono ?_;rintro e w5 ⟨v,rfl,hr,hb5⟩;have HE:abo (nT t b.data.toList) w (.returned v) w5:=⟨v,rfl,Sb hr K1.out.size,K1.out.trans (hb5.mono K1.out.size)⟩;have qB:=af HE;clear HE hr hb5 CJ' K1 hH ho1;go_wp2;go_ret;exact qB.out
end Go.Proofs.YtichfhpgdhdiaaaGreat
namespace Go.Proofs.YtichfhpgdhdiaaaGreat
open Go.RowKit
def R8(w:World)(v:Value)(xs:List jq):Prop:=Sl w 3 (fun us x=>us=dC x) v xs
theorem R8.keep{w w':World}{v:Value}{xs:List jq}(h:R8 w v xs)(k:Keeps w w'):R8 w' v xs:=Sl.keep h k fun _ _ h=>h
theorem Ki:∀(xs:List jq),jF 3 (fun us x=>us=dC x) xs (xs.flatMap dC)
 |[]=>rfl
 |x::xs=>⟨dC x,xs.flatMap dC,by rw[aG],rfl,rfl,Ki xs⟩
theorem OJ{w:World}{B:Nat}{v:Value}{xs:List jq}(h:w.ownsRow B 191 3 v xs.length (xs.flatMap dC)):R8 w v xs:=by
 rcases id h.2 with ⟨rfl,hn⟩|⟨g,cap,cur,rfl,_,hg,hnc,hcm,_,htk⟩
 ·have:xs = []:=bL.1 hn;subst this;exact Sl.nil _ _ _
 ·refine⟨some ⟨g,0,none⟩,cap,xs.flatMap dC,rfl,hnc,hcm,fun k u hu=>⟨g,0,rfl,?_⟩,Ki xs⟩;have hk:=(ay.1 hu).1;rw[lU DX]at hk;rw[bH,h.cellAt k hk];exact hu
theorem R8.get{w:World}{xs:List jq}{A:Option Addr}{c n:Nat}(h:R8 w (.slice A n c) xs){i:Nat}{x:jq}(hi:xs[i]?=some x):
  ∃b off,A=some ⟨b,off,none⟩∧w.cell? ⟨b,off+i*3,none⟩=some (.int .i64 x.off)∧w.cell? ⟨b,off+i*3+1,none⟩=some (.int .i64 x.len)∧w.cell? ⟨b,off+i*3+2,none⟩=some (.string (fu x.data)):=by
 obtain⟨b,off,us,e,rfl,_,hc⟩:=Sl.get h hi fZ ;exact⟨b,off,e,hc 0 _ rfl,hc 1 _ rfl,hc 2 _ rfl⟩
theorem Sr{a b:List UInt8}(h:fu a=fu b):a=b:=by rw[←iI a,h,iI]
end Go.Proofs.YtichfhpgdhdiaaaGreat
namespace Go.Proofs.YtichfhpgdhdiaaaGreat
open Go.RowKit
def mY(n:Int):Int→List jq→Int
 |_,[]=>0
 |p,x::l=>if ¬x.cp∧¬x.ins then 1 else if x.cp∧(x.off<0∨n<x.len∨n-x.len<x.off)then 2 else if 65536-p<rR x then 4 else mY n (p+rR x) l
def jA(l:List jq)(n:Int):Int:=if n<0∨65536<n then 2 else mY n 0 l
theorem JV{n p:Int}{xs:List jq}{k:Nat}{x:jq}(hx:xs[k]?=some x):mY n p (xs.drop k)=mY n p (x::xs.drop (k+1)):=by
 obtain⟨h,rfl⟩:=ay.1 hx;rw[aR h]
def Int64(n:Int):Prop:=-9223372036854775808≤n∧n≤9223372036854775807
def qj(r:Int)(w0:World)(e:Ending)(w:World):Prop:=e=.returned (.int .i64 r)∧Below w0.heap.size w0 w
theorem xX(w:World){va:Value}{xs:List jq}(ha:R8 w va xs)(n:Int)(hi:∀x∈xs,Int64 x.off∧Int64 x.len∧x.data.length≤9000000000000000000):
  Calls prog 107 #[va,.int .i64 n] w (qj (jA xs n) w):=by
 obtain⟨A,c,rfl,h1,h2⟩:=ha.form;by_cases hn:n<0∨65536<n
 ·have hr:jA xs n=2:=if_pos hn;rw[hr];have HE:=af (show qj 2 w (.returned (.int .i64 2)) w from⟨rfl,ah _ _⟩);clear ha hi hr;rcases hn with hn|hn
  ·go_enter func107,ntmps107;go_wp2;go_ret;exact HE.out
  ·have hn0:decide (n<0)=false:=by simp;omega
   go_enter func107,ntmps107;go_wp2;go_ret;exact HE.out
 ·have hr:jA xs n=mY n 0 xs:=if_neg hn;rw[hr];have hn0:decide (n<0)=false:=by simp;omega
  have hn1:decide (65536<n)=false:=by simp;omega
  have hna:0≤n∧n≤65536:=by omega
  have HA:=af ha;have HI:=af hi;have HX0:Hid (mY n 0 xs=mY n 0 (xs.drop 0)):=rfl;generalize hr0:mY n 0 xs=r at *;clear ha hi hr hn hr0;go_enter func107,ntmps107;go_wp2;go_loopw [5,16] (fun pr i wr=>∃(k:Nat) (p:Int),k≤xs.length∧i=.int .i64 k∧pr=.int .i64 p∧0≤p∧p≤65536∧Hid (r=mY n p (xs.drop k))∧Below w.heap.size w wr) (fun _ i _=>xs.length-(intOf i).toNat)
  case atStart=>exact⟨0,0,by omega,rfl,rfl,by omega,by omega,HX0,ah _ _⟩
  case round =>
   obtain⟨k,p,hk,rfl,rfl,hp0,hp1,HR,hbw⟩:=hrel;clear HX0;by_cases hlt:k<xs.length
   ·obtain⟨x,hx⟩:∃x,xs[k]?=some x:=⟨_,au hlt⟩;obtain⟨i1,i2,i3⟩:=HI.out x (aV hx);obtain⟨b1,o1,rfl,c0,c1,c2⟩:=(HA.out.keep (dO hbw)).get hx;have HR2:Hid (r=mY n p (x::xs.drop (k+1))):=by show _=_;rw[HR.out,JV hx]
    have CC:=fun w'=>uf x w'
    have CI:=fun w'=>F7 x w'
    have CZ:=fun w'=>Dz x w'
    obtain⟨xo,xl,xd⟩:=x;simp only at c0 c1 c2 i1 i2 i3;unfold dV at CC CI CZ;simp only at CC CI CZ;have hal:=(ah wr.heap.size wr).alloc (ak _) (.cells #[.int .i64 xo,.int .i64 xl,.string (fu xd)] 191);have hbx:=gV.new wr #[.int .i64 xo,.int .i64 xl,.string (fu xd)] 191;have HB:=af hbw;clear hx HR hbw;by_cases hc:(⟨xo,xl,xd⟩:jq).cp
    ·have hcb:P7 ⟨xo,xl,xd⟩=true:=decide_eq_true hc;simp only[hcb]at CC;have Cc:=af CC;clear CC CI hcb;have F8:=af CZ;have hz0:rR ⟨xo,xl,xd⟩=xl:=if_pos hc.1;have F8:=af (fun w'=>by have h:=F8.out w';simp only[hz0]at h;exact h);by_cases hb:xo<0∨n<xl∨n-xl<xo
     ·have HR3:Hid (r=2):=by
       show _=_;rw[HR2.out];show (if _ then _ else _)=_;rw[if_neg (fun h=>h.1 hc),if_pos ⟨hc,hb⟩]
      have hxl:0<xl:=hc.1;clear CZ HR2 hz0 hc F8;rcases hb with hb|hb|hb
      ·have d1:decide (xo<0)=true:=by simpa using hb
       go_upto_region 7 with (fail);generalize wr.alloc (.cells #[.int .i64 xo,.int .i64 xl,.string (fu xd)] 191)=w2 at *;have HB2:=(hTr HB hal);generalize wr.heap.size=gx at *;have pu:=hbx;have Vm:w2.cell? ⟨gx,0,none⟩=some (.int .i64 xo):=hbx.cl 0;have Vn:w2.cell? ⟨gx,1,none⟩=some (.int .i64 xl):=hbx.cl 1;have q22:w2.cell? ⟨gx,2,none⟩=some (.string (fu xd)):=hbx.cl 2;clear hal hbx HB c0 c1 c2;go_wp2_with fail;refine(Cc.out _).mono ?_;rintro e w3 ⟨rfl,hb3⟩;have jH:=pu.keep hb3;have HB3:=(hTr HB2 hb3);have Vo:w3.cell? ⟨gx,0,none⟩=some (.int .i64 xo):=jH.cl 0
       have Vp:w3.cell? ⟨gx,1,none⟩=some (.int .i64 xl):=jH.cl 1;have q32:w3.cell? ⟨gx,2,none⟩=some (.string (fu xd)):=jH.cl 2;clear hb3;go_wp2_with fail;refine(Cc.out _).mono ?_;rintro e w4 ⟨rfl,hb4⟩;have jE:=jH.keep hb4;have kY:=(hTr HB3 hb4);have Vq:w4.cell? ⟨gx,0,none⟩=some (.int .i64 xo):=jE.cl 0;have Vr:w4.cell? ⟨gx,1,none⟩=some (.int .i64 xl):=jE.cl 1;have Vs:w4.cell? ⟨gx,2,none⟩=some (.string (fu xd)):=jE.cl 2;clear hb4;have HE:qj r w (.returned (.int .i64 2)) w4:=⟨by rw[HR3.out],kY.out⟩;have qB:=af HE;clear HE;go_wp2;go_ret;exact qB.out
      ·by_cases hb0:xo<0
       ·have d1:decide (xo<0)=true:=by simpa using hb0
        go_upto_region 7 with (fail);generalize wr.alloc (.cells #[.int .i64 xo,.int .i64 xl,.string (fu xd)] 191)=w2 at *;have HB2:=(hTr HB hal);generalize wr.heap.size=gx at *;have pu:=hbx;have Vm:w2.cell? ⟨gx,0,none⟩=some (.int .i64 xo):=hbx.cl 0;have Vn:w2.cell? ⟨gx,1,none⟩=some (.int .i64 xl):=hbx.cl 1;have q22:w2.cell? ⟨gx,2,none⟩=some (.string (fu xd)):=hbx.cl 2;clear hal hbx HB c0 c1 c2;go_wp2_with fail;refine(Cc.out _).mono ?_;rintro e w3 ⟨rfl,hb3⟩;have jH:=pu.keep hb3;have HB3:=(hTr HB2 hb3);have Vo:w3.cell? ⟨gx,0,none⟩=some (.int .i64 xo):=jH.cl 0
        have Vp:w3.cell? ⟨gx,1,none⟩=some (.int .i64 xl):=jH.cl 1;have q32:w3.cell? ⟨gx,2,none⟩=some (.string (fu xd)):=jH.cl 2;clear hb3;go_wp2_with fail;refine(Cc.out _).mono ?_;rintro e w4 ⟨rfl,hb4⟩;have jE:=jH.keep hb4;have kY:=(hTr HB3 hb4);have Vq:w4.cell? ⟨gx,0,none⟩=some (.int .i64 xo):=jE.cl 0;have Vr:w4.cell? ⟨gx,1,none⟩=some (.int .i64 xl):=jE.cl 1;have Vs:w4.cell? ⟨gx,2,none⟩=some (.string (fu xd)):=jE.cl 2;clear hb4;have HE:qj r w (.returned (.int .i64 2)) w4:=⟨by rw[HR3.out],kY.out⟩;have qB:=af HE;clear HE;go_wp2;go_ret;exact qB.out
       ·have d1:decide (xo<0)=false:=by simpa using hb0
        have d2:decide (n<xl)=true:=by simpa using hb
        go_upto_region 7 with (fail);generalize wr.alloc (.cells #[.int .i64 xo,.int .i64 xl,.string (fu xd)] 191)=w2 at *;have HB2:=(hTr HB hal);generalize wr.heap.size=gx at *;have pu:=hbx;have Vm:w2.cell? ⟨gx,0,none⟩=some (.int .i64 xo):=hbx.cl 0;have Vn:w2.cell? ⟨gx,1,none⟩=some (.int .i64 xl):=hbx.cl 1;have q22:w2.cell? ⟨gx,2,none⟩=some (.string (fu xd)):=hbx.cl 2;clear hal hbx HB c0 c1 c2;go_wp2_with fail;refine(Cc.out _).mono ?_;rintro e w3 ⟨rfl,hb3⟩;have jH:=pu.keep hb3;have HB3:=(hTr HB2 hb3);have Vo:w3.cell? ⟨gx,0,none⟩=some (.int .i64 xo):=jH.cl 0
        have Vp:w3.cell? ⟨gx,1,none⟩=some (.int .i64 xl):=jH.cl 1;have q32:w3.cell? ⟨gx,2,none⟩=some (.string (fu xd)):=jH.cl 2;clear hb3;go_wp2_with fail;refine(Cc.out _).mono ?_;rintro e w4 ⟨rfl,hb4⟩;have jE:=jH.keep hb4;have kY:=(hTr HB3 hb4);have Vq:w4.cell? ⟨gx,0,none⟩=some (.int .i64 xo):=jE.cl 0;have Vr:w4.cell? ⟨gx,1,none⟩=some (.int .i64 xl):=jE.cl 1;have Vs:w4.cell? ⟨gx,2,none⟩=some (.string (fu xd)):=jE.cl 2;clear hb4;have HE:qj r w (.returned (.int .i64 2)) w4:=⟨by rw[HR3.out],kY.out⟩;have qB:=af HE;clear HE;go_wp2;go_ret;exact qB.out
      ·by_cases hb0:xo<0
       ·have d1:decide (xo<0)=true:=by simpa using hb0
        go_upto_region 7 with (fail);generalize wr.alloc (.cells #[.int .i64 xo,.int .i64 xl,.string (fu xd)] 191)=w2 at *;have HB2:=(hTr HB hal);generalize wr.heap.size=gx at *;have pu:=hbx;have Vm:w2.cell? ⟨gx,0,none⟩=some (.int .i64 xo):=hbx.cl 0;have Vn:w2.cell? ⟨gx,1,none⟩=some (.int .i64 xl):=hbx.cl 1;have q22:w2.cell? ⟨gx,2,none⟩=some (.string (fu xd)):=hbx.cl 2;clear hal hbx HB c0 c1 c2;go_wp2_with fail;refine(Cc.out _).mono ?_;rintro e w3 ⟨rfl,hb3⟩;have jH:=pu.keep hb3;have HB3:=(hTr HB2 hb3);have Vo:w3.cell? ⟨gx,0,none⟩=some (.int .i64 xo):=jH.cl 0
        have Vp:w3.cell? ⟨gx,1,none⟩=some (.int .i64 xl):=jH.cl 1;have q32:w3.cell? ⟨gx,2,none⟩=some (.string (fu xd)):=jH.cl 2;clear hb3;go_wp2_with fail;refine(Cc.out _).mono ?_;rintro e w4 ⟨rfl,hb4⟩;have jE:=jH.keep hb4;have kY:=(hTr HB3 hb4);have Vq:w4.cell? ⟨gx,0,none⟩=some (.int .i64 xo):=jE.cl 0;have Vr:w4.cell? ⟨gx,1,none⟩=some (.int .i64 xl):=jE.cl 1;have Vs:w4.cell? ⟨gx,2,none⟩=some (.string (fu xd)):=jE.cl 2;clear hb4;have HE:qj r w (.returned (.int .i64 2)) w4:=⟨by rw[HR3.out],kY.out⟩;have qB:=af HE;clear HE;go_wp2;go_ret;exact qB.out
       ·by_cases hb1:n<xl
        ·have d1:decide (xo<0)=false:=by simpa using hb0
         have d2:decide (n<xl)=true:=by simpa using hb1
         go_upto_region 7 with (fail);generalize wr.alloc (.cells #[.int .i64 xo,.int .i64 xl,.string (fu xd)] 191)=w2 at *;have HB2:=(hTr HB hal);generalize wr.heap.size=gx at *;have pu:=hbx;have Vm:w2.cell? ⟨gx,0,none⟩=some (.int .i64 xo):=hbx.cl 0;have Vn:w2.cell? ⟨gx,1,none⟩=some (.int .i64 xl):=hbx.cl 1;have q22:w2.cell? ⟨gx,2,none⟩=some (.string (fu xd)):=hbx.cl 2;clear hal hbx HB c0 c1 c2;go_wp2_with fail;refine(Cc.out _).mono ?_;rintro e w3 ⟨rfl,hb3⟩;have jH:=pu.keep hb3;have HB3:=(hTr HB2 hb3);have Vo:w3.cell? ⟨gx,0,none⟩=some (.int .i64 xo):=jH.cl 0
         have Vp:w3.cell? ⟨gx,1,none⟩=some (.int .i64 xl):=jH.cl 1;have q32:w3.cell? ⟨gx,2,none⟩=some (.string (fu xd)):=jH.cl 2;clear hb3;go_wp2_with fail;refine(Cc.out _).mono ?_;rintro e w4 ⟨rfl,hb4⟩;have jE:=jH.keep hb4;have kY:=(hTr HB3 hb4);have Vq:w4.cell? ⟨gx,0,none⟩=some (.int .i64 xo):=jE.cl 0;have Vr:w4.cell? ⟨gx,1,none⟩=some (.int .i64 xl):=jE.cl 1;have Vs:w4.cell? ⟨gx,2,none⟩=some (.string (fu xd)):=jE.cl 2;clear hb4;have HE:qj r w (.returned (.int .i64 2)) w4:=⟨by rw[HR3.out],kY.out⟩;have qB:=af HE;clear HE;go_wp2;go_ret;exact qB.out
        ·have d1:decide (xo<0)=false:=by simpa using hb0
         have d2:decide (n<xl)=false:=by simpa using hb1
         have d3:decide (n-xl<xo)=true:=by simpa using hb
         go_upto_region 7 with (fail);generalize wr.alloc (.cells #[.int .i64 xo,.int .i64 xl,.string (fu xd)] 191)=w2 at *;have HB2:=(hTr HB hal);generalize wr.heap.size=gx at *;have pu:=hbx;have Vm:w2.cell? ⟨gx,0,none⟩=some (.int .i64 xo):=hbx.cl 0;have Vn:w2.cell? ⟨gx,1,none⟩=some (.int .i64 xl):=hbx.cl 1;have q22:w2.cell? ⟨gx,2,none⟩=some (.string (fu xd)):=hbx.cl 2;clear hal hbx HB c0 c1 c2;go_wp2_with fail;refine(Cc.out _).mono ?_;rintro e w3 ⟨rfl,hb3⟩;have jH:=pu.keep hb3;have HB3:=(hTr HB2 hb3);have Vo:w3.cell? ⟨gx,0,none⟩=some (.int .i64 xo):=jH.cl 0
         have Vp:w3.cell? ⟨gx,1,none⟩=some (.int .i64 xl):=jH.cl 1;have q32:w3.cell? ⟨gx,2,none⟩=some (.string (fu xd)):=jH.cl 2;clear hb3;go_wp2_with fail;refine(Cc.out _).mono ?_;rintro e w4 ⟨rfl,hb4⟩;have jE:=jH.keep hb4;have kY:=(hTr HB3 hb4);have Vq:w4.cell? ⟨gx,0,none⟩=some (.int .i64 xo):=jE.cl 0;have Vr:w4.cell? ⟨gx,1,none⟩=some (.int .i64 xl):=jE.cl 1;have Vs:w4.cell? ⟨gx,2,none⟩=some (.string (fu xd)):=jE.cl 2;clear hb4;have HE:qj r w (.returned (.int .i64 2)) w4:=⟨by rw[HR3.out],kY.out⟩;have qB:=af HE;clear HE;go_wp2;go_ret;exact qB.out
     ·have hb0:¬xo<0:=fun h=>hb (.inl h)
      have hb1:¬n<xl:=fun h=>hb (.inr (.inl h))
      have hb2:¬n-xl<xo:=fun h=>hb (.inr (.inr h))
      have d1:decide (xo<0)=false:=by simpa using hb0
      have d2:decide (n<xl)=false:=by simpa using hb1
      have d3:decide (n-xl<xo)=false:=by simpa using hb2
      have hxl:0<xl:=hc.1;by_cases hz:65536-p<xl
      ·have HR3:Hid (r=4):=by
        show _=_;rw[HR2.out];show (if _ then _ else _)=_;rw[if_neg (fun h=>h.1 hc),if_neg (fun h=>hb h.2),if_pos (by rw[hz0];exact hz)]
       clear CZ HR2 hz0 hc hb;go_upto_region 7 with (fail);generalize wr.alloc (.cells #[.int .i64 xo,.int .i64 xl,.string (fu xd)] 191)=w2 at *;have HB2:=(hTr HB hal);generalize wr.heap.size=gx at *;have pu:=hbx;have Vm:w2.cell? ⟨gx,0,none⟩=some (.int .i64 xo):=hbx.cl 0;have Vn:w2.cell? ⟨gx,1,none⟩=some (.int .i64 xl):=hbx.cl 1;have q22:w2.cell? ⟨gx,2,none⟩=some (.string (fu xd)):=hbx.cl 2;clear hal hbx HB c0 c1 c2;go_wp2_with fail;refine(Cc.out _).mono ?_;rintro e w3 ⟨rfl,hb3⟩;have jH:=pu.keep hb3;have HB3:=(hTr HB2 hb3);have Vo:w3.cell? ⟨gx,0,none⟩=some (.int .i64 xo):=jH.cl 0
       have Vp:w3.cell? ⟨gx,1,none⟩=some (.int .i64 xl):=jH.cl 1;have q32:w3.cell? ⟨gx,2,none⟩=some (.string (fu xd)):=jH.cl 2;clear hb3;go_wp2_with fail;refine(Cc.out _).mono ?_;rintro e w4 ⟨rfl,hb4⟩;have jE:=jH.keep hb4;have kY:=(hTr HB3 hb4);have Vq:w4.cell? ⟨gx,0,none⟩=some (.int .i64 xo):=jE.cl 0;have Vr:w4.cell? ⟨gx,1,none⟩=some (.int .i64 xl):=jE.cl 1;have Vs:w4.cell? ⟨gx,2,none⟩=some (.string (fu xd)):=jE.cl 2;clear hb4;go_wp2_with fail;refine(F8.out _).mono ?_;rintro e w5 ⟨rfl,hb5⟩;have l5:=jE.keep hb5;have pq:=(hTr kY hb5);have q50:w5.cell? ⟨gx,0,none⟩=some (.int .i64 xo):=l5.cl 0
       have q51:w5.cell? ⟨gx,1,none⟩=some (.int .i64 xl):=l5.cl 1;have q52:w5.cell? ⟨gx,2,none⟩=some (.string (fu xd)):=l5.cl 2;clear hb5;have HE:qj r w (.returned (.int .i64 4)) w5:=⟨by rw[HR3.out],pq.out⟩;have qB:=af HE;clear HE;go_wp2;go_ret;exact qB.out
      ·have HR3:Hid (r=mY n (p+xl) (xs.drop (k+1))):=by
        show _=_;rw[HR2.out];show (if _ then _ else _)=_;rw[if_neg (fun h=>h.1 hc),if_neg (fun h=>hb h.2),if_neg (by rw[hz0];exact hz),hz0]
       have hz':xl≤65536-p:=by omega
       clear CZ HR2 hz0 hc hb;go_upto_region 7 with (fail);generalize wr.alloc (.cells #[.int .i64 xo,.int .i64 xl,.string (fu xd)] 191)=w2 at *;have HB2:=(hTr HB hal);generalize wr.heap.size=gx at *;have pu:=hbx;have Vm:w2.cell? ⟨gx,0,none⟩=some (.int .i64 xo):=hbx.cl 0;have Vn:w2.cell? ⟨gx,1,none⟩=some (.int .i64 xl):=hbx.cl 1;have q22:w2.cell? ⟨gx,2,none⟩=some (.string (fu xd)):=hbx.cl 2;clear hal hbx HB c0 c1 c2;go_wp2_with fail;refine(Cc.out _).mono ?_;rintro e w3 ⟨rfl,hb3⟩;have jH:=pu.keep hb3;have HB3:=(hTr HB2 hb3);have Vo:w3.cell? ⟨gx,0,none⟩=some (.int .i64 xo):=jH.cl 0
       have Vp:w3.cell? ⟨gx,1,none⟩=some (.int .i64 xl):=jH.cl 1;have q32:w3.cell? ⟨gx,2,none⟩=some (.string (fu xd)):=jH.cl 2;clear hb3;go_wp2_with fail;refine(Cc.out _).mono ?_;rintro e w4 ⟨rfl,hb4⟩;have jE:=jH.keep hb4;have kY:=(hTr HB3 hb4);have Vq:w4.cell? ⟨gx,0,none⟩=some (.int .i64 xo):=jE.cl 0;have Vr:w4.cell? ⟨gx,1,none⟩=some (.int .i64 xl):=jE.cl 1;have Vs:w4.cell? ⟨gx,2,none⟩=some (.string (fu xd)):=jE.cl 2;clear hb4;go_wp2_with fail;refine(F8.out _).mono ?_;rintro e w5 ⟨rfl,hb5⟩;have l5:=jE.keep hb5;have pq:=(hTr kY hb5);have q50:w5.cell? ⟨gx,0,none⟩=some (.int .i64 xo):=l5.cl 0
       have q51:w5.cell? ⟨gx,1,none⟩=some (.int .i64 xl):=l5.cl 1;have q52:w5.cell? ⟨gx,2,none⟩=some (.string (fu xd)):=l5.cl 2;clear hb5;go_wp2_with fail;refine(F8.out _).mono ?_;rintro e w6 ⟨rfl,hb6⟩;have Ce:=l5.keep hb6;have sI:=(hTr pq hb6);have q60:w6.cell? ⟨gx,0,none⟩=some (.int .i64 xo):=Ce.cl 0;have q61:w6.cell? ⟨gx,1,none⟩=some (.int .i64 xl):=Ce.cl 1;have q62:w6.cell? ⟨gx,2,none⟩=some (.string (fu xd)):=Ce.cl 2;clear hb6;go_wp2;go_roundw
       case rel=>exact⟨k+1,p+xl,by omega,by go_num,rfl,by omega,by omega,HR3,sI.out⟩
       case measure=>simp[intOf];omega
    ·have hcb:P7 ⟨xo,xl,xd⟩=false:=decide_eq_false hc;simp only[hcb]at CC;have Cc:=af CC;clear CC hcb;by_cases hin:(⟨xo,xl,xd⟩:jq).ins
     ·have hib:Ig ⟨xo,xl,xd⟩=true:=decide_eq_true hin;simp only[hib]at CI;have Aa:=af CI;have F8:=af CZ;have hz0:rR ⟨xo,xl,xd⟩=(xd.length:Int):=if_neg (by rw[hin.1];simp);have F8:=af (fun w'=>by have h:=F8.out w';simp only[hz0]at h;exact h);by_cases hz:65536-p<(xd.length:Int)
      ·have HR3:Hid (r=4):=by
        show _=_;rw[HR2.out];show (if _ then _ else _)=_;rw[if_neg (fun h=>h.2 hin),if_neg (fun h=>hc h.1),if_pos (by rw[hz0];exact hz)]
       clear CI CZ hib hin hc HR2 hz0;go_upto_region 7 with (fail);generalize wr.alloc (.cells #[.int .i64 xo,.int .i64 xl,.string (fu xd)] 191)=w2 at *;have HB2:=(hTr HB hal);generalize wr.heap.size=gx at *;have pu:=hbx;have Vm:w2.cell? ⟨gx,0,none⟩=some (.int .i64 xo):=hbx.cl 0;have Vn:w2.cell? ⟨gx,1,none⟩=some (.int .i64 xl):=hbx.cl 1;have q22:w2.cell? ⟨gx,2,none⟩=some (.string (fu xd)):=hbx.cl 2;clear hal hbx HB c0 c1 c2;go_wp2_with fail;refine(Cc.out _).mono ?_;rintro e w3 ⟨rfl,hb3⟩;have jH:=pu.keep hb3;have HB3:=(hTr HB2 hb3);have Vo:w3.cell? ⟨gx,0,none⟩=some (.int .i64 xo):=jH.cl 0
       have Vp:w3.cell? ⟨gx,1,none⟩=some (.int .i64 xl):=jH.cl 1;have q32:w3.cell? ⟨gx,2,none⟩=some (.string (fu xd)):=jH.cl 2;clear hb3;go_wp2_with fail;refine(Aa.out _).mono ?_;rintro e w4 ⟨rfl,hb4⟩;have jE:=jH.keep hb4;have kY:=(hTr HB3 hb4);have Vq:w4.cell? ⟨gx,0,none⟩=some (.int .i64 xo):=jE.cl 0;have Vr:w4.cell? ⟨gx,1,none⟩=some (.int .i64 xl):=jE.cl 1;have Vs:w4.cell? ⟨gx,2,none⟩=some (.string (fu xd)):=jE.cl 2;clear hb4;go_wp2_with fail;refine(Cc.out _).mono ?_;rintro e w5 ⟨rfl,hb5⟩;have l5:=jE.keep hb5;have pq:=(hTr kY hb5);have q50:w5.cell? ⟨gx,0,none⟩=some (.int .i64 xo):=l5.cl 0
       have q51:w5.cell? ⟨gx,1,none⟩=some (.int .i64 xl):=l5.cl 1;have q52:w5.cell? ⟨gx,2,none⟩=some (.string (fu xd)):=l5.cl 2;clear hb5;go_wp2_with fail;refine(F8.out _).mono ?_;rintro e w6 ⟨rfl,hb6⟩;have Ce:=l5.keep hb6;have sI:=(hTr pq hb6);have q60:w6.cell? ⟨gx,0,none⟩=some (.int .i64 xo):=Ce.cl 0;have q61:w6.cell? ⟨gx,1,none⟩=some (.int .i64 xl):=Ce.cl 1;have q62:w6.cell? ⟨gx,2,none⟩=some (.string (fu xd)):=Ce.cl 2;clear hb6;have HE:qj r w (.returned (.int .i64 4)) w6:=⟨by rw[HR3.out],sI.out⟩;have qB:=af HE;clear HE;go_wp2;go_ret;exact qB.out
      ·have HR3:Hid (r=mY n (p+(xd.length:Int)) (xs.drop (k+1))):=by
        show _=_;rw[HR2.out];show (if _ then _ else _)=_;rw[if_neg (fun h=>h.2 hin),if_neg (fun h=>hc h.1),if_neg (by rw[hz0];exact hz),hz0]
       have hz':(xd.length:Int)≤65536-p:=by omega
       clear CI CZ hib hin hc HR2 hz0;go_upto_region 7 with (fail);generalize wr.alloc (.cells #[.int .i64 xo,.int .i64 xl,.string (fu xd)] 191)=w2 at *;have HB2:=(hTr HB hal);generalize wr.heap.size=gx at *;have pu:=hbx;have Vm:w2.cell? ⟨gx,0,none⟩=some (.int .i64 xo):=hbx.cl 0;have Vn:w2.cell? ⟨gx,1,none⟩=some (.int .i64 xl):=hbx.cl 1;have q22:w2.cell? ⟨gx,2,none⟩=some (.string (fu xd)):=hbx.cl 2;clear hal hbx HB c0 c1 c2;go_wp2_with fail;refine(Cc.out _).mono ?_;rintro e w3 ⟨rfl,hb3⟩;have jH:=pu.keep hb3;have HB3:=(hTr HB2 hb3);have Vo:w3.cell? ⟨gx,0,none⟩=some (.int .i64 xo):=jH.cl 0
       have Vp:w3.cell? ⟨gx,1,none⟩=some (.int .i64 xl):=jH.cl 1;have q32:w3.cell? ⟨gx,2,none⟩=some (.string (fu xd)):=jH.cl 2;clear hb3;go_wp2_with fail;refine(Aa.out _).mono ?_;rintro e w4 ⟨rfl,hb4⟩;have jE:=jH.keep hb4;have kY:=(hTr HB3 hb4);have Vq:w4.cell? ⟨gx,0,none⟩=some (.int .i64 xo):=jE.cl 0;have Vr:w4.cell? ⟨gx,1,none⟩=some (.int .i64 xl):=jE.cl 1;have Vs:w4.cell? ⟨gx,2,none⟩=some (.string (fu xd)):=jE.cl 2;clear hb4;go_wp2_with fail;refine(Cc.out _).mono ?_;rintro e w5 ⟨rfl,hb5⟩;have l5:=jE.keep hb5;have pq:=(hTr kY hb5);have q50:w5.cell? ⟨gx,0,none⟩=some (.int .i64 xo):=l5.cl 0
       have q51:w5.cell? ⟨gx,1,none⟩=some (.int .i64 xl):=l5.cl 1;have q52:w5.cell? ⟨gx,2,none⟩=some (.string (fu xd)):=l5.cl 2;clear hb5;go_wp2_with fail;refine(F8.out _).mono ?_;rintro e w6 ⟨rfl,hb6⟩;have Ce:=l5.keep hb6;have sI:=(hTr pq hb6);have q60:w6.cell? ⟨gx,0,none⟩=some (.int .i64 xo):=Ce.cl 0;have q61:w6.cell? ⟨gx,1,none⟩=some (.int .i64 xl):=Ce.cl 1;have q62:w6.cell? ⟨gx,2,none⟩=some (.string (fu xd)):=Ce.cl 2;clear hb6;go_wp2_with fail;refine(F8.out _).mono ?_;rintro e w7 ⟨rfl,xY⟩;have Y1:=Ce.keep xY;have Wp:=(hTr sI xY);have q70:w7.cell? ⟨gx,0,none⟩=some (.int .i64 xo):=Y1.cl 0
       have q71:w7.cell? ⟨gx,1,none⟩=some (.int .i64 xl):=Y1.cl 1;have q72:w7.cell? ⟨gx,2,none⟩=some (.string (fu xd)):=Y1.cl 2;clear xY;go_wp2;go_roundw
       case rel=>exact⟨k+1,p+(xd.length:Int),by omega,by go_num,rfl,by omega,by omega,HR3,Wp.out⟩
       case measure=>simp[intOf];omega
     ·have hib:Ig ⟨xo,xl,xd⟩=false:=decide_eq_false hin;simp only[hib]at CI;have Aa:=af CI;have HR3:Hid (r=1):=by show _=_;rw[HR2.out];exact if_pos ⟨hc,hin⟩
      clear CI CZ hib hin hc HR2;go_upto_region 7 with (fail);generalize wr.alloc (.cells #[.int .i64 xo,.int .i64 xl,.string (fu xd)] 191)=w2 at *;have HB2:=(hTr HB hal);generalize wr.heap.size=gx at *;have pu:=hbx;have Vm:w2.cell? ⟨gx,0,none⟩=some (.int .i64 xo):=hbx.cl 0;have Vn:w2.cell? ⟨gx,1,none⟩=some (.int .i64 xl):=hbx.cl 1;have q22:w2.cell? ⟨gx,2,none⟩=some (.string (fu xd)):=hbx.cl 2;clear hal hbx HB c0 c1 c2;go_wp2_with fail;refine(Cc.out _).mono ?_;rintro e w3 ⟨rfl,hb3⟩;have jH:=pu.keep hb3;have HB3:=(hTr HB2 hb3);have Vo:w3.cell? ⟨gx,0,none⟩=some (.int .i64 xo):=jH.cl 0
      have Vp:w3.cell? ⟨gx,1,none⟩=some (.int .i64 xl):=jH.cl 1;have q32:w3.cell? ⟨gx,2,none⟩=some (.string (fu xd)):=jH.cl 2;clear hb3;go_wp2_with fail;refine(Aa.out _).mono ?_;rintro e w4 ⟨rfl,hb4⟩;have jE:=jH.keep hb4;have kY:=(hTr HB3 hb4);have Vq:w4.cell? ⟨gx,0,none⟩=some (.int .i64 xo):=jE.cl 0;have Vr:w4.cell? ⟨gx,1,none⟩=some (.int .i64 xl):=jE.cl 1;have Vs:w4.cell? ⟨gx,2,none⟩=some (.string (fu xd)):=jE.cl 2;clear hb4;have HE:qj r w (.returned (.int .i64 1)) w4:=⟨by rw[HR3.out],kY.out⟩;have qB:=af HE;clear HE;go_wp2;go_ret;exact qB.out
   ·have HR3:Hid (r=0):=by show _=_;rw[HR.out,dG fZ ];rfl
    have HE:qj r w (.returned (.int .i64 0)) wr:=⟨by rw[HR3.out],hbw⟩;have qB:=af HE;clear HE HR HR3 hbw;go_wp2;go_ret;exact qB.out
end Go.Proofs.YtichfhpgdhdiaaaGreat
namespace Go.Proofs.YtichfhpgdhdiaaaGreat
open Go.RowKit
theorem qW.below{B b:Nat}{l:List UInt8}{w0 w w':World}(h:qW B b l w0 w)(k:Below w.heap.size w w')(hB:B≤w.heap.size)(hs:w0.heap.size≤w.heap.size):qW B b l w0 w' :=
 ⟨h.rQ.below k,h.jM.trans (k.mono hB),oq h.wT hs k⟩
theorem qW.trans{B b:Nat}{l l':List UInt8}{w0 w w':World}(h:qW B b l w0 w)(k:qW B b l' w w'):qW B b l' w0 w':=⟨k.rQ,h.jM.trans k.jM,h.wT.trans k.wT⟩
theorem kX(n:Int):(jc n).1.length≤6:=by
 unfold jc;split
 ·rename_i h
  exact ja n.toNat 5 fZ
 ·simp
theorem pY(s:List UInt8):(jP s).1.length≤65542:=by
 unfold jP;split
 ·rename_i h
  have:=ja s.length 5 fZ ;simp only[aj];omega
 ·simp
theorem DJ(w:World)(B b:Nat)(l:List UInt8)(n:Int)(h:sH B b l w)(hBw:B≤w.heap.size)(hl:l.length≤70368744177664):
  Calls prog 108 #[.int .i64 n,.pointer (some ⟨b,0,none⟩)] w fun e w'=>e=.returned (.tuple #[])∧qW B b (l++(jc n).1) w w':=by
 have CP:=af (tT n w);have hp:=kX n;generalize jc n=r at *;obtain⟨s,er⟩:=r;simp only at CP hp;have H:=af h;clear h;go_enter func108,ntmps108;go_wp2_with fail;refine CP.out.mono ?_;rintro e w1 ⟨rfl,hb1⟩;have hs1:=hb1.size;have CW:=af (qV B b l (fu s) w1 (H.out.below hb1) (by rw[gL];omega) fZ );have K1:=af hb1;clear CP hb1;go_wp2_with fail;refine CW.out.mono ?_;rintro e w2 ⟨rfl,hb2,hB2,Sg⟩;rw[iI]at hb2;have HE:qW B b (l++s) w w2:=⟨hb2,(K1.out.mono hBw).trans hB2,(oq (Lib.OthersKept.refl _ _ w) (ak _) K1.out).trans Sg⟩
 have qB:=af HE;clear HE hb2 hB2 Sg K1 CW H;go_wp2;exact bodyPost_end (results_none rfl _ _ _) rfl ⟨rfl,qB.out⟩
def mh(x:jq):List UInt8:=(jc x.len).1++(if x.cp then(jc x.off).1 else(jP x.data).1)
def nK(l:List jq):List UInt8×Int:=if jA l 65536=0 then((jc l.length).1++l.flatMap mh,0)else([],jA l 65536)
theorem Si(x:jq):(mh x).length≤65548:=by
 unfold mh;have h1:=kX x.len;have h2:=kX x.off;have h3:=pY x.data;rw[aj];split<;>omega
theorem Am:∀(l:List jq),(l.flatMap mh).length≤l.length*65548
 |[]=>by simp
 |x::l=>by
  have:=Si x;have:=Am l;rw[aG,aj,aI];omega
def F3(r:List UInt8×Int)(w0:World)(e:Ending)(w:World):Prop:=e=.returned (.tuple #[.string (fu r.1),.int .i64 r.2])∧Below w0.heap.size w0 w
theorem DK{xs:List jq}{k:Nat}{x:jq}(hx:xs[k]?=some x):(xs.take (k+1)).flatMap mh=(xs.take k).flatMap mh++mh x:=by
 obtain⟨h,rfl⟩:=ay.1 hx;rw[aN h,aZ];simp
theorem Na(w:World){va:Value}{xs:List jq}(ha:R8 w va xs)(hi:∀x∈xs,Int64 x.off∧Int64 x.len∧x.data.length≤9000000000000000000)(hl:xs.length≤100000):
  Calls prog 63 #[va] w (F3 (nK xs) w):=by
 have CK:=af (xX w ha 65536 hi);obtain⟨A,c,rfl,h1,h2⟩:=ha.form;by_cases hc:jA xs 65536=0
 ·have hr:nK xs=((jc xs.length).1++xs.flatMap mh,0):=if_pos hc;rw[hr];rw[hc]at CK;have HA:=af ha;clear hr hc ha hi;go_enter func63,ntmps63;go_wp2_with fail;refine CK.out.mono ?_;rintro e w1 ⟨rfl,hb1⟩;have hs1:=hb1.size;have C1:=af (DJ (w1.alloc (.cells #[.pointer none,.slice none 0 0] 122)) w1.heap.size w1.heap.size [] (xs.length:Int) (sH.new w1 gF) gu gu );have K1:=af hb1;have hal:=(ah w1.heap.size w1).alloc (ak _) (.cells #[.pointer none,.slice none 0 0] 122);have K2:=af hal;have hsz:w1.heap.size+1≤(w1.alloc (.cells #[.pointer none,.slice none 0 0] 122)).heap.size:=by simp
  clear CK hb1 hal;go_wp2_with fail;refine C1.out.mono ?_;rintro e w2 ⟨rfl,hb2⟩;rw[aO]at hb2;have hss:=hb2.jM.size;have o8:=af (K1.out.trans (K2.out.mono hs1));have hg1:w1.heap.size<(w1.alloc (.cells #[.pointer none,.slice none 0 0] 122)).heap.size:=by simp
  generalize w1.alloc (.cells #[.pointer none,.slice none 0 0] 122)=W0 at *;generalize w1.heap.size=b at *;have HB2:=af hb2;have hpl:=kX (xs.length:Int);have HP0:Hid ((jc (xs.length:Int)).1++(xs.take 0).flatMap mh=(jc (xs.length:Int)).1):=by show _=_;simp
  clear hb2 C1;go_wp2;go_loopw [23] (fun i wr=>∃k:Nat,k≤xs.length∧i=.int .i64 k∧qW b b ((jc (xs.length:Int)).1++(xs.take k).flatMap mh) W0 wr) (fun i _=>xs.length-(intOf i).toNat)
  case atStart=>exact⟨0,by omega,rfl,by rw[HP0.out];exact HB2.out⟩
  case round =>
   clear HB2 HP0 hss;obtain⟨k,hk,rfl,hB⟩:=hrel;have hsr:=hB.jM.size;have hbw:Below w.heap.size w wr:=o8.out.trans (hB.jM.mono hs1);by_cases hlt:k<xs.length
   ·obtain⟨x,hx⟩:∃x,xs[k]?=some x:=⟨_,au hlt⟩;obtain⟨b1,o1,rfl,c0,c1,c2⟩:=(HA.out.keep (dO hbw)).get hx;have htl:=Am (xs.take k);have htk:(xs.take k).length≤k:=List.length_take_le _ _;have PX:Hid ((jc (xs.length:Int)).1++(xs.take (k+1)).flatMap mh=(jc (xs.length:Int)).1++(xs.take k).flatMap mh++mh x):=by show _=_;rw[DK hx,aA]
    have hPl:((jc (xs.length:Int)).1++(xs.take k).flatMap mh).length≤6600000000:=by rw[aj];omega
    generalize (jc (xs.length:Int)).1++(xs.take k).flatMap mh=P at *;have hal:=(ah wr.heap.size wr).alloc (ak _) (.cells #[.int .i64 x.off,.int .i64 x.len,.string (fu x.data)] 191);have hbx:=gV.new wr #[.int .i64 x.off,.int .i64 x.len,.string (fu x.data)] 191;have hB3:=hB.below hal fZ hsr;have Cx:=af (fun w'=>uf x w');have hEX:Hid (mh x=(jc x.len).1++(if x.cp then(jc x.off).1 else(jP x.data).1)):=rfl;have hi1:=kX x.len;clear hx htl htk hB hbw hpl;go_upto_region 10 with (fail);have hgb:wr.heap.size≠b:=by have:=hB3.rQ.lt;omega
    have hs3:W0.heap.size≤(wr.alloc (.cells #[.int .i64 x.off,.int .i64 x.len,.string (fu x.data)] 191)).heap.size:=by simp;omega
    generalize wr.alloc (.cells #[.int .i64 x.off,.int .i64 x.len,.string (fu x.data)] 191)=w3 at *;generalize wr.heap.size=gx at *;clear c0 c1 c2 hal hsr;have q1:w3.cell? ⟨gx,1,none⟩=some (.int .i64 x.len):=hbx.cl 1;have C4:=af (DJ w3 b b P x.len hB3.rQ fZ fZ );have HB3:=af hB3;clear hB3;go_wp2_with fail;refine C4.out.mono ?_;rintro e w4 ⟨rfl,hb4⟩;have kb4:gV w4 gx 191 #[.int .i64 x.off,.int .i64 x.len,.string (fu x.data)]:=hb4.wT gx _ hbx (fun e=>hgb (by injection e)) fun cs fz e=>by injection e with _ e;exact absurd e gm
    have hs4:=hb4.jM.size;have hB4:=HB3.out.trans hb4;have r0:w4.cell? ⟨gx,0,none⟩=some (.int .i64 x.off):=kb4.cl 0;have r1:w4.cell? ⟨gx,1,none⟩=some (.int .i64 x.len):=kb4.cl 1;have r2:w4.cell? ⟨gx,2,none⟩=some (.string (fu x.data)):=kb4.cl 2;have kY:=af hB4;clear hb4 hB4 HB3 C4 q1 hbx;have CX:=Cx.out w4;unfold dV at CX;by_cases hcp:x.cp
    ·have hcb:P7 x=true:=decide_eq_true hcp;rw[hcb]at CX;have R9:=af CX;have HEX:Hid (mh x=(jc x.len).1++(jc x.off).1):=by show _=_;rw[hEX.out,if_pos hcp]
     clear CX hcb hcp hEX Cx;go_wp2_with fail;refine R9.out.mono ?_;rintro e w5 ⟨rfl,hb5⟩;have Vl:=kb4.keep hb5;have hs5:=hb5.size;have s0:w5.cell? ⟨gx,0,none⟩=some (.int .i64 x.off):=Vl.cl 0;have BK:=kY.out.below hb5 fZ fZ ;have C6:=af (DJ w5 b b (P++(jc x.len).1) x.off BK.rQ fZ (by rw[aj];omega));have pq:=af BK;clear BK hb5 R9 kY r0 r1 r2;go_wp2_with fail;refine C6.out.mono ?_;rintro e w6 ⟨rfl,hb6⟩;have sI:=af (pq.out.trans hb6);clear hb6 pq C6 s0;go_wp2;go_roundw
     case rel=>exact⟨k+1,by omega,by go_num,by rw[PX.out,HEX.out,←aA];exact sI.out⟩
     case measure=>simp[intOf];omega
    ·have hcb:P7 x=false:=decide_eq_false hcp;rw[hcb]at CX;have R9:=af CX;have HEX:Hid (mh x=(jc x.len).1++(jP x.data).1):=by show _=_;rw[hEX.out,if_neg hcp]
     have hT:=pY x.data;clear CX hcb hcp hEX Cx;go_wp2_with fail;refine R9.out.mono ?_;rintro e w5 ⟨rfl,hb5⟩;have Vl:=kb4.keep hb5;have hs5:=hb5.size;have s2:w5.cell? ⟨gx,2,none⟩=some (.string (fu x.data)):=Vl.cl 2;have BK:=kY.out.below hb5 fZ fZ ;have pq:=af BK;have C6:=af (BJ x.data w5);clear BK hb5 R9 kY r0 r1 r2;go_wp2_with fail;refine C6.out.mono ?_;rintro e w6 ⟨rfl,hb6⟩;have hs6:=hb6.size;have Wo:=pq.out.below hb6 fZ fZ ;have C7:=af (qV b b (P++(jc x.len).1) (fu (jP x.data).1) w6 Wo.rQ (by rw[gL,aj];omega) fZ );have sI:=af Wo
     clear Wo hb6 C6 pq s2;go_wp2_with fail;refine C7.out.mono ?_;rintro e w7 ⟨rfl,xY,hB7,ko7⟩;rw[iI]at xY;have Wp:=af (sI.out.trans ⟨xY,hB7,ko7⟩);clear xY hB7 ko7 sI C7;go_wp2;go_roundw
     case rel=>exact⟨k+1,by omega,by go_num,by rw[PX.out,HEX.out,←aA];exact Wp.out⟩
     case measure=>simp[intOf];omega
   ·have hks:xs.take k=xs:=aF fZ ;rw[hks]at hB;have CS:=af (tQ b b _ wr hB.rQ fZ );have HBR:=af hbw;clear hB hks hbw;go_wp2_with fail;refine CS.out.mono ?_;rintro e w3 ⟨rfl,_,hb3,_⟩;have HE:F3 ((jc (xs.length:Int)).1++xs.flatMap mh,0) w (.returned (.tuple #[.string ⟨((jc (xs.length:Int)).1++xs.flatMap mh).toArray⟩,.int .i64 0])) w3:=⟨rfl,HBR.out.trans (hb3.mono fZ )⟩;have qB:=af HE;clear HE hb3 HBR CS;go_wp2;go_ret2;exact qB.out
 ·have hr:nK xs=([],jA xs 65536):=if_neg hc;rw[hr];have hne:((jA xs 65536) != 0)=true:=by simpa using hc
  generalize jA xs 65536=q at *;clear hr ha hi hc;go_enter func63,ntmps63;go_wp2_with fail;refine CK.out.mono ?_;rintro e w1 ⟨rfl,hb1⟩;have HE:=af (show F3 ([],q) w (.returned (.tuple #[.string ⟨#[]⟩,.int .i64 q])) w1 from⟨rfl,hb1⟩);clear hb1 CK;go_wp2;go_ret2;exact HE.out
end Go.Proofs.YtichfhpgdhdiaaaGreat
namespace Go.Proofs.YtichfhpgdhdiaaaGreat
open Go.RowKit
theorem PL(ys:List jq)(y x:jq):tK (ys++[y]) x=if x.len=0∧y.len=0 then ys++[⟨0,0,y.data++x.data⟩]else if 0<x.len∧0<y.len∧y.off+y.len=x.off then ys++[⟨y.off,y.len+x.len,[]⟩]else ys++[y]++[x]:=by
 unfold tK;simp only[eY,List.dropLast_concat]
def kW:List jq→Int
 |[]=>0
 |x::l=>rR x+kW l
theorem nS:∀(a b:List jq),kW (a++b)=kW a+kW b
 |[],b=>by simp[kW]
 |x::a,b=>by
  show rR x+kW (a++b)=rR x+kW a+kW b;rw[nS a b];omega
theorem Hl(x:jq):0≤rR x:=by
 unfold rR;split<;>omega
theorem yP:∀(a:List jq),0≤kW a
 |[]=>Int.le_refl _
 |x::a=>by
  have:=Hl x;have:=yP a;show 0≤rR x+kW a;omega
theorem Gg{n:Int}:∀(xs:List jq) (p:Int),p≤65536→mY n p xs=0→(∀x∈xs,(x.cp∨x.ins)∧(x.cp→0≤x.off∧x.off+x.len≤n))∧p+kW xs≤65536
 |[],p,hp,_=>⟨fun x hx=>by simp at hx,by show p+0≤_;omega⟩
 |x::xs,p,hp,h=>by
  have h':(if ¬x.cp∧¬x.ins then(1:Int)else if x.cp∧(x.off<0∨n<x.len∨n-x.len<x.off)then 2 else if 65536-p<rR x then 4 else mY n (p+rR x) xs)=0:=h;split at h'
  ·cases h'
  ·rename_i h1
   split at h'
   ·cases h'
   ·rename_i h2
    split at h'
    ·cases h'
    ·rename_i h3
     obtain⟨k1,k2⟩:=Gg xs (p+rR x) fZ h';refine⟨fun y hy=>?_,by show p+(rR x+kW xs)≤_;omega⟩;rcases bC.1 hy with rfl|hy
     ·refine⟨?_,fun hc=>?_⟩
      ·by_cases hc:y.cp
       ·exact .inl hc
       ·by_cases hin:y.ins
        ·exact .inr hin
        ·exact absurd ⟨hc,hin⟩ h1
      ·have:¬(y.off<0∨n<y.len∨n-y.len<y.off):=fun h=>h2 ⟨hc,h⟩
       omega
     ·exact k1 y hy
theorem FU{xs:List jq}{n:Int}(h:jA xs n=0):(0≤n∧n≤65536)∧(∀x∈xs,(x.cp∨x.ins)∧(x.cp→0≤x.off∧x.off+x.len≤n))∧kW xs≤65536:=by
 unfold jA at h;split at h
 ·cases h
 ·obtain⟨h1,h2⟩:=Gg xs 0 fZ h;exact⟨by omega,h1,by omega⟩
theorem JU(xs:List jq)(k:Nat):kW (xs.take k)≤kW xs:=by
 have h:=nS (xs.take k) (xs.drop k);rw[bQ]at h;have:=yP (xs.drop k);omega
def Bd(xs:List jq)(m:Nat):Prop:=xs.length≤m∧∀y∈xs,0≤y.off∧y.off≤65536∧0≤y.len∧y.len+y.data.length≤m
theorem Bd.mono{xs:List jq}{m m':Nat}(h:Bd xs m)(hm:m≤m'):Bd xs m':=⟨by have:=h.1;omega,fun y hy=>by have:=h.2 y hy;omega⟩
end Go.Proofs.YtichfhpgdhdiaaaGreat
