/- journal -/
import Derived.Test.YtichfhpgdhdiaaaGreatJ17
import Derived.Test.YtichfhpgdhdiaaaGreatJ5
import Derived.Test.YtichfhpgdhdiaaaGreatJ2
import Derived.Test.YtichfhpgdhdiaaaGreatJ11
import Derived.Test.YtichfhpgdhdiaaaGreatJ15
import Derived.Test.YtichfhpgdhdiaaaGreatJ3
set_option maxRecDepth 100000
set_option maxHeartbeats 8000000
set_option linter.unusedVariables false
set_option linter.unusedSimpArgs false
open Go.Proofs.Tryz
namespace Go.Proofs.YtichfhpgdhdiaaaGreat
open Go.RowKit
attribute [local go_sem] Oper.semAt_some
def Xe(r:(Nat×List iX×Nat)×Int)(W:World)(e:Ending)(w:World):Prop :=
 ∃v,e=.returned (.tuple #[.agg #[.int .i64 (r.1.1:Int),v,.int .i64 (r.1.2.2:Int)],.int .i64 r.2])∧vY w v r.1.2.1∧Below W.heap.size W w
theorem wO{W w:World}{k:Int}(h:Below W.heap.size W w):Xe ((0,[],0),k) W (.returned (.tuple #[.agg #[.int .i64 0,.slice none 0 0,.int .i64 0],.int .i64 k])) w:=⟨_,rfl,vY.nil _,h⟩
structure Bg(B:Nat)(b2 b3:Nat)(W0 W:World):Prop where
 r2:gV W b2 110 #[.int .i64 0,.slice none 0 0,.int .i64 0]
 r3:gV W b3 28 #[.int .i64 0]
 jM:Below B W0 W
theorem xh{w:World}{g:Nat}{t:TypeId}{a b c:Value}(h:gV w g t #[a,b,c]):w.cell? ⟨g,0,none⟩=some a∧w.cell? ⟨g,1,none⟩=some b∧w.cell? ⟨g,2,none⟩=some c∧w.frozen? ⟨g,0,none⟩=false∧w.frozen? ⟨g,1,none⟩=false∧w.frozen? ⟨g,2,none⟩=false :=
 ⟨h.cl 0,h.cl 1,h.cl 2,h.frozen 0,h.frozen 1,h.frozen 2⟩
theorem TM(W:World)(vs vp:Value)(d:Dk)(h:lK W vs vp d)(hk:mF d≠0):
  Calls prog 45 #[.agg #[.int .i64 d.size,vs,vp,.int .i64 d.left]] W (Xe (jk d) W):=by
 obtain⟨A,c,P,cp,rfl,rfl,hc,hcp,hm,hmp⟩:=h.form;rw[Bf hk];have K1:=((ah W.heap.size W).alloc (ak _) (.cells #[.int .i64 d.size,.slice A d.secs.length c,.slice P d.pend.length cp,.int .i64 d.left] 56)).alloc gu (.cells #[.int .i64 0,.slice none 0 0,.int .i64 0] 110);have K2:=K1.alloc (by simp;omega) (.cells #[.int .i64 0] 28);have hb2:=(gV.new (W.alloc (.cells #[.int .i64 d.size,.slice A d.secs.length c,.slice P d.pend.length cp,.int .i64 d.left] 56)) #[.int .i64 0,.slice none 0 0,.int .i64 0] 110).alloc (.cells #[.int .i64 0] 28)
 have hb3:=gV.new ((W.alloc (.cells #[.int .i64 d.size,.slice A d.secs.length c,.slice P d.pend.length cp,.int .i64 d.left] 56)).alloc (.cells #[.int .i64 0,.slice none 0 0,.int .i64 0] 110)) #[.int .i64 0] 28;rw[aJ]at hb2;rw[aJ,aJ]at hb3;have HD1:=h.keep (dO K2);have hbk:=((gV.new W #[.int .i64 d.size,.slice A d.secs.length c,.slice P d.pend.length cp,.int .i64 d.left] 56).alloc (.cells #[.int .i64 0,.slice none 0 0,.int .i64 0] 110)).alloc (.cells #[.int .i64 0] 28)
 clear K1;have hne:(mF d != 0)=true:=by simpa using hk
 go_enter func45,ntmps45;go_upto_region 1 with (fail);generalize ((W.alloc (.cells #[.int .i64 d.size,.slice A d.secs.length c,.slice P d.pend.length cp,.int .i64 d.left] 56)).alloc (.cells #[.int .i64 0,.slice none 0 0,.int .i64 0] 110)).alloc (.cells #[.int .i64 0] 28)=w1 at *;have CH:=af (yB w1 _ _ d HD1);obtain⟨q0,q1,q2,q3⟩:=ku hbk gD;generalize mF d=kk at *;go_wp2_with fail;refine CH.out.mono ?_;rintro e w2 ⟨rfl,hb⟩;have K3:=K2.trans (hb.mono K2.size)
 have x2:=hb2.keep hb;have x3:=hb3.keep hb;obtain⟨a0,a1,a2,f0,f1,f2⟩:=xh x2;have y0:=x3.cl 0;have y1:=x3.frozen 0;have z2:=(((x2.set 0 (.int .i64 0)).set 1 (.slice none 0 0)).set 2 (.int .i64 0)).far (p:=⟨W.heap.size+1+1,0,none⟩) gu (.int .i64 kk);have z3:=(((x3.far (p:=⟨W.heap.size+1,0,none⟩) gu (.int .i64 0)).far (p:=⟨W.heap.size+1,1,none⟩) gu (.slice none 0 0)).far (p:=⟨W.heap.size+1,2,none⟩) gu (.int .i64 0)).set 0 (.int .i64 kk);have K4:=(((K3.setCell (p:=⟨W.heap.size+1,0,none⟩) (show W.heap.size≤W.heap.size+1 by omega) (.int .i64 0)).setCell (p:=⟨W.heap.size+1,1,none⟩) (show W.heap.size≤W.heap.size+1 by omega) (.slice none 0 0)).setCell (p:=⟨W.heap.size+1,2,none⟩) (show W.heap.size≤W.heap.size+1 by omega) (.int .i64 0)).setCell (p:=⟨W.heap.size+1+1,0,none⟩) (show W.heap.size≤W.heap.size+1+1 by omega) (.int .i64 kk)
 clear CH hb q0 q1 q2 q3 hbk hb2 hb3 K2 K3 HD1;go_wp2;clear a0 a1 a2 f0 f1 f2 y0 y1;generalize (((w2.setCell ⟨W.heap.size+1,0,none⟩ (.int .i64 0)).setCell ⟨W.heap.size+1,1,none⟩ (.slice none 0 0)).setCell ⟨W.heap.size+1,2,none⟩ (.int .i64 0)).setCell ⟨W.heap.size+1+1,0,none⟩ (.int .i64 kk)=wx at *;have k0:=z2.cl 0;have k1:=z2.cl 1;have k2:=z2.cl 2;have k3:=z3.cl 0;exact bodyPost_ret (v:=.tuple #[.agg #[.int .i64 0,.slice none 0 0,.int .i64 0],.int .i64 kk]) (by simp[results,results45,go_sem,k0,k1,k2,k3]) rfl (wO K4)
def oL(w:World)(b2 b3:Nat)(u0 u1 u2 k:Value):World:=(((w.setCell ⟨b2,0,none⟩ u0).setCell ⟨b2,1,none⟩ u1).setCell ⟨b2,2,none⟩ u2).setCell ⟨b3,0,none⟩ k
theorem qb{w a:World}{b2 b3 B:Nat}{t2 t3:TypeId}{v0 v1 v2 v3:Value}(x2:gV w b2 t2 #[v0,v1,v2])(x3:gV w b3 t3 #[v3])(hne:b2≠b3)(h2:B≤b2)(h3:B≤b3)(hb:Below B a w)(u0 u1 u2 k:Value):
  gV (oL w b2 b3 u0 u1 u2 k) b2 t2 #[u0,u1,u2]∧gV (oL w b2 b3 u0 u1 u2 k) b3 t3 #[k]∧Below B a (oL w b2 b3 u0 u1 u2 k) :=
 ⟨(((x2.set 0 u0).set 1 u1).set 2 u2).far (p:=⟨b3,0,none⟩) hne k,
  (((x3.far (p:=⟨b2,0,none⟩) (fe hne) u0).far (p:=⟨b2,1,none⟩) (fe hne) u1).far (p:=⟨b2,2,none⟩) (fe hne) u2).set 0 k,
  (((hb.setCell (p:=⟨b2,0,none⟩) h2 u0).setCell (p:=⟨b2,1,none⟩) h2 u1).setCell (p:=⟨b2,2,none⟩) h2 u2).setCell (p:=⟨b3,0,none⟩) h3 k⟩
theorem wP{d:Dk}(h:mF d=0):Valid d∧3≤d.secs.length:=by
 unfold mF at h;by_cases h1:sJ d=0
 ·rw[if_neg (by simp[h1])]at h;exact⟨mq.1 h1,by
   rcases aP d.secs.length 3 with h2|h2
   ·rw[if_pos h2]at h;simp at h
   ·exact h2⟩
 ·rw[if_pos h1]at h;exact absurd h h1
structure VE(W0:World)(B C b2 b3 b8:Nat)(a0:Nat)(pre:List (List iX×Nat))(W:World):Prop where
 row:∃v,gV W b8 110 #[.int .i64 (a0:Int),v,.int .i64 ((oJ pre 0:Nat):Int)]∧W.ownsRow C 9 1 v (pre.flatMap (·.1)).length ((pre.flatMap (·.1)).flatMap Fu)
 res:Bg B b2 b3 W0 W
 hs:C≤W.heap.size
theorem lQ{W:World}{g r:Nat}{t:TypeId}{cs:Array Value}{o o':Obj}(hb:gV W g t cs)(ho:W.heap[r]?=some o)(hc:o.isCells=false):gV (W.putObj r o') g t cs:=(World.putObj_heap_other (by
 rintro rfl;unfold gV at hb;rw[hb]at ho;cases ho;cases hc)).trans hb
theorem IW{W:World}{r base n sz:Nat}{e:TypeId}{v:Value}{xs:List Value}{o o':Obj}(h:W.ownsRow base e sz v n xs)(ho:W.heap[r]?=some o)(hc:o.isCells=false):(W.putObj r o').ownsRow base e sz v n xs:=by
 refine⟨h.1,?_⟩;rcases h.2 with hn|⟨g,cap,cur,rfl,hb,hg,rest⟩
 ·exact .inl hn
 ·exact .inr ⟨g,cap,cur,rfl,hb,lQ (t:=e) hg ho hc,rest⟩
theorem own_below{W W':World}{base n sz:Nat}{e:TypeId}{v:Value}{xs:List Value}(h:W.ownsRow base e sz v n xs)(hb:Below W.heap.size W W'):W'.ownsRow base e sz v n xs:=iY (M:=fun _=>False) h (fun _ _ h=>h) _ (jC hb _)
theorem Bg.below{B b2 b3:Nat}{W0 W W':World}(h:Bg B b2 b3 W0 W)(hB:B≤W.heap.size)(k:Below W.heap.size W W'):Bg B b2 b3 W0 W':=⟨h.r2.keep k,h.r3.keep k,h.jM.trans (k.mono hB)⟩
theorem pF{B r:Nat}{a W:World}{o o':Obj}(h:Below B a W)(hr:B≤r)(ho:W.heap[r]?=some o):Below B a (W.putObj r o') :=
 h.grown (grownBy_putObj' W r o') (by have:=(ax.1 ho).1;omega) (fun k e=>by cases e;exact hr)
theorem Bg.put{B b2 b3:Nat}{W0 W:World}{r:Nat}{o o':Obj}(h:Bg B b2 b3 W0 W)(hr:B≤r)(ho:W.heap[r]?=some o)(hc:o.isCells=false):Bg B b2 b3 W0 (W.putObj r o') :=
 ⟨lQ h.r2 ho hc,lQ h.r3 ho hc,pF h.jM hr ho⟩
section
variable {W0 W W':World}{B C b2 b3 b8 a0:Nat}{pre:List (List iX×Nat)}
theorem VE.below(h:VE W0 B C b2 b3 b8 a0 pre W)(hB:B≤C)(k:Below W.heap.size W W'):VE W0 B C b2 b3 b8 a0 pre W':=by
 obtain⟨v,h1,h2⟩:=h.row;exact⟨⟨v,h1.keep k,own_below h2 k⟩,h.res.below (aS hB h.hs) k,aS h.hs k.size⟩
theorem VE.put(h:VE W0 B C b2 b3 b8 a0 pre W){r:Nat}{o o':Obj}(hr:B≤r)(ho:W.heap[r]?=some o)(hc:o.isCells=false):VE W0 B C b2 b3 b8 a0 pre (W.putObj r o'):=by
 obtain⟨v,h1,h2⟩:=h.row;exact⟨⟨v,lQ h1 ho hc,IW h2 ho hc⟩,h.res.put hr ho hc,by rw[iT];exact h.hs⟩
end
structure OpX(W0:World)(B b2 b3:Nat)(W:World):Prop where
 r2:gV W b2 110 #[.int .i64 0,.slice none 0 0,.int .i64 0]
 r3:gV W b3 28 #[.int .i64 13]
 jM:Below B W0 W
 hs:B≤W.heap.size
theorem Pb{W:World}{v:Value}{l:List iX}{r:Nat}{o o':Obj}(h:vY W v l)(ho:W.heap[r]?=some o)(hc:o.isCells=false):vY (W.putObj r o') v l:=by
 obtain⟨A,c,vs,rfl,h1,h2,h3,h4⟩:=h;refine⟨A,c,vs,rfl,h1,h2,?_,h4⟩;intro k u hu;obtain⟨b,off,e,hcell⟩:=h3 k u hu;refine⟨b,off,e,?_⟩;have hne:b≠r:=by
  rintro rfl;simp only[World.cell?,ho]at hcell;cases o<;>simp_all [Obj.isCells]
 rw[←hcell];exact World.cell?_of_block (w:=W) (World.putObj_heap_other hne)
theorem Pf:∀l:List iX,(l.map fu).map Value.string=l.flatMap Fu
 |[]=>rfl
 |x::l=>by
  have:=Pf l;simp only[dJ,aG]at this ⊢;rw[this];rfl
theorem Gx{W:World}{A:Option Addr}{n c:Nat}{l:List iX}(h:vY W (.slice A n c) l):iM W A (l.flatMap Fu):=by
 have:=Ku (show Strs W (.slice A n c) (l.map fu)from h);rwa [Pf]at this
theorem Pg(l:List iX):(l.flatMap Fu).length=l.length:=by
 induction l with
 |nil=>rfl
 |cons x l ih=>rw[aG,aj,ih,aI];simp[Fu];omega
theorem EA:∀l:List (List iX×Nat),(∀x∈l,x.1.length≤1000)→(l.flatMap (·.1)).length≤l.length*1000
 |[],_=>by simp
 |x::l,h=>by
  have:=EA l fun y hy=>h y (by simp[hy])
  have:=h x gu ;rw[aG,aj,aI];omega
theorem QF(W:World)(vs vp:Value)(d:Dk)(h:lK W vs vp d)(hk:mF d=0):
  Calls prog 45 #[.agg #[.int .i64 d.size,vs,vp,.int .i64 d.left]] W (Xe (jk d) W):=by
 obtain⟨i1,hi1,hy0,hy1,hy2⟩:=info_parts Tryz.Hy;obtain⟨A,c,P,cp,rfl,rfl,hc,hcp,hm,hmp⟩:=h.form;obtain⟨hval,Jy⟩:=wP hk;have V:=af hval;have v1:=hval.s1;have v2:=hval.s2;have v4:=hval.n2;have K1:=((ah W.heap.size W).alloc (ak _) (.cells #[.int .i64 d.size,.slice A d.secs.length c,.slice P d.pend.length cp,.int .i64 d.left] 56)).alloc gu (.cells #[.int .i64 0,.slice none 0 0,.int .i64 0] 110);have K2:=K1.alloc (by simp;omega) (.cells #[.int .i64 0] 28);have hb2:=(gV.new (W.alloc (.cells #[.int .i64 d.size,.slice A d.secs.length c,.slice P d.pend.length cp,.int .i64 d.left] 56)) #[.int .i64 0,.slice none 0 0,.int .i64 0] 110).alloc (.cells #[.int .i64 0] 28)
 have hb3:=gV.new ((W.alloc (.cells #[.int .i64 d.size,.slice A d.secs.length c,.slice P d.pend.length cp,.int .i64 d.left] 56)).alloc (.cells #[.int .i64 0,.slice none 0 0,.int .i64 0] 110)) #[.int .i64 0] 28;rw[aJ]at hb2;rw[aJ,aJ]at hb3;have HD1:=h.keep (dO K2);have hbk:=((gV.new W #[.int .i64 d.size,.slice A d.secs.length c,.slice P d.pend.length cp,.int .i64 d.left] 56).alloc (.cells #[.int .i64 0,.slice none 0 0,.int .i64 0] 110)).alloc (.cells #[.int .i64 0] 28)
 clear K1 hval;have HK:=af hk;refine(callsIn_wide (n:=3)).1 ?_;refine callsIn_of_wp_marks func45 rfl trivial ?_ rfl;simp only[ntmps45,di,aI,aM,Nat.reduceAdd,Nat.reduceSub,dm,dB,dL,dH,aO,cB];gi_upto_region 1 with (fail);generalize ((W.alloc (.cells #[.int .i64 d.size,.slice A d.secs.length c,.slice P d.pend.length cp,.int .i64 d.left] 56)).alloc (.cells #[.int .i64 0,.slice none 0 0,.int .i64 0] 110)).alloc (.cells #[.int .i64 0] 28)=w1 at *;have CH:=yB w1 _ _ d HD1
 rw[hk]at CH;have CH':=af CH;clear CH hk;obtain⟨q0,q1,q2,q3⟩:=ku hbk gD;gi_wp2_with fail;refine⟨trivial,?_⟩;refine(callsIn_wide.2 CH'.out).mono ?_;rintro e w2 ⟨rfl,hb⟩;have K3:=K2.trans (hb.mono K2.size);have x2:=hb2.keep hb;have x3:=hb3.keep hb;have xk:=hbk.keep hb;have HD2:=HD1.keep (dO hb);clear CH' hb q0 q1 q2 q3 hbk hb2 hb3 K2 HD1;obtain⟨q0,q1,q2,q3⟩:=ku xk gD;have CL:=af (AO w2 A c d.secs HD2.sec fZ fZ );have R:=af (Bg.mk x2 x3 K3);have XK:=af xk;have hs2:=K3.size;have hs3:=x3.lt;clear x2 x3 K3 xk;gi_wp2_with fail;refine⟨trivial,?_⟩;refine(callsIn_wide.2 CL.out).mono ?_
 rintro e w3 ⟨vl,rfl,hown,hb⟩;obtain⟨g,cap,rfl,hg0,hg1,hg2,hg3⟩:=CQ hown fZ ;have hown0:w3.ownsRow w2.heap.size 9 1 (.slice (some ⟨g,0,none⟩) d.secs.length cap) d.secs.length (((d.pend.take 0).foldl si d.secs).map .string):=hown;have R3:=af (Bg.mk (R.out.r2.keep hb) (R.out.r3.keep hb) (R.out.jM.trans (hb.mono hs2)));have XK3:=af (XK.out.keep hb);clear hown CL hb R XK HD2 q0 q1 q2 q3 hg1;obtain⟨q0,q1,q2,q3⟩:=ku XK3.out gD;gi_wp2;gi_loopw [25] (fun t wr=>∃k:Nat,k≤d.pend.length∧t=.int .i64 k∧wr.ownsRow w2.heap.size 9 1 (.slice (some ⟨g,0,none⟩) d.secs.length cap) d.secs.length (((d.pend.take k).foldl si d.secs).map .string)∧gV wr W.heap.size 56 #[.int .i64 d.size,.slice A d.secs.length c,.slice P d.pend.length cp,.int .i64 d.left] ∧
  Hid (Bg W.heap.size (W.heap.size+1) (W.heap.size+1+1) W wr)) (fun t _=>d.pend.length-(intOf t).toNat)
 case atStart=>exact⟨0,by omega,rfl,hown0,XK3.out,R3⟩
 case round =>
  clear hown0 R3 XK3 q0 q1 q2 q3;obtain⟨k,hk,rfl,hown,hxk,R⟩:=hrel;have hpk:=h.pen.keep (dO R.out.jM);have hbl:=hxk.lt;have hgl:=(hown.lt g rfl).2;have hbs:=R.out.jM.size;have alx:=R.out.r3.lt;obtain⟨q0,q1,q2,q3⟩:=ku hxk gD;by_cases hlt:k<d.pend.length
  ·obtain⟨b,off,rfl,a1,a2,a3,a4⟩:=hpk.get hlt;obtain⟨e1,e2,e3⟩:=V.out.ws _ (dA hlt);obtain⟨m,hm1⟩:=fA e1;generalize hs1:d.pend[k].2=s at *;have HS:=af (Kv d.secs hlt hm1 hs1);have hml:m<d.secs.length:=by omega
   rw[hm1]at a1;have hlen:((d.pend.take k).foldl si d.secs).length=d.secs.length:=lF _ _;generalize (d.pend.take k).foldl si d.secs=L at *;have hmL:m<L.length:=by omega
   have HL:=af hlen;clear hlen hm1 hs1 e1 e2 e3 a3 a4 hpk;have hbw:=gV.new wr #[.int .i64 (m:Int),.string s] 173;have NM:=hxk.alloc (.cells #[.int .i64 (m:Int),.string s] 173);have R3:=af (Bg.mk (R.out.r2.alloc (.cells #[.int .i64 (m:Int),.string s] 173)) (R.out.r3.alloc (.cells #[.int .i64 (m:Int),.string s] 173)) (R.out.jM.alloc hbs (.cells #[.int .i64 (m:Int),.string s] 173)));have hown3:=World.ownsRow.alloc hown (.cells #[.int .i64 (m:Int),.string s] 173);gi_upto_region 8 with (fail)
   generalize wr.alloc (.cells #[.int .i64 (m:Int),.string s] 173)=w4 at *;generalize wr.heap.size=gw at *;obtain⟨o1,o2⟩:=AB hown3 (i:=m) (u:=.string (L[m]'hmL)) gu ;clear q0 q1 q2 q3 a1 a2 hown hxk R;have p0:=hbw.cl 0;have p1:=hbw.cl 1;have HB:=R3.out.jM.setCell (p:=⟨g,m,none⟩) (show W.heap.size≤g by omega) (.string s);have R4:=af (Bg.mk (R3.out.r2.far (p:=⟨g,m,none⟩) (by simp;omega) (.string s)) (R3.out.r3.far (p:=⟨g,m,none⟩) (by simp;omega) (.string s)) HB);have HX4:=af (NM.far (p:=⟨g,m,none⟩) (by simp;omega) (.string s));have Fv:=af (CY hown3 (i:=m) (.string s))
   clear hown3 NM R3 HB hbw;gi_wp2;go_roundw
   case rel=>exact⟨k+1,by omega,by go_num,by rw[HS.out,List.map_set];exact Fv.out,HX4.out,R4⟩
   case measure=>simp[intOf];omega
  ·have hk':d.pend.take k=d.pend:=aF fZ ;have Rm:wr.ownsRow w2.heap.size 9 1 (.slice (some ⟨g,0,none⟩) d.secs.length cap) d.secs.length ((cur d).map .string):=by
    unfold cur;rw[←hk'];exact hown
   have hge:¬(k:Int)<(d.pend.length:Int):=by omega
   have HO:=af Rm;have HXK:=af hxk;have hsz:=jT d;have hcs:=V.out;obtain⟨b0,hb0⟩:∃x,x=(cur d)[0]' fZ:=⟨_,rfl⟩;have hbz:(b0.size:Int)=d.size:=by
    have hv:=wJ V.out 0 fZ ;rw[hb0];exact hv.ss _ (dA _)
   have o1:wr.cell? ⟨g,0,none⟩=some (.string b0):=(AB Rm (i:=0) (u:=.string b0) (by rw[hb0];simp)).1;have hb1:0<b0.size:=by omega
   have hact:xg d=b0[0].toNat:=by
    unfold xg jY;rw[bW,au (by omega:0<(cur d).length),dh,←hb0];have:=IQ b0 hb1;unfold kH;rw[List.headD_eq_head?_getD,this];rfl
   have hbd:=b0[0].toNat_lt;have hbx:=gV.new wr #[.int .i64 (b0[0].toNat:Int),.slice none 0 0,.int .i64 0] 110;have R3:=af (Bg.mk (R.out.r2.alloc (.cells #[.int .i64 (b0[0].toNat:Int),.slice none 0 0,.int .i64 0] 110)) (R.out.r3.alloc (.cells #[.int .i64 (b0[0].toNat:Int),.slice none 0 0,.int .i64 0] 110)) (R.out.jM.alloc hbs (.cells #[.int .i64 (b0[0].toNat:Int),.slice none 0 0,.int .i64 0] 110)));have Zu:qp (wr.alloc (.cells #[.int .i64 (b0[0].toNat:Int),.slice none 0 0,.int .i64 0] 110)) w2.heap.size (.slice (some ⟨g,0,none⟩) d.secs.length cap) (cur d):=by
    unfold qp;rw[jT];exact World.ownsRow.alloc Rm _
   have NM:=hxk.alloc (.cells #[.int .i64 (b0[0].toNat:Int),.slice none 0 0,.int .i64 0] 110);have hgz:W.heap.size+2<wr.heap.size:=by omega
   have ab6:=af hact;clear hk' hown Rm hxk hpk hlt hb0 hact HXK HO R;gi_upto_region 11 with (fail);generalize wr.alloc (.cells #[.int .i64 (b0[0].toNat:Int),.slice none 0 0,.int .i64 0] 110)=w5 at *;have HB0:Hid (b0[0].toNat=xg d):=ab6.out.symm;generalize b0[0].toNat=a0 at *;generalize Dj:wr.heap.size=b8 at *;clear o1 q0 q1 q2 q3;obtain⟨cc0,cc1,cc2,cf0,cf1,cf2⟩:=xh hbx;by_cases ha:a0=1∨a0=2
   ·have HE:=af (yD HK.out (by rw[←HB0.out];exact ha));have ha2:1≤a0∧a0≤2:=by omega
    have HD5:=h.keep (dO R3.out.jM);have CF:=af (wN w5 _ _ d HD5 v4 a0 ha2);obtain⟨q0,q1,q2,q3⟩:=ku NM gD;obtain⟨g1,g2,g3,g4,g5,g6⟩:=O7 (n:=d.secs.length) v4 ha2;obtain⟨h1,h2⟩:=wL Jy;obtain⟨h3,h4,_,_⟩:=nE Jy ha;clear g1 g2 g3;have HZ0:Hid (Below wr.heap.size w5 w5):=ah _ _;generalize hF:gN d.secs.length a0=F at *;generalize hH:gZ d.secs.length=H at *;have hsum:IntKind.i64.wrap ((F:Int)+(H:Int))=((F+H:Nat):Int):=by rw[jo fZ fZ ];omega
    have S1:Hid (∀(w:World) (xs:List ByteArray),Strs w (.slice (some ⟨g,0,none⟩) d.secs.length cap) xs→xs.length=d.secs.length→Strs w (.slice (some ⟨g,F,none⟩) H (cap-F)) ((xs.drop F).take H)):=by
     intro w xs hx hl;have:=Sl.sliced hx (i:=F) (j:=F+H) fZ fZ ;have e:sliced (some ⟨g,0,none⟩) F (F+H) cap 1=.slice (some ⟨g,F,none⟩) H (cap-F):=by
      have e1:cap≠0:=by omega
      have e2:cap≠F:=by omega
      have e3:F≠0:=by omega
      simp[sliced,Addr.add,e1,e2,e3]
     rw[e,fw]at this;exact this
    have Sk:Hid (qy d.size.toNat (cur d)):=by
     have hv:=wJ V.out 0 fZ ;show ∀s∈_,_;intro s hs;have hv2:(s.size:Int)=d.size:=hv.ss s hs;omega
    have Rl:Hid ((lI (cur d) F H).length=H*d.size.toNat):=by
     show _=_;unfold lI;rw[AZ ((Sk.out.drop F).take H),aH,aC,hsz,dz fZ ]
    have hHs:H*d.size.toNat≤1000*512:=Nat.mul_le_mul g4 fZ ;rcases ha with ha|ha
    ·have n1:((a0:Int) != 1)=false:=by rw[ha];rfl
     clear ha;gi_wp2_with fail;refine⟨trivial,?_⟩;refine(callsIn_wide.2 CF.out).mono ?_;rintro e w6 ⟨rfl,hb6⟩;have HD6:=HD5.keep (dO hb6);have X6:=NM.keep hb6;have ch:=vJ w6 _ _ d HD6;rw[hH]at ch;have CH:=af ch;clear q0 q1 q2 q3 ch;obtain⟨q0,q1,q2,q3⟩:=ku X6 gD;clear cc0 cc1 cc2 cf0 cf1 cf2;gi_wp2_with fail;refine⟨trivial,?_⟩;refine(callsIn_wide.2 CH.out).mono ?_;rintro e w7 ⟨rfl,xY⟩;have NN:=hb6.trans (xY.mono hb6.size);have S7:=S1.out w7 (cur d) (by have:=(Zu.keep NN).strs;exact this) hsz;have X7:=X6.keep xY;have hxl:(((cur d).drop F).take H).length=H:=by rw[aH,aC,hsz];omega
     have hfl:(((cur d).drop F).take H).flatMap kH=lI (cur d) F H:=rfl;have hal:=Rl.out;have cj:=Gw w7 (some ⟨g,F,none⟩) (cap-F) (((cur d).drop F).take H) (by rw[hxl];exact S7) fZ (by rw[hfl,hal];omega);rw[hxl,hfl]at cj;have CJ:=af cj;have NP:=af NN;clear q0 q1 q2 q3 cj CH CF S7 X6 hb6 xY HD6 NN hxl hfl;gi_wp2_with fail;refine⟨trivial,?_⟩;refine(callsIn_wide.2 CJ.out).mono ?_;rintro e w8 ⟨rfl,NQ⟩;have X8:=X7.keep NQ;have IX:=af (NP.out.trans (NQ.mono NP.out.size));have hzA:=gL (lI (cur d) F H);rw[hal]at hzA;have Zv:Hid (kH (fu (lI (cur d) F H))=lI (cur d) F H):=oI _
     have HARD:Hid (xN d=mX (lI (cur d) F H) d.size.toNat H):=by
      show _=_;unfold xN;rw[←HB0.out,hF,hH]
     clear CJ NP X7 NQ hal;obtain⟨q0,q1,q2,q3⟩:=ku X8 gD;generalize fu (lI (cur d) F H)=AR at *;have CFr:=af (Ez AR d.size w8);gi_wp2_with fail;refine⟨trivial,?_⟩;refine(callsIn_wide.2 CFr.out).mono ?_;rintro e w9 ⟨rfl,rfl⟩;clear CFr q0 q1 q2 q3;gi_wp2_with fail;generalize Xf:(w8.alloc (.cells #[.string AR] 9)).alloc (.cells #[.int .i64 d.size] 3)=w9 at *;have hs9:w9.heap.size=w8.heap.size+2:=by rw[←Xf];simp
     have xa:gV w9 w8.heap.size 9 #[.string AR]:=by rw[←Xf];exact(gV.new w8 _ _).alloc _
     have xz:gV w9 (w8.heap.size+1) 3 #[.int .i64 d.size]:=by
      rw[←Xf];have:=gV.new (w8.alloc (.cells #[.string AR] 9)) #[.int .i64 d.size] 3;rwa [aJ]at this
     have Zw:Below w5.heap.size w5 w9:=by rw[←Xf];exact(IX.out.alloc IX.out.size _).alloc (by have:=IX.out.size;simp;omega) _
     have afT:=hbx.lt;have hi0:VE W W.heap.size w9.heap.size (W.heap.size+1) (W.heap.size+1+1) b8 a0 [] w9 :=
      ⟨⟨.slice none 0 0,hbx.keep Zw,World.ownsRow_nil _ _ _ _⟩,R3.out.below fZ Zw,ak _⟩
     have afU:=Zw.size;have afV:=IX.out.size;rw[show (d.size:Int)=((d.size.toNat:Nat):Int) by omega]at xz;have TN:∀x∈(mX (kH AR) d.size.toNat H).1,x.1.length≤1000:=fun x hx=>((AY fZ (by rw[Zv.out];exact Rl.out) (H+1) 0 fZ ).2 x hx).1
     have hcn:(mX (kH AR) d.size.toNat H).1.length≤1000:=by
      have:=(AY (a:=kH AR) (sz:=d.size.toNat) (H:=H) fZ (by rw[Zv.out];exact Rl.out) (H+1) 0 fZ ).1;exact aS this fZ
     rw[←Zv.out]at HARD;generalize hX:mX (kH AR) d.size.toNat H=X at *;refine xJ (α:=List iX×Nat) (β:=TL) (gf:=134) (lb:=#[.pointer (some ⟨w8.heap.size,0,none⟩),.pointer (some ⟨w8.heap.size+1,0,none⟩)]) rfl (enters_of func134 gB rfl)
      rfl O9 Zp Zq (fun x b W r o o' ⟨e1,e2,hT⟩ ho hc=>⟨e1,e2,Pb hT ho hc⟩)
      (fun b=>b=b8∨b=W.heap.size+1∨b=W.heap.size+1+1) X.1 X.2 (VE W W.heap.size w9.heap.size (W.heap.size+1) (W.heap.size+1+1) b8 a0) (OpX W W.heap.size (W.heap.size+1) (W.heap.size+1+1))
      (fun pre W1 W2 hb hi=>hi.below fZ hb) (fun pre W1 r o o' hr hi ho hc=>hi.put fZ ho hc)
      (fun W1 W2 hb hi=>⟨hi.r2.keep hb,hi.r3.keep hb,hi.jM.trans (hb.mono hi.hs),aS hi.hs hb.size⟩) (fun W1 r o o' hr hi ho hc=>⟨lQ hi.r2 ho hc,lQ hi.r3 ho hc,pF hi.jM fZ ho,by rw[iT];exact hi.hs⟩)
      hi0 ?hit ?a1 ?assign ?body ?bad ?done ?stop
     case hit =>
      intro l J Jx hJb Vy hY hZ W1 hBW hJ0;subst hX;exact Ey 2 l fZ _ w9.heap.size w8.heap.size (w8.heap.size+1) AR d.size.toNat H fZ fZ fZ hzA (show ¬(_∨_∨_) by omega) (show ¬(_∨_∨_) by omega) fZ fZ J Jx hJb Vy hY hZ W1 (xa.below hBW fZ ) (xz.below hBW fZ ) hJ0
     case assign =>
      intro l b W1 K hK;unfold O9;gi_wp2;exact hK
     case body =>
      rintro l pre x ⟨bA,bn,bc,bz⟩ W1 hsW hi hpre ⟨e1,e2,hT⟩;simp only at e1 e2 hT;subst e1;subst e2;obtain⟨vr,Bh,hrow⟩:=hi.row;obtain⟨vA,vc,rfl⟩:=iw hrow;obtain⟨A2,c2,e0,hc2,_⟩:=hT.form;cases e0;have hsub:=hpre.sublist.subset;have hll:=hpre.length_le;rw[aj,aQ]at hll;have hf1:=EA pre fun y hy=>TN y (hsub (by simp[hy]))
      have hx1:=TN x (hsub gu );have hcl:=Gx hT;have hneg:¬((x.2:Nat):Int)<0:=by omega
      have acd:=Bh.lt;obtain⟨t0,t1,t2,Zx,Zy,Zz⟩:=xh Bh;have HI:=af hi;have VA:=hi.hs;have hxl:=Pg x.1;have hone:∀u∈x.1.flatMap Fu,u.oneCell'=true:=by
       intro u hu;obtain⟨y,_,hy⟩:=List.mem_flatMap.1 hu;rw[dw.1 hy];rfl
      simp only[O9];generalize TP:pre.flatMap (·.1)=L at *;have ZA:=af TP;clear hi hT hsub TP;gi_wp2_with (gi_at_builtin;go_must (refine qE _ rfl (.tmp 73) (.tmp 74) _ rfl w9.heap.size 9 i1 _ 1 16 underlying53 hi1 hy0 hy1 hy2 rfl fZ (.slice vA L.length vc) L.length _ rfl hrow bA x.1.length bc (x.1.flatMap Fu) rfl (by rw[hxl,Nat.mul_one]) hcl hone fZ fZ fZ ?_);intro v4 w4 iU jl rT;obtain⟨A4,c4,rfl⟩:=iw iU;have NR:=Bh.grown jl (fun e=>ig hrow Bh gm e.symm);obtain⟨s0,s1,s2,sf0,sf1,sf2⟩:=xh NR);have ZB:=(NR.set 1 (.slice A4 (L.length+x.1.length) c4)).set 2 (.int .i64 ((x.2:Nat):Int))
      have afX:b8≠W.heap.size+1∧b8≠W.heap.size+1+1:=by omega
      have hrl:∀gg,Value.ownBlock (.slice vA L.length vc)=some gg→w9.heap.size≤gg:=fun gg e=>(hrow.lt gg e).1
      have hKO:KeepsOthers W1 w4:=KeepsOthers.of_grownBy jl fun j o hj hjo=>by
       rcases hrow.2 with ⟨e1,_⟩|⟨gq,cap',cur',e1,_,hgq,_⟩
       ·rw[e1]at hj;simp[Value.ownBlock]at hj
       ·rw[e1]at hj;have:gq=j:=by simpa [Value.ownBlock] using hj
        subst this;rw[hgq]at hjo;cases hjo;rfl
      have hKN:iZ (fun b=>b=b8∨b=W.heap.size+1∨b=W.heap.size+1+1) w9.heap.size W1 w4:=⟨jl.size,fun i o hi _ ho=>(jl.block i (ax.1 ho).1 (fun e=>by have:=hrl i e.symm;omega)).trans ho⟩;rw[←hs9];have hr2:=HI.out.res.r2.grown jl (fun e=>ig hrow HI.out.res.r2 gm e.symm);have hr3:=HI.out.res.r3.grown jl (fun e=>ig hrow HI.out.res.r3 gm e.symm);have ZC:Below W.heap.size W w4:=HI.out.res.jM.grown jl fZ (fun kq e=>by have:=hrl kq e;omega);have hnb:=ig iU NR gm ;have hown5:=iY (M:=fun gg=>gg=b8) iU (fun gg e1 e2=>hnb (by rw[e1,e2])) _ ((Agree.set1 w4 b8 1 (.slice A4 (L.length+x.1.length) c4)).trans (Agree.set1 _ b8 2 (.int .i64 ((x.2:Nat):Int))))
      refine⟨(hKO.trans (KeepsOthers.setCell _ _ _)).trans (KeepsOthers.setCell _ _ _),(hKN.trans (iZ.set (.inl rfl))).trans (iZ.set (.inl rfl)),⟨⟨.slice A4 (L.length+x.1.length) c4,?_,?_⟩,⟨?_,?_,?_⟩,?_⟩⟩
      ·rw[Ep];exact ZB
      ·rw[aZ,ZA.out,aG,dQ,aU,aj,aZ];exact hown5
      ·exact(hr2.far (p:=⟨b8,1,none⟩) (by simp only;omega) _).far (p:=⟨b8,2,none⟩) (by simp only;omega) _
      ·exact(hr3.far (p:=⟨b8,1,none⟩) (by simp only;omega) _).far (p:=⟨b8,2,none⟩) (by simp only;omega) _
      ·exact(ZC.setCell (p:=⟨b8,1,none⟩) (by simp only;omega) _).setCell (p:=⟨b8,2,none⟩) (by simp only;omega) _
      ·have:=jl.size;simp[World.setCell];omega
     case bad =>
      rintro l bb W1 hsW hi hst hz;cases hz;obtain⟨t0,t1,t2,Zx,Zy,Zz⟩:=xh hi.res.r2;have y0:=hi.res.r3.cl 0;have y1:=hi.res.r3.frozen 0;obtain⟨z2,z3,zb⟩:=qb hi.res.r2 hi.res.r3 gu fZ fZ hi.res.jM (.int .i64 0) (.slice none 0 0) (.int .i64 0) (.int .i64 13);have VA:=hi.hs;have HI:=af hi;have hl2:=hi.res.r2.lt;have hl3:=hi.res.r3.lt;clear hi;simp only[O9];gi_wp2;try rw[←hs9]
      refine⟨(((KeepsOthers.setCell _ _ _).trans (KeepsOthers.setCell _ _ _)).trans (KeepsOthers.setCell _ _ _)).trans (KeepsOthers.setCell _ _ _),(((iZ.set (.inr (.inl rfl))).trans (iZ.set (.inr (.inl rfl)))).trans (iZ.set (.inr (.inl rfl)))).trans (iZ.set (.inr (.inr rfl))),⟨z2,z3,zb,?_⟩⟩;simp[World.setCell];omega
     case done =>
      rintro D W1 hD hst hi hK;obtain⟨vr,Bh,hrow⟩:=hi.row;obtain⟨vA,vc,rfl⟩:=iw hrow;have htx:=af (yX hrow);obtain⟨t0,t1,t2,Zx,Zy,Zz⟩:=xh hi.res.r2;obtain⟨s0,s1,s2,sf0,sf1,sf2⟩:=xh Bh;have y0:=hi.res.r3.cl 0;have y1:=hi.res.r3.frozen 0;have HI:=af hi;have zM:=af hrow;have MG:=af hK;clear hi hrow hK;generalize TP:X.1.flatMap (·.1)=L at *;have ZA:=af TP;clear TP;have ZE:Hid (jk d=((a0,L,oJ X.1 0),0)):=by
       show _=_;rw[HE.out,HARD.out,if_neg (by rw[hst];simp),ZA.out,HB0.out]
      have HP:=af (qb HI.out.res.r2 HI.out.res.r3 gu fZ fZ HI.out.res.jM (.int .i64 (a0:Int)) (.slice vA L.length vc) (.int .i64 ((oJ X.1 0:Nat):Int)) (.int .i64 0));have af0:=HI.out.res.r2.lt;generalize oJ X.1 0=le at *;gi_wp2;change bodyPostM _ _ _ _ _ _ _ (oL W1 (W.heap.size+1) (W.heap.size+1+1) (.int .i64 (a0:Int)) (.slice vA L.length vc) (.int .i64 (le:Int)) (.int .i64 0));have hkd:(oL W1 (W.heap.size+1) (W.heap.size+1+1) (.int .i64 (a0:Int)) (.slice vA L.length vc) (.int .i64 (le:Int)) (.int .i64 0)).heap[D]?=some (.deferred (some [])):=by
       unfold oL;rw[bf _ ⟨W.heap.size+1+1,0,none⟩ _ D (by simp only;omega),bf _ ⟨W.heap.size+1,2,none⟩ _ D (by simp only;omega),bf _ ⟨W.heap.size+1,1,none⟩ _ D (by simp only;omega),bf _ ⟨W.heap.size+1,0,none⟩ _ D (by simp only;omega)];exact MG.out
      have hrow':(oL W1 (W.heap.size+1) (W.heap.size+1+1) (.int .i64 (a0:Int)) (.slice vA L.length vc) (.int .i64 (le:Int)) (.int .i64 0)).ownsRow w9.heap.size 9 1 (.slice vA L.length vc) L.length (L.flatMap Fu):=by
       have hA:Agree (fun gg=>gg=W.heap.size+1∨gg=W.heap.size+1+1) W1 (oL W1 (W.heap.size+1) (W.heap.size+1+1) (.int .i64 (a0:Int)) (.slice vA L.length vc) (.int .i64 (le:Int)) (.int .i64 0)):=by
        unfold oL;exact(((Agree.setCell (p:=⟨W.heap.size+1,0,none⟩) _ (.inl rfl) _).trans (Agree.setCell (p:=⟨W.heap.size+1,1,none⟩) _ (.inl rfl) _)).trans (Agree.setCell (p:=⟨W.heap.size+1,2,none⟩) _ (.inl rfl) _)).trans (Agree.setCell (p:=⟨W.heap.size+1+1,0,none⟩) _ (.inr rfl) _)
       exact iY zM.out (fun gg e1 e2=>by have:=(zM.out.lt gg e1).1;omega) _ hA
      obtain⟨z2,z3,zb⟩:=HP.out;clear t0 t1 t2 Zx Zy Zz s0 s1 s2 sf0 sf1 sf2 y0 y1 HP;generalize oL W1 (W.heap.size+1) (W.heap.size+1+1) (.int .i64 (a0:Int)) (.slice vA L.length vc) (.int .i64 (le:Int)) (.int .i64 0)=wx at *;have z2:=lQ (o':=.deferred none) z2 hkd rfl;have z3:=lQ (o':=.deferred none) z3 hkd rfl;have zb:=pF (o':=.deferred none) zb (show W.heap.size≤D by omega) hkd;have zr:=yX (IW (o':=.deferred none) hrow' hkd rfl);have k0:=z2.cl 0;have k1:=z2.cl 1;have k2:=z2.cl 2;have k3:=z3.cl 0;have htk:=run_takeDeferred (P:=prog) hkd;generalize wx.putObj D (.deferred none)=wy at *
      refine⟨by simp,.inl ⟨_,_,rfl,htk,?_⟩⟩;exact⟨.tuple #[.agg #[.int .i64 (a0:Int),.slice vA L.length vc,.int .i64 (le:Int)],.int .i64 0],by simp[results,results45,go_sem,k0,k1,k2,k3],by rw[ZE.out];exact⟨_,rfl,zr,zb⟩⟩
     case stop =>
      rintro D W1 hD hst hx hK;refine wpIn_ret ?_;have z2:=lQ (o':=.deferred none) hx.r2 hK rfl;have z3:=lQ (o':=.deferred none) hx.r3 hK rfl;have zb:=pF (o':=.deferred none) hx.jM (show W.heap.size≤D by omega) hK;have k0:=z2.cl 0;have k1:=z2.cl 1;have k2:=z2.cl 2;have k3:=z3.cl 0;have ZE:jk d=((0,[],0),13):=by rw[HE.out,HARD.out,if_pos hst]
      have htk:=run_takeDeferred (P:=prog) hK;generalize W1.putObj D (.deferred none)=wx at *;refine⟨by simp,.inl ⟨_,_,rfl,htk,?_⟩⟩;exact⟨.tuple #[.agg #[.int .i64 0,.slice none 0 0,.int .i64 0],.int .i64 13],by simp[results,results45,go_sem,k0,k1,k2,k3],by rw[ZE];exact wO zb⟩
    ·have n1:((a0:Int) != 1)=true:=by rw[ha];rfl
     have n2:((a0:Int) != 2)=false:=by rw[ha];rfl
     clear ha;gi_wp2_with fail;refine⟨trivial,?_⟩;refine(callsIn_wide.2 CF.out).mono ?_;rintro e w6 ⟨rfl,hb6⟩;have HD6:=HD5.keep (dO hb6);have X6:=NM.keep hb6;have ch:=vJ w6 _ _ d HD6;rw[hH]at ch;have CH:=af ch;clear q0 q1 q2 q3 ch;obtain⟨q0,q1,q2,q3⟩:=ku X6 gD;clear cc0 cc1 cc2 cf0 cf1 cf2;gi_wp2_with fail;refine⟨trivial,?_⟩;refine(callsIn_wide.2 CH.out).mono ?_;rintro e w7 ⟨rfl,xY⟩;have NN:=hb6.trans (xY.mono hb6.size);have S7:=S1.out w7 (cur d) (by have:=(Zu.keep NN).strs;exact this) hsz;have X7:=X6.keep xY;have hxl:(((cur d).drop F).take H).length=H:=by rw[aH,aC,hsz];omega
     have hfl:(((cur d).drop F).take H).flatMap kH=lI (cur d) F H:=rfl;have hal:=Rl.out;have cj:=Gw w7 (some ⟨g,F,none⟩) (cap-F) (((cur d).drop F).take H) (by rw[hxl];exact S7) fZ (by rw[hfl,hal];omega);rw[hxl,hfl]at cj;have CJ:=af cj;have NP:=af NN;clear q0 q1 q2 q3 cj CH CF S7 X6 hb6 xY HD6 NN hxl hfl;gi_wp2_with fail;refine⟨trivial,?_⟩;refine(callsIn_wide.2 CJ.out).mono ?_;rintro e w8 ⟨rfl,NQ⟩;have X8:=X7.keep NQ;have IX:=af (NP.out.trans (NQ.mono NP.out.size));have hzA:=gL (lI (cur d) F H);rw[hal]at hzA;have Zv:Hid (kH (fu (lI (cur d) F H))=lI (cur d) F H):=oI _
     have HARD:Hid (xN d=mX (lI (cur d) F H) d.size.toNat H):=by
      show _=_;unfold xN;rw[←HB0.out,hF,hH]
     clear CJ NP X7 NQ hal;obtain⟨q0,q1,q2,q3⟩:=ku X8 gD;generalize fu (lI (cur d) F H)=AR at *;have CFr:=af (Ez AR d.size w8);gi_wp2_with fail;refine⟨trivial,?_⟩;refine(callsIn_wide.2 CFr.out).mono ?_;rintro e w9 ⟨rfl,rfl⟩;clear CFr q0 q1 q2 q3;gi_wp2_with fail;generalize Xf:(w8.alloc (.cells #[.string AR] 9)).alloc (.cells #[.int .i64 d.size] 3)=w9 at *;have hs9:w9.heap.size=w8.heap.size+2:=by rw[←Xf];simp
     have xa:gV w9 w8.heap.size 9 #[.string AR]:=by rw[←Xf];exact(gV.new w8 _ _).alloc _
     have xz:gV w9 (w8.heap.size+1) 3 #[.int .i64 d.size]:=by
      rw[←Xf];have:=gV.new (w8.alloc (.cells #[.string AR] 9)) #[.int .i64 d.size] 3;rwa [aJ]at this
     have Zw:Below w5.heap.size w5 w9:=by rw[←Xf];exact(IX.out.alloc IX.out.size _).alloc (by have:=IX.out.size;simp;omega) _
     have afT:=hbx.lt;have hi0:VE W W.heap.size w9.heap.size (W.heap.size+1) (W.heap.size+1+1) b8 a0 [] w9 :=
      ⟨⟨.slice none 0 0,hbx.keep Zw,World.ownsRow_nil _ _ _ _⟩,R3.out.below fZ Zw,ak _⟩
     have afU:=Zw.size;have afV:=IX.out.size;rw[show (d.size:Int)=((d.size.toNat:Nat):Int) by omega]at xz;have TN:∀x∈(mX (kH AR) d.size.toNat H).1,x.1.length≤1000:=fun x hx=>((AY fZ (by rw[Zv.out];exact Rl.out) (H+1) 0 fZ ).2 x hx).1
     have hcn:(mX (kH AR) d.size.toNat H).1.length≤1000:=by
      have:=(AY (a:=kH AR) (sz:=d.size.toNat) (H:=H) fZ (by rw[Zv.out];exact Rl.out) (H+1) 0 fZ ).1;exact aS this fZ
     rw[←Zv.out]at HARD;generalize hX:mX (kH AR) d.size.toNat H=X at *;refine xJ (α:=List iX×Nat) (β:=TL) (gf:=134) (lb:=#[.pointer (some ⟨w8.heap.size,0,none⟩),.pointer (some ⟨w8.heap.size+1,0,none⟩)]) rfl (enters_of func134 gB rfl)
      rfl O9 Zp Zq (fun x b W r o o' ⟨e1,e2,hT⟩ ho hc=>⟨e1,e2,Pb hT ho hc⟩)
      (fun b=>b=b8∨b=W.heap.size+1∨b=W.heap.size+1+1) X.1 X.2 (VE W W.heap.size w9.heap.size (W.heap.size+1) (W.heap.size+1+1) b8 a0) (OpX W W.heap.size (W.heap.size+1) (W.heap.size+1+1))
      (fun pre W1 W2 hb hi=>hi.below fZ hb) (fun pre W1 r o o' hr hi ho hc=>hi.put fZ ho hc)
      (fun W1 W2 hb hi=>⟨hi.r2.keep hb,hi.r3.keep hb,hi.jM.trans (hb.mono hi.hs),aS hi.hs hb.size⟩) (fun W1 r o o' hr hi ho hc=>⟨lQ hi.r2 ho hc,lQ hi.r3 ho hc,pF hi.jM fZ ho,by rw[iT];exact hi.hs⟩)
      hi0 ?af2 ?a1q ?Xg ?ach ?af3 ?aci ?acj
     case af2 =>
      intro l J Jx hJb Vy hY hZ W1 hBW hJ0;subst hX;exact Ey 2 l fZ _ w9.heap.size w8.heap.size (w8.heap.size+1) AR d.size.toNat H fZ fZ fZ hzA (show ¬(_∨_∨_) by omega) (show ¬(_∨_∨_) by omega) fZ fZ J Jx hJb Vy hY hZ W1 (xa.below hBW fZ ) (xz.below hBW fZ ) hJ0
     case Xg =>
      intro l b W1 K hK;unfold O9;gi_wp2;exact hK
     case ach =>
      rintro l pre x ⟨bA,bn,bc,bz⟩ W1 hsW hi hpre ⟨e1,e2,hT⟩;simp only at e1 e2 hT;subst e1;subst e2;obtain⟨vr,Bh,hrow⟩:=hi.row;obtain⟨vA,vc,rfl⟩:=iw hrow;obtain⟨A2,c2,e0,hc2,_⟩:=hT.form;cases e0;have hsub:=hpre.sublist.subset;have hll:=hpre.length_le;rw[aj,aQ]at hll;have hf1:=EA pre fun y hy=>TN y (hsub (by simp[hy]))
      have hx1:=TN x (hsub gu );have hcl:=Gx hT;have hneg:¬((x.2:Nat):Int)<0:=by omega
      have acd:=Bh.lt;obtain⟨t0,t1,t2,Zx,Zy,Zz⟩:=xh Bh;have HI:=af hi;have VA:=hi.hs;have hxl:=Pg x.1;have hone:∀u∈x.1.flatMap Fu,u.oneCell'=true:=by
       intro u hu;obtain⟨y,_,hy⟩:=List.mem_flatMap.1 hu;rw[dw.1 hy];rfl
      simp only[O9];generalize TP:pre.flatMap (·.1)=L at *;have ZA:=af TP;clear hi hT hsub TP;gi_wp2_with (gi_at_builtin;go_must (refine qE _ rfl (.tmp 73) (.tmp 74) _ rfl w9.heap.size 9 i1 _ 1 16 underlying53 hi1 hy0 hy1 hy2 rfl fZ (.slice vA L.length vc) L.length _ rfl hrow bA x.1.length bc (x.1.flatMap Fu) rfl (by rw[hxl,Nat.mul_one]) hcl hone fZ fZ fZ ?_);intro v4 w4 iU jl rT;obtain⟨A4,c4,rfl⟩:=iw iU;have NR:=Bh.grown jl (fun e=>ig hrow Bh gm e.symm);obtain⟨s0,s1,s2,sf0,sf1,sf2⟩:=xh NR);have ZB:=(NR.set 1 (.slice A4 (L.length+x.1.length) c4)).set 2 (.int .i64 ((x.2:Nat):Int))
      have afX:b8≠W.heap.size+1∧b8≠W.heap.size+1+1:=by omega
      have hrl:∀gg,Value.ownBlock (.slice vA L.length vc)=some gg→w9.heap.size≤gg:=fun gg e=>(hrow.lt gg e).1
      have hKO:KeepsOthers W1 w4:=KeepsOthers.of_grownBy jl fun j o hj hjo=>by
       rcases hrow.2 with ⟨e1,_⟩|⟨gq,cap',cur',e1,_,hgq,_⟩
       ·rw[e1]at hj;simp[Value.ownBlock]at hj
       ·rw[e1]at hj;have:gq=j:=by simpa [Value.ownBlock] using hj
        subst this;rw[hgq]at hjo;cases hjo;rfl
      have hKN:iZ (fun b=>b=b8∨b=W.heap.size+1∨b=W.heap.size+1+1) w9.heap.size W1 w4:=⟨jl.size,fun i o hi _ ho=>(jl.block i (ax.1 ho).1 (fun e=>by have:=hrl i e.symm;omega)).trans ho⟩;rw[←hs9];have hr2:=HI.out.res.r2.grown jl (fun e=>ig hrow HI.out.res.r2 gm e.symm);have hr3:=HI.out.res.r3.grown jl (fun e=>ig hrow HI.out.res.r3 gm e.symm);have ZC:Below W.heap.size W w4:=HI.out.res.jM.grown jl fZ (fun kq e=>by have:=hrl kq e;omega);have hnb:=ig iU NR gm ;have hown5:=iY (M:=fun gg=>gg=b8) iU (fun gg e1 e2=>hnb (by rw[e1,e2])) _ ((Agree.set1 w4 b8 1 (.slice A4 (L.length+x.1.length) c4)).trans (Agree.set1 _ b8 2 (.int .i64 ((x.2:Nat):Int))))
      refine⟨(hKO.trans (KeepsOthers.setCell _ _ _)).trans (KeepsOthers.setCell _ _ _),(hKN.trans (iZ.set (.inl rfl))).trans (iZ.set (.inl rfl)),⟨⟨.slice A4 (L.length+x.1.length) c4,?_,?_⟩,⟨?_,?_,?_⟩,?_⟩⟩
      ·rw[Ep];exact ZB
      ·rw[aZ,ZA.out,aG,dQ,aU,aj,aZ];exact hown5
      ·exact(hr2.far (p:=⟨b8,1,none⟩) (by simp only;omega) _).far (p:=⟨b8,2,none⟩) (by simp only;omega) _
      ·exact(hr3.far (p:=⟨b8,1,none⟩) (by simp only;omega) _).far (p:=⟨b8,2,none⟩) (by simp only;omega) _
      ·exact(ZC.setCell (p:=⟨b8,1,none⟩) (by simp only;omega) _).setCell (p:=⟨b8,2,none⟩) (by simp only;omega) _
      ·have:=jl.size;simp[World.setCell];omega
     case af3 =>
      rintro l bb W1 hsW hi hst hz;cases hz;obtain⟨t0,t1,t2,Zx,Zy,Zz⟩:=xh hi.res.r2;have y0:=hi.res.r3.cl 0;have y1:=hi.res.r3.frozen 0;obtain⟨z2,z3,zb⟩:=qb hi.res.r2 hi.res.r3 gu fZ fZ hi.res.jM (.int .i64 0) (.slice none 0 0) (.int .i64 0) (.int .i64 13);have VA:=hi.hs;have HI:=af hi;have hl2:=hi.res.r2.lt;have hl3:=hi.res.r3.lt;clear hi;simp only[O9];gi_wp2;try rw[←hs9]
      refine⟨(((KeepsOthers.setCell _ _ _).trans (KeepsOthers.setCell _ _ _)).trans (KeepsOthers.setCell _ _ _)).trans (KeepsOthers.setCell _ _ _),(((iZ.set (.inr (.inl rfl))).trans (iZ.set (.inr (.inl rfl)))).trans (iZ.set (.inr (.inl rfl)))).trans (iZ.set (.inr (.inr rfl))),⟨z2,z3,zb,?_⟩⟩;simp[World.setCell];omega
     case aci =>
      rintro D W1 hD hst hi hK;obtain⟨vr,Bh,hrow⟩:=hi.row;obtain⟨vA,vc,rfl⟩:=iw hrow;have htx:=af (yX hrow);obtain⟨t0,t1,t2,Zx,Zy,Zz⟩:=xh hi.res.r2;obtain⟨s0,s1,s2,sf0,sf1,sf2⟩:=xh Bh;have y0:=hi.res.r3.cl 0;have y1:=hi.res.r3.frozen 0;have HI:=af hi;have zM:=af hrow;have MG:=af hK;clear hi hrow hK;generalize TP:X.1.flatMap (·.1)=L at *;have ZA:=af TP;clear TP;have ZE:Hid (jk d=((a0,L,oJ X.1 0),0)):=by
       show _=_;rw[HE.out,HARD.out,if_neg (by rw[hst];simp),ZA.out,HB0.out]
      have HP:=af (qb HI.out.res.r2 HI.out.res.r3 gu fZ fZ HI.out.res.jM (.int .i64 (a0:Int)) (.slice vA L.length vc) (.int .i64 ((oJ X.1 0:Nat):Int)) (.int .i64 0));have af0:=HI.out.res.r2.lt;generalize oJ X.1 0=le at *;gi_wp2;change bodyPostM _ _ _ _ _ _ _ (oL W1 (W.heap.size+1) (W.heap.size+1+1) (.int .i64 (a0:Int)) (.slice vA L.length vc) (.int .i64 (le:Int)) (.int .i64 0));have hkd:(oL W1 (W.heap.size+1) (W.heap.size+1+1) (.int .i64 (a0:Int)) (.slice vA L.length vc) (.int .i64 (le:Int)) (.int .i64 0)).heap[D]?=some (.deferred (some [])):=by
       unfold oL;rw[bf _ ⟨W.heap.size+1+1,0,none⟩ _ D (by simp only;omega),bf _ ⟨W.heap.size+1,2,none⟩ _ D (by simp only;omega),bf _ ⟨W.heap.size+1,1,none⟩ _ D (by simp only;omega),bf _ ⟨W.heap.size+1,0,none⟩ _ D (by simp only;omega)];exact MG.out
      have hrow':(oL W1 (W.heap.size+1) (W.heap.size+1+1) (.int .i64 (a0:Int)) (.slice vA L.length vc) (.int .i64 (le:Int)) (.int .i64 0)).ownsRow w9.heap.size 9 1 (.slice vA L.length vc) L.length (L.flatMap Fu):=by
       have hA:Agree (fun gg=>gg=W.heap.size+1∨gg=W.heap.size+1+1) W1 (oL W1 (W.heap.size+1) (W.heap.size+1+1) (.int .i64 (a0:Int)) (.slice vA L.length vc) (.int .i64 (le:Int)) (.int .i64 0)):=by
        unfold oL;exact(((Agree.setCell (p:=⟨W.heap.size+1,0,none⟩) _ (.inl rfl) _).trans (Agree.setCell (p:=⟨W.heap.size+1,1,none⟩) _ (.inl rfl) _)).trans (Agree.setCell (p:=⟨W.heap.size+1,2,none⟩) _ (.inl rfl) _)).trans (Agree.setCell (p:=⟨W.heap.size+1+1,0,none⟩) _ (.inr rfl) _)
       exact iY zM.out (fun gg e1 e2=>by have:=(zM.out.lt gg e1).1;omega) _ hA
      obtain⟨z2,z3,zb⟩:=HP.out;clear t0 t1 t2 Zx Zy Zz s0 s1 s2 sf0 sf1 sf2 y0 y1 HP;generalize oL W1 (W.heap.size+1) (W.heap.size+1+1) (.int .i64 (a0:Int)) (.slice vA L.length vc) (.int .i64 (le:Int)) (.int .i64 0)=wx at *;have z2:=lQ (o':=.deferred none) z2 hkd rfl;have z3:=lQ (o':=.deferred none) z3 hkd rfl;have zb:=pF (o':=.deferred none) zb (show W.heap.size≤D by omega) hkd;have zr:=yX (IW (o':=.deferred none) hrow' hkd rfl);have k0:=z2.cl 0;have k1:=z2.cl 1;have k2:=z2.cl 2;have k3:=z3.cl 0;have htk:=run_takeDeferred (P:=prog) hkd;generalize wx.putObj D (.deferred none)=wy at *
      refine⟨by simp,.inl ⟨_,_,rfl,htk,?_⟩⟩;exact⟨.tuple #[.agg #[.int .i64 (a0:Int),.slice vA L.length vc,.int .i64 (le:Int)],.int .i64 0],by simp[results,results45,go_sem,k0,k1,k2,k3],by rw[ZE.out];exact⟨_,rfl,zr,zb⟩⟩
     case acj =>
      rintro D W1 hD hst hx hK;refine wpIn_ret ?_;have z2:=lQ (o':=.deferred none) hx.r2 hK rfl;have z3:=lQ (o':=.deferred none) hx.r3 hK rfl;have zb:=pF (o':=.deferred none) hx.jM (show W.heap.size≤D by omega) hK;have k0:=z2.cl 0;have k1:=z2.cl 1;have k2:=z2.cl 2;have k3:=z3.cl 0;have ZE:jk d=((0,[],0),13):=by rw[HE.out,HARD.out,if_pos hst]
      have htk:=run_takeDeferred (P:=prog) hK;generalize W1.putObj D (.deferred none)=wx at *;refine⟨by simp,.inl ⟨_,_,rfl,htk,?_⟩⟩;exact⟨.tuple #[.agg #[.int .i64 0,.slice none 0 0,.int .i64 0],.int .i64 13],by simp[results,results45,go_sem,k0,k1,k2,k3],by rw[ZE];exact wO zb⟩
   ·have n1:((a0:Int) != 1)=true:=by simp;omega
    have n2:((a0:Int) != 2)=true:=by simp;omega
    have HE:=af (yC HK.out (by rw[←HB0.out];exact ha));obtain⟨a0',a1,a2,f0,f1,f2⟩:=xh R3.out.r2;have y0:=R3.out.r3.cl 0;have y1:=R3.out.r3.frozen 0;obtain⟨z2,z3,zb⟩:=qb R3.out.r2 R3.out.r3 gu fZ fZ R3.out.jM (.int .i64 0) (.slice none 0 0) (.int .i64 0) (.int .i64 13);clear R3 Zu NM ha HB0 ab6;gi_wp2;change bodyPostM _ _ _ _ _ _ _ (oL w5 (W.heap.size+1) (W.heap.size+1+1) (.int .i64 0) (.slice none 0 0) (.int .i64 0) (.int .i64 13));have k0:=z2.cl 0;have k1:=z2.cl 1;have k2:=z2.cl 2;have k3:=z3.cl 0;clear cc0 cc1 cc2 cf0 cf1 cf2 a0' a1 a2 f0 f1 f2 y0 y1
    generalize oL w5 (W.heap.size+1) (W.heap.size+1+1) (.int .i64 0) (.slice none 0 0) (.int .i64 0) (.int .i64 13)=wx at *;exact⟨.tuple #[.agg #[.int .i64 0,.slice none 0 0,.int .i64 0],.int .i64 13],by simp[results,results45,go_sem,k0,k1,k2,k3],by rw[HE.out];exact wO zb⟩
theorem Li(W:World)(vs vp:Value)(d:Dk)(h:lK W vs vp d):
  Calls prog 45 #[.agg #[.int .i64 d.size,vs,vp,.int .i64 d.left]] W (Xe (jk d) W):=by
 by_cases hk:mF d=0
 ·exact QF W vs vp d h hk
 ·exact TM W vs vp d h hk
end Go.Proofs.YtichfhpgdhdiaaaGreat
namespace Go.Proofs.YtichfhpgdhdiaaaGreat
open Go.RowKit
def af4(r:List iX×Int)(W:World)(e:Ending)(w:World):Prop:=∃v,e=.returned (.tuple #[v,.int .i64 r.2])∧vY w v r.1∧Below W.heap.size W w
theorem Lj(W:World)(vs vp:Value)(d:Dk)(h:lK W vs vp d):
  Calls prog 21 #[.agg #[.int .i64 d.size,vs,vp,.int .i64 d.left]] W (af4 (vG d) W):=by
 obtain⟨A,c,P,cp,rfl,rfl,hc,hcp,hm,hmp⟩:=h.form;have K1:=(ah W.heap.size W).alloc (ak _) (.cells #[.int .i64 d.size,.slice A d.secs.length c,.slice P d.pend.length cp,.int .i64 d.left] 56);have HD1:=h.keep (dO K1);have CO:=af (Li _ _ _ d HD1);have HK:=af K1;have HR:Hid (vG d=((jk d).1.2.1,(jk d).2)):=rfl;generalize jk d=r at *;obtain⟨⟨a0,l,u⟩,e0⟩:=r;simp only at HR;clear K1;go_enter func21,ntmps21;go_wp2_with fail;refine CO.out.mono ?_;rintro e w2 ⟨v,rfl,ht,hb⟩;obtain⟨rA,rc,rfl,_,_⟩:=vY.form ht
 have HT:=af (ht.keep (Keeps.alloc w2 (.cells #[.int .i64 (a0:Int),.slice rA l.length rc,.int .i64 (u:Int)] 110)));have HB:=af ((HK.out.trans (hb.mono HK.out.size)).alloc (by have:=(HK.out.trans (hb.mono HK.out.size)).size;omega) (.cells #[.int .i64 (a0:Int),.slice rA l.length rc,.int .i64 (u:Int)] 110));clear CO HK ht hb HD1;simp only;go_wp2;go_ret2;rw[HR.out];exact⟨_,rfl,HT.out,HB.out⟩
end Go.Proofs.YtichfhpgdhdiaaaGreat
namespace Go.Proofs.YtichfhpgdhdiaaaGreat
open Go.RowKit
theorem TQ{H:Nat}(l:List (List iX×Nat))(h:∀x∈l,x.2≤H):oJ l 0≤H:=by
 unfold oJ;cases hl:l.getLast? with
 |none=>simp
 |some x=>simpa using h x (List.mem_of_getLast? hl)
theorem Xh{d:Dk}(h:(jk d).2=0):(jk d).1.2.2≤gZ d.secs.length∧gZ d.secs.length≤1000:=by
 by_cases hk:mF d=0
 ·obtain⟨hv,Jy⟩:=wP hk;have hn:=hv.n2;refine⟨?_,by unfold gZ;omega⟩;by_cases ha:xg d=1∨xg d=2
  ·rw[yD hk ha]at h ⊢;by_cases hb:(xN d).2=true
   ·rw[if_pos hb]at h;simp at h
   ·rw[if_neg hb];have hsz:=jT d;have v1:=hv.s1;obtain⟨h3,h4,_,_⟩:=nE Jy ha;have Sk:qy d.size.toNat (cur d):=fun s hs=>by
     have hv2:(s.size:Int)=d.size:=(wJ hv 0 fZ ).ss s hs;omega
    have hal:(lI (cur d) (gN d.secs.length (xg d)) (gZ d.secs.length)).length=gZ d.secs.length*d.size.toNat:=by
     unfold lI;rw[AZ ((Sk.drop _).take _),aH,aC,hsz,dz fZ ]
    exact TQ _ fun x hx=>((AY fZ hal (gZ d.secs.length+1) 0 fZ ).2 x hx).2
  ·rw[yC hk ha]at h;simp at h
 ·rw[Bf hk]at h;exact absurd h hk
end Go.Proofs.YtichfhpgdhdiaaaGreat
namespace Go.Proofs.YtichfhpgdhdiaaaGreat
open Go.RowKit
def Ll(w:World)(v:Value):Option ny→Prop
 |none=>v=.func (.func 44) #[] #[]
 |some o=>∃b1 b2,v=.func (.func 88) #[] #[.pointer (some ⟨b1,0,none⟩),.pointer (some ⟨b2,0,none⟩)]∧gV w b1 3 #[.int .i64 (o.1:Int)]∧gV w b2 9 #[.string o.2]∧o.1≤100000
theorem Ll.keep{w w':World}{v:Value}{o:Option ny}(h:Ll w v o)(k:Below w.heap.size w w'):Ll w' v o:=by
 cases o with
 |none=>exact h
 |some o =>
  obtain⟨b1,b2,e,h1,h2,h3⟩:=h;exact⟨b1,b2,e,h1.keep k,h2.keep k,h3⟩
theorem pG(i:Nat)(s:ByteArray)(hi:i≤100000)(w:World):Calls prog 42 #[.int .i64 i,.string s] w fun e w'=>∃v,e=.returned v∧Ll w' v (some (i,s))∧Below w.heap.size w w':=by
 go_enter func42,ntmps42;go_wp2;go_ret;refine⟨_,rfl,⟨w.heap.size,w.heap.size+1,by simp,(gV.new w _ _).alloc _,?_,hi⟩,((ah _ _).alloc (ak _) _).alloc gu _⟩;have:=gV.new (w.alloc (.cells #[.int .i64 (i:Int)] 3)) #[.string s] 9;rwa [aJ]at this
theorem pI{w:World}{d:Dk}{g:Nat}{A P:Option Addr}{c cp:Nat}{a b:Int}{A0 P0:Option Addr}{n0 c0 m0 k0:Nat}(hb:gV w g 56 #[.int .i64 a,.slice A0 n0 c0,.slice P0 m0 k0,.int .i64 b])(h:lK w (.slice A d.secs.length c) (.slice P d.pend.length cp) d):Var (mE w g A c P cp d) g A c P cp d :=
 ⟨(((hb.set 0 _).set 1 _).set 2 _).set 3 _,h.uR hb⟩
def yO(w:World)(vals:List Value)(ops:List (Option ny)):Prop:=vals.length=ops.length∧∀(k:Nat) (x:Value) (y:Option ny),vals[k]?=some x→ops[k]?=some y→Ll w x y
theorem yO.keep{w w':World}{vals:List Value}{ops:List (Option ny)}(h:yO w vals ops)(k:Below w.heap.size w w'):yO w' vals ops:=⟨h.1,fun i x y h1 h2=>(h.2 i x y h1 h2).keep k⟩
theorem yO.nil(w:World):yO w [] []:=⟨rfl,fun k x y h=>by simp at h⟩
theorem yO.append{w:World}{v1 v2:List Value}{o1 o2:List (Option ny)}(h1:yO w v1 o1)(h2:yO w v2 o2):yO w (v1++v2) (o1++o2):=by
 refine⟨by simp[h1.1,h2.1],fun k x y hx hy=>?_⟩;by_cases hk:k<v1.length
 ·rw[aY hk]at hx;rw[aY (by rw[←h1.1];exact hk)]at hy;exact h1.2 k x y hx hy
 ·rw[bD fZ ]at hx;rw[bD (by rw[←h1.1];omega),←h1.1]at hy;exact h2.2 _ x y hx hy
theorem yO.one{w:World}{v:Value}{o:Option ny}(h:Ll w v o):yO w [v] [o]:=⟨rfl,fun k x y hx hy=>by
 cases k with
 |zero=>simp at hx hy;subst hx;subst hy;exact h
 |succ k=>simp at hx⟩
def Xi(w:World)(v:Value)(ops:List (Option ny)):Prop:=∃vals:List Value,Sl w 1 (fun us x=>us = [x]) v vals∧yO w vals ops
theorem Xi.keep{w w':World}{v:Value}{ops:List (Option ny)}(h:Xi w v ops)(k:Below w.heap.size w w'):Xi w' v ops:=by
 obtain⟨vals,h1,h2⟩:=h;exact⟨vals,Sl.keep h1 (dO k) (fun _ _ h=>h),h2.keep k⟩
theorem NS(d:Dk)(o:Option ny):(o7 d o).1.pend.length≤d.pend.length+1:=by
 cases o with
 |none=>simp only[o7,Qp];split<;>(try split)<;>simp[iL]
 |some w=>simp only[o7,AL];split<;>(try split)<;>simp[iL]
theorem QG{d:Dk}{ops:List (Option ny)}{k:Nat}{o:Option ny}(h:ops[k]?=some o):lg d (ops.drop k)=if (o7 d o).2≠0 then((o7 d o).1,(o7 d o).2)else lg (o7 d o).1 (ops.drop (k+1)):=by
 obtain⟨hlt,rfl⟩:=ay.1 h;rw[aR hlt];rfl
end Go.Proofs.YtichfhpgdhdiaaaGreat
namespace Go.Proofs.YtichfhpgdhdiaaaGreat
open Go.RowKit
theorem Tryz.Ph:(Tryz.prog.info? 105).map (fun i=>(i.zero,i.size,i.bytes))=some (some .nilFunc,1,8):=by kernel_rfl
theorem Ll.grown{w w':World}{v:Value}{o:Option ny}(h:Ll w v o){row:Option Nat}(hg:w.grownBy w' row)(hr:∀g t cs,gV w g t cs→t≠105→some g≠row):Ll w' v o:=by
 cases o with
 |none=>exact h
 |some o =>
  obtain⟨b1,b2,e,h1,h2,h3⟩:=h;exact⟨b1,b2,e,h1.grown hg (hr _ _ _ h1 gm ),h2.grown hg (hr _ _ _ h2 gm ),h3⟩
theorem yO.grown{w w':World}{vals:List Value}{ops:List (Option ny)}(h:yO w vals ops){row:Option Nat}(hg:w.grownBy w' row)(hr:∀g t cs,gV w g t cs→t≠105→some g≠row):yO w' vals ops :=
 ⟨h.1,fun i x y h1 h2=>(h.2 i x y h1 h2).grown hg hr⟩
def yE(w:World)(B:Nat)(v:Value)(ops:List (Option ny)):Prop:=∃vals:List Value,w.ownsRow B 105 1 v ops.length vals∧yO w vals ops∧∀u∈vals,u.oneCell'=true
theorem yE.nil(w:World)(B:Nat):yE w B (.slice none 0 0) []:=⟨[],World.ownsRow_nil _ _ _ _,yO.nil _,by simp⟩
theorem yE.form{w:World}{B:Nat}{v:Value}{ops:List (Option ny)}(h:yE w B v ops):∃A c,v=.slice A ops.length c:=by
 obtain⟨vals,h1,_⟩:=h;exact iw h1
theorem yE.below{w w':World}{B:Nat}{v:Value}{ops:List (Option ny)}(h:yE w B v ops)(k:Below w.heap.size w w'):yE w' B v ops:=by
 obtain⟨vals,h1,h2,h3⟩:=h;exact⟨vals,(iY (M:=fun _=>False) h1 (fun _ _ h=>h) _ (jC k _)),h2.keep k,h3⟩
theorem yF:∀l:List Value,jF 1 (fun us x=>us = [x]) l l
 |[]=>rfl
 |x::l=>⟨[x],l,rfl,rfl,rfl,yF l⟩
theorem yE.ops{w:World}{B:Nat}{v:Value}{ops:List (Option ny)}(h:yE w B v ops):Xi w v ops:=by
 obtain⟨vals,h1,h2,_⟩:=h;refine⟨vals,?_,h2⟩;have:Ow w B 105 1 (fun us x=>us = [x]) v vals:=⟨vals,by rw[h2.1];exact h1,yF vals⟩;exact this.sl
theorem yE.grow{w w':World}{B:Nat}{v v':Value}{ops:List (Option ny)}{n1:List Value}{o1:List (Option ny)}{vals:List Value}(h1:w.ownsRow B 105 1 v ops.length vals)(h2:yO w vals ops)(h3:∀u∈vals,u.oneCell'=true)(k:yO w n1 o1)(kc:∀u∈n1,u.oneCell'=true)(hg:w.grownBy w' v.ownBlock)(ho:w'.ownsRow B 105 1 v' (ops.length+o1.length) (vals++n1)):yE w' B v' (ops++o1):=by
 have hr:∀g t cs,gV w g t cs→t≠105→some g≠v.ownBlock:=fun g t cs hb ht e=>ig h1 hb (fe ht) e.symm
 refine⟨vals++n1,by rw[aj];exact ho,(h2.grown hg hr).append (k.grown hg hr),fun u hu=>?_⟩;rcases bq.1 hu with hu|hu
 ·exact h3 u hu
 ·exact kc u hu
theorem TR{S:List ByteArray}{k:Nat}(h:k<S.length)(a:Nat):ng a (S.take (k+1))=ng a (S.take k)++[(a+k,S[k])]:=by
 rw[aN h,Er,aH,dz fZ ]
theorem IY:∀(S:List ByteArray) (a:Nat),(ng a S).length=S.length
 |[],_=>rfl
 |s::S,a=>by simp[ng,IY S]
theorem TS(w:World)(A:Option Addr)(c:Nat)(S:List ByteArray)(h:Strs w (.slice A S.length c) S)(a e sz:Nat)(ha:a+S.length≤10000)(he:e≤10000)(hz:sz≤1000):
  Calls prog 48 #[.int .i64 a,.slice A S.length c,.int .i64 e,.int .i64 sz] w fun en w'=>∃v,en=.returned v∧yE w' w.heap.size v ((o5 a S e sz).map some)∧Below w.heap.size w w':=by
 obtain⟨i1,hi1,hy0,hy1,hy2⟩:=info_parts Tryz.Ph;obtain⟨A',c',e0,hc,hm⟩:=h.form;cases e0;go_enter func48,ntmps48;go_wp2;go_loopw [0,9,14] (fun ai vl ii wr=>∃k:Nat,k≤S.length∧ii=.int .i64 k∧ai=.int .i64 ((a+k:Nat):Int)∧Hid (yE wr w.heap.size vl ((ng a (S.take k)).map some))∧Below w.heap.size w wr) (fun _ _ ii _=>S.length-(intOf ii).toNat)
 case atStart=>exact⟨0,by omega,rfl,rfl,yE.nil _ _,ah _ _⟩
 case round =>
  obtain⟨k,hk,rfl,rfl,HO,hbw⟩:=hrel;have hsz:=hbw.size;have hlo:((ng a (S.take k)).map some).length=k:=by rw[cZ,IY,aH];omega
  by_cases hlt:k<S.length
  ·obtain⟨b,off,rfl,a1⟩:=(h.keep (dO hbw)).get hlt;have HT:=af (congrArg (List.map some) (TR hlt a));generalize S[k]=s at *;have CW:=af (pG (a+k) s fZ wr);obtain⟨vals,hrow,hol,hoc⟩:=HO.out;obtain⟨rA,rc,rfl⟩:=iw hrow;rw[hlo]at hrow ⊢;have HW:=af hbw;have HL:=af hlo;have zM:=af hrow;have HOL:=af hol;have HOC:=af hoc;clear hbw HO hlo hrow hol hoc;go_wp2_with fail;refine CW.out.mono ?_;rintro en w3 ⟨v3,rfl,hv3,hb3⟩;obtain⟨b1,b2,rfl,x1,x2,x3⟩:=hv3;have hrow3:=(iY (M:=fun _=>False) zM.out (fun _ _ h=>h) _ (jC hb3 _));have HB3:=(hTr HW hb3)
   have TU:=af (HOL.out.keep hb3);have HX:Hid (Ll w3 (.func (.func 88) #[] #[.pointer (some ⟨b1,0,none⟩),.pointer (some ⟨b2,0,none⟩)]) (some (a+k,s))):=⟨b1,b2,rfl,x1,x2,x3⟩;have Qf:=HB3.out.size;have HR3:=af hrow3;clear x1 x2 x3 hb3 CW HW zM HOL hrow3;go_wp2_with (at_builtin;go_must (refine iE _ rfl (.tmp 18) (.tmp 22) _ rfl w.heap.size 105 i1 _ 1 8 underlying108 hi1 hy0 hy1 hy2 rfl fZ (.slice rA k rc) k _ rfl (World.ownsRow.alloc HR3.out _) _ 1 1 [.func (.func 88) #[] #[.pointer (some ⟨b1,0,none⟩),.pointer (some ⟨b2,0,none⟩)]] rfl rfl (gY _ _ _ _) (by simp[Value.oneCell']) fZ fZ (by simp;omega) ?_;intro v4 w4 iU jl rT))
   have Fv:Hid (yE w4 w.heap.size v4 ((ng a (S.take (k+1))).map some)):=by
    have kb:=(ah w3.heap.size w3).alloc (ak _) (.cells #[.func (.func 88) #[] #[.pointer (some ⟨b1,0,none⟩),.pointer (some ⟨b2,0,none⟩)]] 105);have:=yE.grow (n1:=[.func (.func 88) #[] #[.pointer (some ⟨b1,0,none⟩),.pointer (some ⟨b2,0,none⟩)]]) (o1:=[some (a+k,s)]) (v':=v4) (by rw[HL.out];exact World.ownsRow.alloc HR3.out _) (TU.out.keep kb) HOC.out (yO.one (HX.out.keep kb)) (by simp[Value.oneCell']) jl (by rw[HL.out];exact iU);show yE _ _ _ _;rw[HT.out,eG];exact this
   have kY:=af ((HB3.out.alloc Qf (.cells #[.func (.func 88) #[] #[.pointer (some ⟨b1,0,none⟩),.pointer (some ⟨b2,0,none⟩)]] 105)).grown jl (by simp;omega) (fun g h=>(World.ownsRow.lt HR3.out g h).1));clear iU jl rT HR3 HB3 TU HX;go_wp2;go_roundw
   case rel=>exact⟨k+1,by omega,by go_num,by go_num,Fv,kY.out⟩
   case measure=>simp[intOf];omega
  ·have hkn:k=S.length:=by omega
   subst hkn;rw[bG]at HO hlo;by_cases hend:a+S.length<e
   ·have hend':((a+S.length:Nat):Int)<(e:Int):=by omega
    have HT:Hid ((o5 a S e sz).map some=(ng a S).map some++[some (a+S.length,jN sz)]):=by
     show _=_;unfold o5;rw[if_pos hend,eG];rfl
    have CP:=af (uy [] sz gu hz wr);obtain⟨vals,hrow,hol,hoc⟩:=HO.out;obtain⟨rA,rc,rfl⟩:=iw hrow;rw[hlo]at hrow ⊢;have HW:=af hbw;have HL:=af hlo;have zM:=af hrow;have HOL:=af hol;have HOC:=af hoc;clear hbw HO hlo hrow hol hoc;go_wp2_with fail;refine CP.out.mono ?_;rintro en w2 ⟨rfl,hb2⟩;have CW:=af (pG (a+S.length) (fu (wW sz [])) fZ w2);have HZ:Hid (fu (wW sz [])=jN sz):=rfl;generalize fu (wW sz [])=Z at *;clear CP;go_wp2_with fail;refine CW.out.mono ?_;rintro en w3 ⟨v3,rfl,hv3,acn⟩;obtain⟨b1,b2,rfl,x1,x2,x3⟩:=hv3;have hb3:=hb2.trans (acn.mono hb2.size)
    have hrow3:=(iY (M:=fun _=>False) zM.out (fun _ _ h=>h) _ (jC hb3 _));have HB3:=(hTr HW hb3);have TU:=af (HOL.out.keep hb3);have HX:Hid (Ll w3 (.func (.func 88) #[] #[.pointer (some ⟨b1,0,none⟩),.pointer (some ⟨b2,0,none⟩)]) (some (a+S.length,Z))):=⟨b1,b2,rfl,x1,x2,x3⟩;have Qf:=HB3.out.size;have HR3:=af hrow3;clear x1 x2 x3 hb3 hb2 acn CW HW zM HOL hrow3;go_wp2_with (at_builtin;go_must (refine iE _ rfl (.tmp 30) (.tmp 35) _ rfl w.heap.size 105 i1 _ 1 8 underlying108 hi1 hy0 hy1 hy2 rfl fZ (.slice rA S.length rc) S.length _ rfl (World.ownsRow.alloc HR3.out _) _ 1 1 [.func (.func 88) #[] #[.pointer (some ⟨b1,0,none⟩),.pointer (some ⟨b2,0,none⟩)]] rfl rfl (gY _ _ _ _) (by simp[Value.oneCell']) fZ fZ (by simp;omega) ?_;intro v4 w4 iU jl rT))
    have Fv:Hid (yE w4 w.heap.size v4 ((o5 a S e sz).map some)):=by
     have kb:=(ah w3.heap.size w3).alloc (ak _) (.cells #[.func (.func 88) #[] #[.pointer (some ⟨b1,0,none⟩),.pointer (some ⟨b2,0,none⟩)]] 105);have:=yE.grow (n1:=[.func (.func 88) #[] #[.pointer (some ⟨b1,0,none⟩),.pointer (some ⟨b2,0,none⟩)]]) (o1:=[some (a+S.length,Z)]) (v':=v4) (by rw[HL.out];exact World.ownsRow.alloc HR3.out _) (TU.out.keep kb) HOC.out (yO.one (HX.out.keep kb)) (by simp[Value.oneCell']) jl (by rw[HL.out];exact iU);show yE _ _ _ _;rw[HT.out,←HZ.out];exact this
    have kY:=af ((HB3.out.alloc Qf (.cells #[.func (.func 88) #[] #[.pointer (some ⟨b1,0,none⟩),.pointer (some ⟨b2,0,none⟩)]] 105)).grown jl (by simp;omega) (fun g h=>(World.ownsRow.lt HR3.out g h).1));clear iU jl rT HR3 HB3 TU HX;go_wp2;go_ret;exact⟨_,rfl,Fv.out,kY.out⟩
   ·have hend':¬((a+S.length:Nat):Int)<(e:Int):=by omega
    have HT:Hid ((o5 a S e sz).map some=(ng a S).map some):=by
     show _=_;unfold o5;rw[if_neg hend,aU]
    have HW:=af hbw;clear hbw hlo;go_wp2;go_ret;exact⟨_,rfl,by rw[HT.out];exact HO.out,HW.out⟩
theorem Xj{w:World}{vals:List Value}{ops:List (Option ny)}(h:yO w vals ops)(hl:ops.length≤1000):Xi (w.alloc (.cells vals.toArray 105)) (.slice (some ⟨w.heap.size,0,none⟩) ops.length ops.length) ops:=by
 refine⟨vals,⟨some ⟨w.heap.size,0,none⟩,ops.length,vals,by rw[h.1],by rw[h.1];exact ak _,by unfold maxLen;omega,?_,yF vals⟩,h.keep ((ah _ _).alloc (ak _) _)⟩;have:=(gV.new w vals.toArray 105).IZ;simpa using this
end Go.Proofs.YtichfhpgdhdiaaaGreat
