/- The sizes of numbers and texts. -/
import Derived.Test.YtichfhpgdhdiaaaGreatJ15
import Derived.Test.YtichfhpgdhdiaaaGreatJ3
import Derived.Test.YtichfhpgdhdiaaaGreatJ14
import Derived.Test.YtichfhpgdhdiaaaGreatJ12
import Derived.Test.YtichfhpgdhdiaaaGreatJ2
import Derived.Deep.CutBlock
set_option maxRecDepth 100000
set_option maxHeartbeats 8000000
set_option linter.unusedVariables false
set_option linter.unusedSimpArgs false
open Go.Proofs.Tryz
namespace Go.Proofs.YtichfhpgdhdiaaaGreat
open Go.RowKit
attribute [local go_sem] Oper.semAt_some
def SzI(w:World)(c n:Nat)(pre:List UInt8)(W:World):Prop:=gV W c 3 #[.int .i64 (pre.length:Int)]∧(∃v,gV W n 3 #[v])∧Below w.heap.size w W
theorem SzI.put{w:World}{c n:Nat}{pre:List UInt8}{W:World}(h:SzI w c n pre W){r:Nat}{o o':Obj}(hr:w.heap.size≤r)(h1:W.heap[r]?=some o)(h2:o.isCells=false):SzI w c n pre (W.putObj r o'):=by
 obtain⟨a,⟨v,b⟩,d⟩:=h;have ne:∀{g:Nat} {cs:Array Value},gV W g 3 cs→g≠r:=fun hb e=>by
  subst e;rw[show W.heap[_]?=_ from hb]at h1;cases h1;cases h2
 exact⟨(World.putObj_heap_other (ne a)).trans a,⟨v,(World.putObj_heap_other (ne b)).trans b⟩,d.grown (grownBy_putObj' W r o') d.size (fun k e=>by cases e;omega)⟩
theorem QV(w:World)(m:Nat)(hm:m≤1099511627776):
  Calls prog 116 #[.int .i64 m] w fun e w'=>e=.returned (.int .i64 ((gJ m).length:Int))∧Below w.heap.size w w':=by
 refine(callsIn_wide (n:=3)).1 ?_;refine callsIn_of_wp_marks func116 rfl trivial ?_ rfl;simp only[ntmps116,di,aI,aM,Nat.reduceAdd,Nat.reduceSub,dm,dB,dL,dH,aO,cB];have hdl:=ja m 5 fZ ;gi_wp2_with fail;refine⟨trivial,?_⟩;refine(callsIn_wide.2 (BH _ _ fZ fZ )).mono ?_;rintro e w' ⟨rfl,rfl⟩;gi_wp2_with fail;refine⟨trivial,?_⟩;refine(callsIn_wide.2 (Du _ _)).mono ?_;rintro e w' ⟨rfl,rfl⟩;gi_wp2_with fail;have k1:=(ah w.heap.size w).alloc (ak _) (.cells #[.int .i64 0] 3);have k2:=k1.alloc gu (.cells #[.int .i64 m] 3)
 have p1:=(gV.new w #[.int .i64 0] 3).alloc (.cells #[.int .i64 m] 3);have p2:=gV.new (w.alloc (.cells #[.int .i64 0] 3)) #[.int .i64 m] 3;rw[aJ]at p2;have hz:(w.alloc (.cells #[.int .i64 0] 3)).heap.size=w.heap.size+1:=by simp
 try rw[hz]
 have hI0:SzI w w.heap.size (w.heap.size+1) [] ((w.alloc (.cells #[.int .i64 0] 3)).alloc (.cells #[.int .i64 m] 3)):=⟨p1,⟨_,p2⟩,k2⟩;have hsz:((w.alloc (.cells #[.int .i64 0] 3)).alloc (.cells #[.int .i64 m] 3)).heap.size=w.heap.size+2:=by simp
 generalize (w.alloc (.cells #[.int .i64 0] 3)).alloc (.cells #[.int .i64 m] 3)=W0 at *;clear k1 k2 p1 hz;refine yS (α:=UInt8) (gf:=163) (lb:=#[.pointer (some ⟨w.heap.size+1,0,none⟩)]) rfl (enters_of func163 gB rfl)
  MO rfl (m+1) (gJ m) (w.heap.size+1) (SzI w w.heap.size (w.heap.size+1)) (fun pre W o h=>⟨h.1.alloc o,⟨_,h.2.1.choose_spec.alloc o⟩,h.2.2.alloc h.2.2.size o⟩) (fun pre W r o o' hr h h1 h2=>h.put fZ h1 h2)
  (fun pre W v h=>⟨h.1.far (p:=⟨w.heap.size+1,0,none⟩) (by show w.heap.size≠w.heap.size+1;omega) v,⟨v,h.2.1.choose_spec.set 0 v⟩,h.2.2.grown (grownBy_set W (w.heap.size+1) 0 v) h.2.2.size (fun k e=>by cases e;omega)⟩) hI0 ⟨_,_,p2⟩
  (fun lp J hJ hY W hB hJ0=>Dv _ lp _ fZ J hJ m hm hY W (hB.trans p2) hJ0)
  ?a1 ?assign ?body ?done
 case assign =>
  intro l x W K hK;unfold MO;gi_wp2;exact hK
 case body =>
  rintro lp pre x W hi hlen;have hc:=hi.1.cl 0;have hf:=hi.1.frozen 0;have hpl:(pre.length:Int)≤1099511627776:=by omega
  have hw:=jo (n:=(pre.length:Int)+1) fZ fZ ;have HI:=af hi;clear hi hI0 p2;gi_wp2;have h2:=HI.out;have hb:=h2.1.set 0 (.int .i64 ((pre.length:Int)+1));obtain⟨v,hv⟩:=h2.2.1;have hko:KeepsOthers W (W.setCell ⟨w.heap.size,0,none⟩ (.int .i64 ((pre.length:Int)+1))):=⟨by simp,fun k o hx ho=>(bf W ⟨w.heap.size,0,none⟩ _ k (fun e=>by
   subst e;rw[show W.heap[_]?=_ from h2.1]at hx;cases hx;cases ho)).trans hx⟩
  refine⟨hko,bf W ⟨w.heap.size,0,none⟩ _ _ (by show w.heap.size+1≠w.heap.size;omega),⟨?_,⟨v,hv.far (p:=⟨w.heap.size,0,none⟩) (by show w.heap.size+1≠w.heap.size;omega) _⟩,h2.2.2.grown (grownBy_set W w.heap.size 0 _) h2.2.2.size (fun k e=>by cases e;omega)⟩⟩;rw[aj];exact hb
 case done =>
  rintro D W hD hi hK;have HI:=af hi;have hc:=hi.1.cl 0;clear hI0 hi p2;gi_wp2;refine⟨by simp,.inl ⟨_,_,rfl,run_takeDeferred hK,?_⟩⟩;refine⟨.int .i64 ((gJ m).length:Int),by simp[results,results116,go_sem],rfl,?_⟩;exact(HI.out.put (o':=.deferred none) fZ hK rfl).2.2
def wQ(n:Nat):Nat:=(gJ n).length+n
theorem yK(w:World)(m:Nat)(hm:m≤1099511627776):
  Calls prog 65 #[.int .i64 m] w fun e w'=>e=.returned (.int .i64 (wQ m:Int))∧Below w.heap.size w w':=by
 have CS:=af (QV w m hm);have hdl:=ja m 5 fZ ;have HT:Hid (((gJ m).length:Int)+(m:Int)=(wQ m:Int)):=by show _=_;unfold wQ;omega
 go_enter func65,ntmps65;go_wp2_with fail;refine CS.out.mono ?_;rintro e w1 ⟨rfl,hb⟩;have HB:=af hb;generalize (gJ m).length=k at *;clear hb CS;go_wp2;go_ret;exact⟨jK (by have:=HT.out;first|exact this|omega),HB.out⟩
end Go.Proofs.YtichfhpgdhdiaaaGreat
namespace Go.Proofs.YtichfhpgdhdiaaaGreat
open Go.RowKit
theorem BJ(s:List UInt8)(w:World):Calls prog 110 #[.string (fu s)] w fun e w'=>e=.returned (.tuple #[.string (fu (jP s).1),.int .i64 (jP s).2])∧Below w.heap.size w w':=by
 have hz:=gL s;by_cases h:s.length≤65536
 ·have hp:jP s=(gJ s.length++s,0):=if_pos h;rw[hp];have hd:¬(65536:Int)<((fu s).size:Int):=by rw[hz];omega
  have hd2:((fu s).size:Int)≤65536:=by rw[hz];omega
  have CW:=af (qF (w.alloc (.cells #[.pointer none,.slice none 0 0] 122)) w.heap.size w.heap.size [] (fu s).size fZ (sH.new w gF) gu gu );have K1:=af ((ah w.heap.size w).alloc (ak _) (.cells #[.pointer none,.slice none 0 0] 122));have hdl:=ja (fu s).size 5 fZ ;have HZ:=af hz;have HL:=af h;clear hp h hz;go_enter func110,ntmps110;go_wp2_with fail;refine CW.out.mono ?_;rintro e w2 ⟨rfl,hb⟩;have CS:=af (qV w.heap.size w.heap.size ([]++gJ (fu s).size) (fu s) w2 hb.rQ (by rw[aO];omega) (by have:=hb.jM.size;simp at this;omega))
  have K2:=af (K1.out.trans hb.jM);clear hb CW K1;go_wp2_with fail;refine CS.out.mono ?_;rintro e w3 ⟨rfl,hb3,hB3,_⟩;have CT:=af (tQ w.heap.size w.heap.size _ w3 hb3 (by have:=K2.out.size;have:=hB3.size;omega));have K3:=af (K2.out.trans hB3);clear hb3 hB3 CS K2;go_wp2_with fail;refine CT.out.mono ?_;rintro e w4 ⟨rfl,_,hb4,_⟩;have K4:=af (K3.out.trans hb4);have HS:Hid (gJ (fu s).size++(fu s).data.toList=gJ s.length++s):=by show _=_;rw[HZ.out,iI]
  clear hb4 CT K3;go_wp2;go_ret2;exact⟨by rw[HS.out];rfl,K4.out⟩
 ·have hp:jP s=([],4):=if_neg h;rw[hp];have hd:(65536:Int)<((fu s).size:Int):=by rw[hz];omega
  clear hp h hz;go_enter func110,ntmps110;go_wp2;go_ret2;exact⟨rfl,ah _ _⟩
end Go.Proofs.YtichfhpgdhdiaaaGreat
namespace Go.Proofs.YtichfhpgdhdiaaaGreat
open Go.RowKit
structure tJ(H h N:Nat)(W W':World):Prop where
 jM:Below H W W'
 keep:∀b o,h≤b∧b<N→W.heap[b]?=some o→(∀cs fz,o≠.cells cs 5 fz)→W'.heap[b]?=some o
 wT:KeepsOthers W W'
section
variable {H h N:Nat}{W W' W'':World}
theorem tJ.refl(W:World):tJ H h N W W:=⟨ah _ _,fun _ _ _ h _=>h,KeepsOthers.refl _⟩
theorem tJ.trans(x:tJ H h N W W')(y:tJ H h N W' W''):tJ H h N W W'':=⟨x.jM.trans y.jM,fun b o hb hx ho=>y.keep b o hb (x.keep b o hb hx ho) ho,x.wT.trans y.wT⟩
theorem tJ.size(x:tJ H h N W W'):W.heap.size≤W'.heap.size:=x.jM.size
theorem tJ.BL(x:tJ H h W.heap.size W W')(hH:H≤W.heap.size):mM 5 H h W W':=⟨x.size,fun b o hb hx ho=>by
 have hlt:=(ax.1 hx).1;rcases hb with hb|hb
 ·exact(x.jM.block b hb).trans hx
 ·exact x.keep b o ⟨hb,hlt⟩ hx ho,fun b o hb hx=>(x.jM.block b hb).trans hx⟩
theorem jg(k:Below W.heap.size W W')(hH:H≤W.heap.size):tJ H h N W W':=⟨k.mono hH,fun b o _ hx _=>(k.block b (ax.1 hx).1).trans hx,uQ k⟩
theorem tJ.set{b o:Nat}(h1:H≤b)(h2:b<h∨N≤b)(u:Value):tJ H h N W (W.setCell ⟨b,o,none⟩ u) :=
 ⟨(ah H W).setCell (p:=⟨b,o,none⟩) h1 u,fun k x hk hx _=>(bf W ⟨b,o,none⟩ u k (by simp only;omega)).trans hx,KeepsOthers.setCell W ⟨b,o,none⟩ u⟩
theorem tJ.grown{row:Option Nat}(hg:W.grownBy W' row)(hH:H≤W.heap.size)(hr:∀g,row=some g→H≤g∧(g<h∨N≤g)∧∃cs t fz,W.heap[g]?=some (.cells cs t fz)):tJ H h N W W':=by
 refine⟨(ah H W).grown hg hH fun g hk=>(hr g hk).1,fun b o hb hx _=>(hg.block b (ax.1 hx).1 fun e=>?_).trans hx,⟨hg.size,fun b o hx ho=>(hg.block b (ax.1 hx).1 fun e=>?_).trans hx⟩⟩
 ·have:=hr b e.symm;omega
 ·obtain⟨_,_,cs,t,fz,hc⟩:=hr b e.symm;rw[hx]at hc;cases hc;cases ho
theorem tJ.rQ{l:List UInt8}(hb:sH H (H+1) l W)(k:Below H W W')(ko:Lib.OthersKept 5 (some (H+1)) W W')(h2:H+1<h):tJ H h N W W':=by
 have hc:∃cs t fz,W.heap[H+1]?=some (.cells cs t fz):=by
  rcases hb with ⟨_,v,hv,_⟩|⟨_,v,hv,_⟩<;>exact⟨_,_,_,hv⟩
 refine⟨k,fun b o hb hx ho=>?_,⟨k.size,fun b o hx ho=>ko b o hx (fun e=>?_) fun c fz e=>?_⟩⟩
 ·exact ko b o hx (by intro e;injection e with e;omega) ho
 ·injection e with e;subst e;obtain⟨cs,t,fz,hc⟩:=hc;rw[hx]at hc;cases hc;cases ho
 ·subst e;cases ho
end
def ql(H:Nat):Value:=.func (.func 147) #[] #[.pointer (some ⟨H+1,0,none⟩),.pointer (some ⟨H,0,none⟩)]
structure Nk(H h N:Nat)(v:Value)(l:List jq)(W:World):Prop where
 box:gV W H 144 #[v]
 row:W.ownsRow H 191 3 v l.length (l.flatMap dC)
 low:∀g,v.ownBlock=some g→g<h∨N≤g
structure yN(H h N:Nat)(v:Value)(l:List jq)(t:List UInt8)(W:World):Prop where
 row:Nk H h N v l W
 rQ:sH H (H+1) t W
 Ni:gV W (H+2) 1 #[ql H]
 hh:H+3≤h
section
variable {H h N:Nat}{v:Value}{l:List jq}{t:List UInt8}{W W':World}
theorem Nk.below(x:Nk H h N v l W)(k:Below W.heap.size W W'):Nk H h N v l W':=⟨x.box.keep k,iY (M:=fun _=>False) x.row (fun _ _ h=>h) _ (jC k _),x.low⟩
theorem yN.below(x:yN H h N v l t W)(k:Below W.heap.size W W'):yN H h N v l t W':=⟨x.row.below k,x.rQ.below k,x.Ni.keep k,x.hh⟩
theorem yN.fin{N':Nat}(x:yN H h N v l t W)(hh:h≤W.heap.size):yN H W.heap.size N' v l t W:=⟨⟨x.row.box,x.row.row,fun g e=>.inl (x.row.row.lt g e).2⟩,x.rQ,x.Ni,by have:=x.hh;omega⟩
theorem yN.any{N':Nat}(x:yN H h W.heap.size v l t W):yN H h N' v l t W:=⟨⟨x.row.box,x.row.row,fun g e=>by have:=x.row.low g e;have:=(x.row.row.lt g e).2;omega⟩,x.rQ,x.Ni,x.hh⟩
theorem yN.mono{h':Nat}(x:yN H h W.heap.size v l t W)(hh:h≤h'):yN H h' W.heap.size v l t W:=⟨⟨x.row.box,x.row.row,fun g e=>by have:=x.row.low g e;omega⟩,x.rQ,x.Ni,by have:=x.hh;omega⟩
theorem Nk.others(x:Nk H h N v l W)(hb:sH H (H+1) t W)(ko:Lib.OthersKept 5 (some (H+1)) W W'):Nk H h N v l W':=by
 refine⟨ko H _ x.box (fun e=>by injection e with e;omega) (fun cs fz e=>by injection e with _ e;exact absurd e gm ),⟨x.row.1,?_⟩,x.low⟩;rcases x.row.2 with hn|⟨g,cap,cur,rfl,hb',hg,rest⟩
 ·exact .inl hn
 ·refine .inr ⟨g,cap,cur,rfl,hb',ko g _ hg (fun e=>?_) (fun cs fz e=>by injection e with _ e;exact absurd e gm ),rest⟩;injection e with e;obtain⟨cs,fz,hc⟩:=hb.blk;rw[←e,hg]at hc;injection hc with hc;injection hc with _ hc;exact absurd hc gm
theorem yN.built{t':List UInt8}(x:yN H h N v l t W)(hb:sH H (H+1) t' W')(k:Below H W W')(ko:Lib.OthersKept 5 (some (H+1)) W W'):yN H h N v l t' W'∧tJ H h N W W' :=
 ⟨⟨x.row.others x.rQ ko,hb,ko (H+2) _ x.Ni (fun e=>by injection e with e;omega) (fun cs fz e=>by injection e with _ e;exact absurd e gm ),x.hh⟩,tJ.rQ x.rQ k ko (by have:=x.hh;omega)⟩
theorem yN.push{v':Value}{y:jq}(x:yN H h N v l t W)(hW:h≤W.heap.size)(hN:N≤W.heap.size)(hat:v'.ownBlock=v.ownBlock∨v'.ownBlock=some W.heap.size)(ho:W'.ownsRow H 191 3 v' (l.length+1) (l.flatMap dC++dC y))(hg:W.grownBy W' v.ownBlock):
  yN H h N v' (l++[y]) t (W'.setCell ⟨H,0,none⟩ v')∧tJ H h N W (W'.setCell ⟨H,0,none⟩ v'):=by
 have hh:=x.hh;have hr:∀g,v.ownBlock=some g→H≤g∧(g<h∨N≤g)∧∃cs,W.heap[g]?=some (.cells cs 191 (0,0)):=fun g e=>by
  refine⟨(x.row.row.lt g e).1,x.row.low g e,?_⟩;rcases x.row.row.2 with ⟨rfl,_⟩|⟨g',cap,cur,rfl,_,hgg,_⟩
  ·cases e
  ·have:g'=g:=by simpa [Value.ownBlock] using e
   subst this;exact⟨_,hgg⟩
 have hA:Agree (Ip v) W W':=qm hg fun b hb=>hb
 have oP:gV W' H 144 #[v]:=zl x.row.box (M:=Ip v) (ig x.row.row x.row.box gm ) _ hA;have afi:gV W' (H+2) 1 #[ql H]:=zl x.Ni (M:=Ip v) (ig x.row.row x.Ni gm ) _ hA;have afj:sH H (H+1) t W':=x.rQ.kept hg fun g e=>by
  obtain⟨h1,h2,cs,hc⟩:=hr g e;refine⟨fun e2=>?_,cs,_,_,hc,by decide⟩;obtain⟨cs',fz,hc'⟩:=x.rQ.blk;rw[←e2,hc]at hc';injection hc' with hc';injection hc' with _ hc';exact absurd hc' gm
 have hsz:(W'.setCell ⟨H,0,none⟩ v').heap.size=W'.heap.size:=by simp[World.setCell]
 have hgs:=hg.size;refine⟨⟨⟨oP.set 0 v',?_,fun g e=>?_⟩,?_,afi.far (p:=⟨H,0,none⟩) (by simp only;omega) _,by omega⟩,(tJ.grown hg fZ fun g e=>?_).trans (tJ.set (ak _) (.inl fZ ) _)⟩
 ·rw[aZ,aj];have e1 : [y].flatMap dC=dC y:=by simp
  rw[e1];exact iY (M:=fun b=>b=H) ho (fun b hb e=>ig ho oP gm (by rw[←e];exact hb)) _ (Agree.set1 W' H 0 v')
 ·rcases hat with h1|h1
  ·exact x.row.low g (h1▸e)
  ·rw[h1]at e;injection e with e;omega
 ·refine afj.kept (grownBy_set W' H 0 v') fun g e=>?_
  injection e with e;subst e;exact⟨by omega,_,_,_,oP,by decide⟩
 ·obtain⟨h1,h2,cs,hc⟩:=hr g e;exact⟨h1,h2,cs,_,_,hc⟩
theorem Sm{α : Type}(m:List α)(y y' : α):(m++[y]).set m.length y'=m++[y']:=by
 rw[fD _ _ gF,Nat.sub_self];rfl
theorem yN.Wy{m:List jq}{y:jq}{gr c:Nat}(x:yN H h N (.slice (some ⟨gr,0,none⟩) (m++[y]).length c) (m++[y]) t W)(L:Int):
  yN H h N (.slice (some ⟨gr,0,none⟩) (m++[y]).length c) (m++[{ y with len:=L }]) t (W.setCell ⟨gr,m.length*3+1,none⟩ (.int .i64 L))∧tJ H h N W (W.setCell ⟨gr,m.length*3+1,none⟩ (.int .i64 L)):=by
 have hlt:=x.row.row.lt gr rfl;have hlo:=x.row.low gr rfl;obtain⟨s1,_⟩:=x.row.row.stored (m.length*3+1) (.int .i64 L);rw[uX DX (m++[y]) m.length 1 y { y with len:=L } (.int .i64 L) gu fZ rfl,Sm]at s1;have hl:(m++[{ y with len:=L }]).length=(m++[y]).length:=by simp
 have hne:∀{g:Nat} {t:TypeId} {cs:Array Value}, 191≠t→gV W g t cs→g≠gr:=fun ht hb e=>ig x.row.row hb ht (by rw[e];rfl)
 obtain⟨cs,hbl⟩:∃cs,W.heap[gr]?=some (.cells cs 191 (0,0)):=by
  rcases x.row.row.2 with ⟨e,_⟩|⟨g',cap,cur,e,_,hgg,_⟩
  ·cases e
  ·injection e with e _ _;injection e with e;injection e with e _ _;subst e;exact⟨_,hgg⟩
 refine⟨⟨⟨x.row.box.far (p:=⟨gr,m.length*3+1,none⟩) (hne gm x.row.box) _,by rw[hl];exact s1,x.row.low⟩,x.rQ.kept (grownBy_set W gr _ _) fun g e=>?_,x.Ni.far (p:=⟨gr,m.length*3+1,none⟩) (hne gm x.Ni) _,x.hh⟩,tJ.set hlt.1 hlo _⟩;injection e with e;subst e;refine⟨fun e2=>?_,cs,_,_,hbl,by decide⟩;obtain⟨cs',fz,hc'⟩:=x.rQ.blk;rw[←e2,hbl]at hc';injection hc' with hc';injection hc' with _ hc';exact absurd hc' gm
end
theorem Qe(b:Nat)(p v:Value)(W:World)(hb:gV W b 122 #[p,v]):
  Calls prog 148 #[.pointer (some ⟨b,0,none⟩)] W fun e W'=>e=.returned (.tuple #[])∧W'=(W.setCell ⟨b,0,none⟩ (.pointer none)).setCell ⟨b,1,none⟩ (.slice none 0 0):=by
 have c0:=hb.cl 0;have f0:=hb.frozen 0;have hb1:=hb.set 0 (.pointer none);have c1:(W.setCell ⟨b,0,none⟩ (.pointer none)).cell? ⟨b,1,none⟩=some v:=hb1.cl 1;have f1:=hb1.frozen 1;clear hb hb1;go_enter func148,ntmps148;go_upto_region 1 with (fail);generalize hW1:W.setCell ⟨b,0,none⟩ (.pointer none)=W1 at *;have HW1:=af hW1;clear c0 f0 hW1;go_wp2;exact bodyPost_end (results_none rfl _ _ _) rfl ⟨rfl,by rw[HW1.out]⟩
theorem yN.reset{H h N:Nat}{v:Value}{l:List jq}{t:List UInt8}{W:World}{p q:Value}(x:yN H h N v l t W)(hb:gV W (H+1) 122 #[p,q]):
  yN H h N v l [] ((W.setCell ⟨H+1,0,none⟩ (.pointer none)).setCell ⟨H+1,1,none⟩ (.slice none 0 0))∧tJ H h N W ((W.setCell ⟨H+1,0,none⟩ (.pointer none)).setCell ⟨H+1,1,none⟩ (.slice none 0 0)):=by
 have hh:=x.hh;have far:∀{g:Nat} {t:TypeId} {cs:Array Value},g≠H+1→gV W g t cs→gV ((W.setCell ⟨H+1,0,none⟩ (.pointer none)).setCell ⟨H+1,1,none⟩ (.slice none 0 0)) g t cs:=fun hg h=>(h.far (p:=⟨H+1,0,none⟩) hg _).far (p:=⟨H+1,1,none⟩) hg _
 have hA:Agree (fun b=>b=H+1) W ((W.setCell ⟨H+1,0,none⟩ (.pointer none)).setCell ⟨H+1,1,none⟩ (.slice none 0 0)):=(Agree.set1 W (H+1) 0 _).trans (Agree.set1 _ (H+1) 1 _);refine⟨⟨⟨far fZ x.row.box,iY (M:=fun b=>b=H+1) x.row.row (fun b hb' e=>ig x.row.row hb gm (by rw[←e];exact hb')) _ hA,x.row.low⟩,?_,far fZ x.Ni,x.hh⟩,(tJ.set (o:=0) fZ (.inl fZ ) _).trans (tJ.set (o:=1) fZ (.inl fZ ) _)⟩;exact .inl ⟨by omega,.slice none 0 0,(hb.set 0 _).set 1 _,⟨rfl,.inl ⟨rfl,rfl⟩⟩,by simp[Value.ownBlock]⟩
end Go.Proofs.YtichfhpgdhdiaaaGreat
