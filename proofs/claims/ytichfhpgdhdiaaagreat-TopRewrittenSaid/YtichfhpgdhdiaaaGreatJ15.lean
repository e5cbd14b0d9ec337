/- Builders under other writes. -/
import Derived.Test.YtichfhpgdhdiaaaGreatJ10
import Derived.Test.YtichfhpgdhdiaaaGreatJ5
import Derived.Test.YtichfhpgdhdiaaaGreatJ2
import Derived.Deep.CutBlock
import Derived.RangeFuncCalls
import Derived.Sort.CutIn
import Derived.Laws.IdiomStrings
import Derived.Test.YtichfhpgdhdiaaaGreatJ3
set_option maxRecDepth 100000
set_option maxHeartbeats 8000000
set_option linter.unusedVariables false
set_option linter.unusedSimpArgs false
open Go.Proofs.Tryz
namespace Go.Proofs.YtichfhpgdhdiaaaGreat
open Go.RowKit
section
variable {W W' W'':World}{t:List UInt8}
theorem uQ(k:Below W.heap.size W W'):KeepsOthers W W':=⟨k.size,fun i o hi _=>(k.block i (ax.1 hi).1).trans hi⟩
theorem sH.kept{B b:Nat}{l:List UInt8}{row:Option Nat}(hb:sH B b l W)(hg:W.grownBy W' row)(hr:∀g,row=some g→g≠b∧∃cs t fz,W.heap[g]?=some (.cells cs t fz)∧t≠5):sH B b l W':=by
 have go:∀p,Lib.BuilderAtF 122 5 B b p (Lib.byteCells l) W→Lib.BuilderAtF 122 5 B b p (Lib.byteCells l) W':=fun p ⟨h1,v,h2,h3,h4⟩=>by
  refine⟨h1,v,(hg.block b (ax.1 h2).1 fun e=>(hr b e.symm).1 rfl).trans h2,h3.kept hg ?_,h4⟩;rcases h3.2 with ⟨rfl,_⟩|⟨g,cap,cur,fz,rfl,_,hgg,_⟩
  ·exact .inl rfl
  ·refine .inr fun e=>?_
   obtain⟨_,cs,t,fz',hc,ht⟩:=hr g e.symm;rw[hgg]at hc;injection hc with hc;injection hc with _ hc;exact ht hc.symm
 exact hb.imp (go _) (go _)
theorem grownBy_set(W:World)(b o:Nat)(u:Value):W.grownBy (W.setCell ⟨b,o,none⟩ u) (some b):=⟨rfl,rfl,rfl,by simp[World.setCell],fun k _ hk=>bf W ⟨b,o,none⟩ u k fun e=>hk (by rw[e])⟩
theorem grownBy_below{W W':World}(k:Below W.heap.size W W'):W.grownBy W' none:=⟨k.os,k.tape,k.output,k.size,fun i hi _=>k.block i hi⟩
theorem sH.below{B b:Nat}{l:List UInt8}(hb:sH B b l W)(k:Below W.heap.size W W'):sH B b l W':=hb.kept (grownBy_below k) fun g e=>(by cases e)
theorem sH.lt{B b:Nat}{l:List UInt8}(hb:sH B b l W):b<W.heap.size:=by
 rcases hb with h|h<;>exact h.lt
theorem sH.blk{B b:Nat}(hb:sH B b t W):∃cs fz,W.heap[b]?=some (.cells cs 122 fz):=by
 rcases hb with ⟨_,v,hv,_⟩|⟨_,v,hv,_⟩<;>exact⟨_,_,hv⟩
end
end Go.Proofs.YtichfhpgdhdiaaaGreat
namespace Go.Proofs.YtichfhpgdhdiaaaGreat
open Go.RowKit
attribute [local go_sem] Oper.semAt_some
def MO(c:UInt8):Value:=.int .u8 c.toNat
def Dt(w:World)(b:Nat):Nat:=match w.cell? ⟨b,0,none⟩with
 |some (.int _ n)=>n.toNat
 |_=>0
theorem FW{w:World}{b n:Nat}{k:IntKind}(h:w.cell? ⟨b,0,none⟩=some (.int k (n:Int))):Dt w b=n:=by
 unfold Dt;rw[h];simp
theorem Du(n:Int)(w:World):
  Calls prog 141 #[.int .i64 n] w fun e w'=>e=.returned (.func (.func 163) #[] #[.pointer (some ⟨w.heap.size,0,none⟩)])∧w'=w.alloc (.cells #[.int .i64 n] 3):=by
 go_enter func141,ntmps141;go_wp2;go_ret;exact⟨rfl,rfl⟩
theorem Dv(n l Bn:Nat)(hn:1≤n)(J:List UInt8→World→Prop)(hJ:∀pre W v,J pre W→J pre (W.setCell ⟨Bn,0,none⟩ v))(m:Nat)(hm:m≤1099511627776)(hY:∀pre (x:UInt8) W,J pre W→pre.length<m+1→YieldAt Fence.wide (n-1) prog l #[MO x] W fun e W'=>e=.returned (.bool true)∧J (pre++[x]) W'∧W'.heap[Bn]?=W.heap[Bn]?)(W:World)(oP:gV W Bn 3 #[.int .i64 m])(h0:J [] W):
  CallsIn Fence.wide n prog 163 #[.func (.yield l) #[] #[],.pointer (some ⟨Bn,0,none⟩)] W fun e W'=>(∃v,e=.returned v)∧J (gJ m) W':=by
 refine callsIn_of_wp func163 rfl trivial ?_ rfl;simp only[ntmps163,di,aI,aM,Nat.reduceAdd,Nat.reduceSub,dm,dB,dL,dH,aO,cB];gi_wp2;gi_loopw [3] (fun _ wr=>∃(pre:List UInt8) (k:Nat),Hid (gJ m=pre++gJ k)∧pre.length+k≤m∧gV wr Bn 3 #[.int .i64 k]∧J pre wr) (fun _ wr=>Dt wr Bn)
 case atStart=>exact⟨[],m,rfl,by simp,oP,h0⟩
 case round =>
  obtain⟨pre,k,HL,hlen,hblk,hj⟩:=hrel;have hc:wr.cell? ⟨Bn,0,none⟩=some (.int .i64 k):=hblk.cl 0;have hf:=hblk.frozen 0;by_cases hk:k<128
  ·have hx:((UInt8.ofNat k).toNat:Int)=(k:Int):=by rw[dW (by simp[UInt8.size];omega)]
   obtain⟨fn,tmps,assign,body,hy,hR⟩:=hY pre (UInt8.ofNat k) wr hj fZ ;unfold MO at hy;rw[hx]at hy;have HR:=af hR;have hkn:¬(128:Int)≤(k:Int):=by omega
   have HE:Hid (gJ m=pre++[UInt8.ofNat k]):=by show _=_;rw[HL.out,kK hk]
   clear hR hx HL;gi_wp2_with fail;refine HR.out.mono ?_;rintro e W3 ⟨rfl,hJ3,hb3⟩;rw[←HE.out]at hJ3;gi_wp2;go_end0;exact⟨⟨_,rfl⟩,hJ3⟩
  ·have hm1:k%128+128<256:=by omega
   have hx:((UInt8.ofNat (k%128+128)).toNat:Int)=(k:Int)%128+128:=by rw[dW (by simp[UInt8.size];omega)];omega
   obtain⟨fn,tmps,assign,body,hy,hR⟩:=hY pre (UInt8.ofNat (k%128+128)) wr hj fZ ;unfold MO at hy;rw[hx]at hy;have HR:=af hR;have hkn:(128:Int)≤(k:Int):=by omega
   have HE:Hid (gJ m=(pre++[UInt8.ofNat (k%128+128)])++gJ (k/128)):=by show _=_;rw[HL.out,nU hk,aA];rfl
   have hkm:(k:Int)≤1099511627776:=by omega
   clear hR hx HL;gi_wp2_with fail;refine HR.out.mono ?_;rintro e W3 ⟨rfl,hJ3,hb3⟩;have hblk3:gV W3 Bn 3 #[.int .i64 k]:=hb3.trans hblk;have hc3:W3.cell? ⟨Bn,0,none⟩=some (.int .i64 k):=hblk3.cl 0;have hf3:=hblk3.frozen 0;have RI:=hblk3.set 0 (.int .i64 ((k/128:Nat):Int));have hJ4:=hJ _ _ (.int .i64 ((k/128:Nat):Int)) hJ3;have kY:=af RI;have HJ4:=af hJ4;have HC:=af hc;have hm2:Dt (W3.setCell ⟨Bn,0,none⟩ (.int .i64 ((k/128:Nat):Int))) Bn<Dt wr Bn:=by
    rw[FW hc,FW (RI.cl 0)];omega
   have Ri:=af hm2;clear hm2;clear RI hJ4 hJ3 hb3 hblk3 hblk hj hc hf;gi_wp2;go_roundw
   case rel=>exact⟨pre++[UInt8.ofNat (k%128+128)],k/128,HE,by simp;omega,kY.out,HJ4.out⟩
   case measure=>exact Ri.out
structure qW(B b:Nat)(l:List UInt8)(w0 w:World):Prop where
 rQ:sH B b l w
 jM:Below B w0 w
 wT:Lib.OthersKept 5 (some b) w0 w
theorem uU{e:TypeId}{b:Option Nat}{w0 W W':World}(h:Lib.OthersKept e b w0 W)(hk:∀k,k<w0.heap.size→W'.heap[k]?=W.heap[k]?):Lib.OthersKept e b w0 W':=fun k o hx hb ho =>
 (hk k (ax.1 hx).1).trans (h k o hx hb ho)
theorem oq{e:TypeId}{b:Option Nat}{w0 W W':World}(h:Lib.OthersKept e b w0 W)(hs:w0.heap.size≤W.heap.size)(k:Below W.heap.size W W'):Lib.OthersKept e b w0 W' :=
 uU h fun i hi=>k.block i fZ
structure Rj(w0:World)(B b Hs Bn:Nat)(l0 pre:List UInt8)(W:World):Prop where
 e:qW B b (l0++pre) w0 W
 p:gV W Hs 119 #[.pointer (some ⟨b,0,none⟩)]
 n:∃v,gV W Bn 3 #[v]
 hs:w0.heap.size+2≤W.heap.size
section
variable {w0:World}{B b Hs Bn:Nat}{l0 pre:List UInt8}{W:World}
theorem Rj.alloc(h:Rj w0 B b Hs Bn l0 pre W)(hB:B≤w0.heap.size)(o:Obj):Rj w0 B b Hs Bn l0 pre (W.alloc o):=by
 have hs:=h.hs;obtain⟨v,hv⟩:=h.n;have k:Below W.heap.size W (W.alloc o):=(ah _ _).alloc (ak _) o;exact⟨⟨h.e.rQ.below k,h.e.jM.trans (k.mono fZ ),oq h.e.wT fZ k⟩,h.p.alloc o,⟨v,hv.alloc o⟩,by simp;omega⟩
theorem Rj.put(h:Rj w0 B b Hs Bn l0 pre W)(hB:B≤w0.heap.size){r:Nat}{o o':Obj}(hr:w0.heap.size≤r)(ho:W.heap[r]?=some o)(hc:o.isCells=false):Rj w0 B b Hs Bn l0 pre (W.putObj r o'):=by
 have blk:∀{g:Nat} {t:TypeId} {cs:Array Value},gV W g t cs→gV (W.putObj r o') g t cs:=fun {g t cs} hb=>(World.putObj_heap_other (by
  rintro rfl;unfold gV at hb;rw[hb]at ho;cases ho;cases hc)).trans hb
 obtain⟨v,hv⟩:=h.n;have hs:=h.hs;have hg:W.grownBy (W.putObj r o') (some r):=grownBy_putObj' W r o';refine⟨⟨?_,h.e.jM.grown hg fZ (fun k e=>by cases e;omega),uU h.e.wT fun k hk=>World.putObj_heap_other fZ ⟩,blk h.p,⟨v,blk hv⟩,by simp[World.putObj];omega⟩;have go:∀p,Lib.BuilderAtF 122 5 B b p (Lib.byteCells (l0++pre)) W→Lib.BuilderAtF 122 5 B b p (Lib.byteCells (l0++pre)) (W.putObj r o'):=fun p ⟨h1,v,h2,h3,h4⟩=>by
  refine⟨h1,v,blk (t:=122) h2,h3.kept hg ?_,h4⟩;rcases h3.2 with ⟨rfl,_⟩|⟨g,cap,cur,fz,rfl,_,hgg,_⟩
  ·exact .inl rfl
  ·refine .inr fun e=>?_
   have e1:g=r:=by simpa [Value.ownBlock] using e
   subst e1;rw[hgg]at ho;cases ho;cases hc
 exact h.e.rQ.imp (go _) (go _)
theorem Rj.set(h:Rj w0 B b Hs Bn l0 pre W)(hB:B≤w0.heap.size)(hBn:w0.heap.size≤Bn)(hbn:b≠Bn)(hsn:Hs≠Bn)(u:Value):Rj w0 B b Hs Bn l0 pre (W.setCell ⟨Bn,0,none⟩ u):=by
 obtain⟨v,hv⟩:=h.n;have hs:=h.hs;refine⟨⟨h.e.rQ.kept (grownBy_set W Bn 0 u) fun g e=>?_,h.e.jM.setCell (p:=⟨Bn,0,none⟩) (by simp only;omega) u,uU h.e.wT fun k hk=>bf W ⟨Bn,0,none⟩ u k (by simp only;omega)⟩,h.p.far (p:=⟨Bn,0,none⟩) hsn u,⟨u,hv.set 0 u⟩,by simp[World.setCell];omega⟩;injection e with e;subst e;exact⟨fun e=>hbn e.symm,_,_,_,hv,by decide⟩
end
theorem qF(w:World)(B b:Nat)(l:List UInt8)(m:Nat)(hm:m≤1099511627776)(h:sH B b l w)(hBw:B≤w.heap.size)(hl:l.length≤70368744177664):
  Calls prog 103 #[.pointer (some ⟨b,0,none⟩),.int .i64 m] w fun e w'=>e=.returned (.tuple #[])∧qW B b (l++gJ m) w w':=by
 have hbl:=h.lt;refine(callsIn_wide (n:=3)).1 ?_;refine callsIn_of_wp_marks func103 rfl trivial ?_ rfl;simp only[ntmps103,di,aI,aM,Nat.reduceAdd,Nat.reduceSub,dm,dB,dL,dH,aO,cB];gi_wp2_with fail;refine⟨trivial,?_⟩;refine(callsIn_wide.2 (Du _ _)).mono ?_;rintro e w' ⟨rfl,rfl⟩;gi_wp2_with fail;have k1:=(ah w.heap.size w).alloc (ak _) (.cells #[.pointer (some ⟨b,0,none⟩)] 119);have k2:=k1.alloc gu (.cells #[.int .i64 m] 3);have p1:=(gV.new w #[.pointer (some ⟨b,0,none⟩)] 119).alloc (.cells #[.int .i64 m] 3)
 have p2:=gV.new (w.alloc (.cells #[.pointer (some ⟨b,0,none⟩)] 119)) #[.int .i64 m] 3;rw[aJ]at p2;have hsz:((w.alloc (.cells #[.pointer (some ⟨b,0,none⟩)] 119)).alloc (.cells #[.int .i64 m] 3)).heap.size=w.heap.size+2:=by simp
 have hz:(w.alloc (.cells #[.pointer (some ⟨b,0,none⟩)] 119)).heap.size=w.heap.size+1:=by simp
 try rw[hz]
 have hI0:Rj w B b w.heap.size (w.heap.size+1) l [] ((w.alloc (.cells #[.pointer (some ⟨b,0,none⟩)] 119)).alloc (.cells #[.int .i64 m] 3)) :=
  ⟨⟨by rw[aU];exact h.below k2,k2.mono hBw,oq (Lib.OthersKept.refl _ _ _) (ak _) k2⟩,p1,⟨_,p2⟩,by omega⟩
 generalize (w.alloc (.cells #[.pointer (some ⟨b,0,none⟩)] 119)).alloc (.cells #[.int .i64 m] 3)=W0 at *;clear k1 k2 p1 hz;refine yS (α:=UInt8) (gf:=163) (lb:=#[.pointer (some ⟨w.heap.size+1,0,none⟩)]) rfl (enters_of func163 gB rfl)
  MO rfl (m+1) (gJ m) (w.heap.size+1) (Rj w B b w.heap.size (w.heap.size+1) l) (fun pre W o h=>h.alloc hBw o) (fun pre W r o o' hr h h1 h2=>h.put hBw fZ h1 h2) (fun pre W v h=>h.set hBw fZ fZ fZ v) hI0 ⟨_,_,p2⟩
  (fun lp J hJ hY W hB hJ0=>Dv _ lp _ fZ J hJ m hm hY W (hB.trans p2) hJ0)
  ?a1 ?assign ?body ?done
 case assign =>
  intro l x W K hK;unfold MO;gi_wp2;exact hK
 case body =>
  rintro lp pre x W hi hlen;have hp:=hi.p.cl 0;obtain⟨v,hv⟩:=hi.n;have hs:=hi.hs;have CW:=af (YT B b (l++pre) x W hi.e.rQ (by rw[aj];omega) fZ );have HI:=af hi;have HV:=af hv;clear hi hv hI0 p2;gi_wp2_with fail;refine⟨trivial,?_⟩;refine((kz lp).calls CW.out).mono ?_;rintro e w3 ⟨rfl,hb3,hB3,YU⟩;have hne:∀{g:Nat} {t:TypeId} {cs:Array Value},gV W g t cs→g≠b→t≠5→gV w3 g t cs:=fun hb hg ht=>YU _ _ hb (fun e=>hg (by injection e)) fun cs' fz e=>ht (by injection e)
  have hbW:=HI.out.e.rQ.blk;have hko:KeepsOthers W w3:=⟨hB3.size,fun k o hx ho=>YU k o hx (fun e=>by
   injection e with e;subst e;obtain⟨cs,fz,hc⟩:=hbW;rw[hx]at hc;cases hc;cases ho) fun c fz e=>by subst e;cases ho⟩
  have hP:∀a,OC (w.heap.size+1) (Rj w B b w.heap.size (w.heap.size+1) l) (pre++[x]) W .normal a w3:=fun _ =>
   ⟨hko,(hne HV.out fZ gm ).trans HV.out.symm,⟨⟨by rw[←aA];exact hb3,HI.out.e.jM.trans hB3,HI.out.e.wT.trans YU⟩,hne HI.out.p fZ gm ,⟨v,hne HV.out fZ gm ⟩,by have:=hB3.size;omega⟩⟩
  have hP':=af hP;clear hP hko hbW hne hb3 hB3 YU HI HV CW;gi_wp2;exact hP'.out _
 case done =>
  rintro D W hD hi hK;have HI:=af hi;clear hI0 hi p2;gi_wp2;refine⟨by simp,.inl ⟨_,_,rfl,run_takeDeferred hK,?_⟩⟩;refine⟨_,results_none rfl _ _ _,rfl,?_⟩;have hp:=HI.out.put hBw (o':=.deferred none) fZ hK rfl;exact hp.e
theorem BH(n:Int)(w:World)(h0:0≤n)(h1:n≤1099511627776):Calls prog 102 #[.int .i64 n] w fun e w'=>e=.returned (.bool true)∧w=w':=by
 go_enter func102,ntmps102;go_wp2;go_ret;exact⟨rfl,rfl⟩
theorem MP(n:Int)(w:World)(h:n<0∨1099511627776<n):Calls prog 102 #[.int .i64 n] w fun e w'=>e=.returned (.bool false)∧w=w':=by
 rcases h with h|h
 ·have h':decide (0≤n)=false:=by simp;omega
  go_enter func102,ntmps102;go_wp2;go_ret;exact⟨rfl,rfl⟩
 ·have h':decide (n≤1099511627776)=false:=by simp;omega
  have h2:decide (0≤n)=true:=by simp;omega
  go_enter func102,ntmps102;go_wp2;go_ret;exact⟨rfl,rfl⟩
theorem sH.new(w:World){B:Nat}(hB:B≤w.heap.size):sH B w.heap.size [] (w.alloc (.cells #[.pointer none,.slice none 0 0] 122)) :=
 .inl ⟨hB,.slice none 0 0,heap_alloc_new w _,⟨rfl,.inl ⟨rfl,rfl⟩⟩,by simp[Value.ownBlock]⟩
theorem tT(n:Int)(w:World):Calls prog 56 #[.int .i64 n] w fun e w'=>e=.returned (.tuple #[.string (fu (jc n).1),.int .i64 (jc n).2])∧Below w.heap.size w w':=by
 by_cases h:0≤n∧n≤1099511627776
 ·have hp:jc n=(gJ n.toNat,0):=if_pos h;obtain⟨m,rfl⟩:∃m:Nat,n=m:=⟨n.toNat,by omega⟩;rw[hp,aT];have hm:m≤1099511627776:=by omega
  have CR:=af (BH (m:Int) w h.1 h.2);clear hp h;go_enter func56,ntmps56;go_wp2_with fail;refine CR.out.mono ?_;rintro e w1 ⟨rfl,rfl⟩;have CW:=af (qF (w.alloc (.cells #[.pointer none,.slice none 0 0] 122)) w.heap.size w.heap.size [] m hm (sH.new w gF) gu gu );have K1:=af ((ah w.heap.size w).alloc (ak _) (.cells #[.pointer none,.slice none 0 0] 122));clear CR;go_wp2_with fail;refine CW.out.mono ?_;rintro e w2 ⟨rfl,hb⟩;have CS:=af (tQ w.heap.size w.heap.size ([]++gJ m) w2 hb.rQ (by have:=hb.jM.size;simp at this;omega))
  have K2:=af (K1.out.trans hb.jM);clear hb CW K1;go_wp2_with fail;refine CS.out.mono ?_;rintro e w3 ⟨rfl,_,hb3,_⟩;have K3:=af (K2.out.trans hb3);clear hb3 CS K2;go_wp2;go_ret2;exact⟨rfl,K3.out⟩
 ·have hp:jc n=([],2):=if_neg h;rw[hp];have CR:=af (MP n w fZ );clear hp h;go_enter func56,ntmps56;go_wp2_with fail;refine CR.out.mono ?_;rintro e w1 ⟨rfl,rfl⟩;go_wp2;go_ret2;exact⟨rfl,ah _ _⟩
end Go.Proofs.YtichfhpgdhdiaaaGreat
namespace Go.Proofs.YtichfhpgdhdiaaaGreat
open Go.RowKit
theorem pU(a:ByteArray){o l:Nat}(h:o+l≤a.size):a.extract o (o+l)=fu ((a.data.toList.drop o).take l):=by
 apply dX;rw[dF];apply Array.toList_inj.1;simp[fu,eO,dN]
theorem pV(s:ByteArray)(k:Nat):(s.extract k s.size).data.toList=s.data.toList.drop k:=by
 rw[dF,eO,dN];apply aF;rw[aC];exact ak _
theorem nV(a b:List UInt8):fu a++fu b=fu (a++b):=by
 apply dX;simp[fu,ByteArray.data_append]
def gI(r:Nat×Nat×Int):Ending:=.returned (.tuple #[.int .i64 (r.1:Int),.int .i64 (r.2.1:Int),.int .i64 r.2.2])
def PU(i u:Nat):Prop:=u=128^i
def gT(r:List UInt8×Nat×Int):Ending:=.returned (.tuple #[.string (fu r.1),.int .i64 (r.2.1:Int),.int .i64 r.2.2])
theorem Ht{s:List UInt8}{f i n u:Nat}(h:i<s.length):qX (f+1) i n u (s.drop i)=if 128≤s[i].toNat then qX f (i+1) (n+(s[i].toNat-128)*u) (u*128) (s.drop (i+1))else if (s[i].toNat=0∧0<i)∨1099511627776<n+s[i].toNat*u then(0,0,13)else(n+s[i].toNat*u,i+1,0):=by
 rw[aR h];rfl
theorem JE{s:List UInt8}{f i n u:Nat}(h:s.length≤i):qX (f+1) i n u (s.drop i)=(0,0,12):=by
 rw[cO h];rfl
theorem RJ{i:Nat}(h:i≤5):128^i≤34359738368:=aS (Nat.pow_le_pow_right fZ h) gm
theorem lH(s:ByteArray)(w:World):Calls prog 118 #[.string s] w fun e w'=>e=gI (gX s.data.toList)∧w'=w:=by
 have HL:Hid (s.data.toList.length=s.size):=rfl;have yT:Hid (qX (6-0) 0 0 1 (s.data.toList.drop 0)=gX s.data.toList):=rfl;have HU0:Hid (PU 0 1):=rfl;generalize gX s.data.toList=r at *;go_enter func118,ntmps118;go_wp2;go_loopw [5,6,9] (fun ni ui ii wr=>∃i n u:Nat,i≤6∧ni=.int .i64 n∧ui=.int .i64 u∧ii=.int .i64 i∧n<u∧Hid (PU i u)∧Hid (qX (6-i) i n u (s.data.toList.drop i)=r)∧wr=w) (fun _ _ ii _=>6-(intOf ii).toNat)
 case atStart=>exact⟨0,0,1,by omega,rfl,rfl,rfl,by omega,HU0,yT,rfl⟩
 case round =>
  clear yT HU0;obtain⟨i,n,u,hi,rfl,rfl,rfl,hn,HU,HR,rfl⟩:=hrel;by_cases h6:i<6
  ·have hu:u≤34359738368:=by rw[show u=128^i from HU.out];exact RJ fZ
   by_cases hs:i<s.size
   ·have hd:=s[i].toNat_lt;have HR2:Hid ((if 128≤s[i].toNat then qX (5-i) (i+1) (n+(s[i].toNat-128)*u) (u*128) (s.data.toList.drop (i+1))else if (s[i].toNat=0∧0<i)∨1099511627776<n+s[i].toNat*u then(0,0,13)else(n+s[i].toNat*u,i+1,0))=r):=by
     show _=_;rw[←HR.out,show 6-i=(5-i)+1 by omega,Ht (show i<s.data.toList.length from hs)];rfl
    have hge:decide ((s.size:Int)≤(i:Int))=false:=by simp;omega
    clear HR;by_cases h128:128≤s[i].toNat
    ·have hq:(s[i].toNat-128)*u≤127*u:=bT _ fZ ;have HR3:Hid (qX (6-(i+1)) (i+1) (n+(s[i].toNat-128)*u) (u*128) (s.data.toList.drop (i+1))=r):=by
      show _=_;rw[←HR2.out,if_pos h128,show 6-(i+1)=5-i by omega]
     have hw1:IntKind.i64.wrap ((s[i].toNat:Int)-128)=((s[i].toNat-128:Nat):Int):=by rw[jo fZ fZ ];omega
     have hw2:IntKind.i64.wrap (((s[i].toNat-128:Nat):Int)*(u:Int))=(((s[i].toNat-128)*u:Nat):Int):=by rw[←eH,jo fZ fZ ]
     have hw3:IntKind.i64.wrap ((n:Int)+(((s[i].toNat-128)*u:Nat):Int))=((n+(s[i].toNat-128)*u:Nat):Int):=by rw[←Int.natCast_add,jo fZ fZ ]
     have hw4:IntKind.i64.wrap ((u:Int)*128)=((u*128:Nat):Int):=by rw[jo fZ fZ ];omega
     have h128':(128:Int)≤(s[i].toNat:Int):=by omega
     have HU2:Hid (PU (i+1) (u*128)):=by show _=_;rw[show u=128^i from HU.out,Nat.pow_succ]
     have hn2:n+(s[i].toNat-128)*u<u*128:=by omega
     clear HR2 HU;generalize (s[i].toNat-128)*u=q at *;generalize s[i].toNat-128=d1 at *;go_wp2;go_roundw
     case rel=>exact⟨i+1,_,u*128,by omega,rfl,rfl,by go_num,hn2,HU2,HR3,trivial⟩
     case measure=>simp[intOf];omega
    ·have hq:s[i].toNat*u≤127*u:=bT _ fZ ;have hw2:IntKind.i64.wrap ((s[i].toNat:Int)*(u:Int))=((s[i].toNat*u:Nat):Int):=by rw[←eH,jo fZ fZ ]
     have hw3:IntKind.i64.wrap ((n:Int)+((s[i].toNat*u:Nat):Int))=((n+s[i].toNat*u:Nat):Int):=by rw[←Int.natCast_add,jo fZ fZ ]
     have h128':¬(128:Int)≤(s[i].toNat:Int):=by omega
     have HR3:Hid ((if (s[i].toNat=0∧0<i)∨1099511627776<n+s[i].toNat*u then(0,0,13)else(n+s[i].toNat*u,i+1,0))=r):=by
      show _=_;rw[←HR2.out,if_neg h128]
     have hd0:s[i].toNat=0→s[i].toNat*u=0:=fun h=>by rw[h,fV]
     clear HR2 HU;generalize s[i].toNat*u=q at *;by_cases hz:s[i].toNat=0∧0<i
     ·have HR4:Hid (r=(0,0,13)):=by show _=_;rw[←HR3.out,if_pos (.inl hz)]
      have z1:((s[i].toNat:Int)==0)=true:=by simp;exact_mod_cast hz.1
      have z2:(0:Int)<(i:Int):=by omega
      clear HR3 hd0 hz;go_wp2;go_ret3;exact⟨by rw[HR4.out];rfl,rfl⟩
     ·by_cases hb:1099511627776<n+q
      ·have HR4:Hid (r=(0,0,13)):=by show _=_;rw[←HR3.out,if_pos (.inr hb)]
       have z3:(1099511627776:Int)<((n+q:Nat):Int):=by omega
       have z0:¬s[i].toNat=0:=fun e=>by have:=hd0 e;omega
       have z1:((s[i].toNat:Int)==0)=false:=by simpa using z0
       clear HR3 hd0 hz z0;go_wp2;go_ret3;exact⟨by rw[HR4.out];rfl,rfl⟩
      ·have HR4:Hid (r=(n+q,i+1,0)):=by show _=_;rw[←HR3.out,if_neg (by rintro(h|h);exact hz h;exact hb h)]
       have z3:¬(1099511627776:Int)<((n+q:Nat):Int):=by omega
       by_cases z0:s[i].toNat=0
       ·have hi0:i=0:=by
         rcases fQ i with h|h
         ·exact h
         ·exact absurd ⟨z0,h⟩ hz
        have z2:¬(0:Int)<(i:Int):=by omega
        have z1:((s[i].toNat:Int)==0)=true:=by simp;exact_mod_cast z0
        clear hi0;clear HR3 hd0 hz z0;go_wp2;go_ret3;exact⟨by rw[HR4.out];first|rfl|(simp[gI];done)|(simp[gI];omega),rfl⟩
       ·have z1:((s[i].toNat:Int)==0)=false:=by simpa using z0
        clear HR3 hd0 hz z0;go_wp2;go_ret3;exact⟨by rw[HR4.out];rfl,rfl⟩
   ·have HR2:Hid (r=(0,0,12)):=by
     show _=_;rw[←HR.out,show 6-i=(5-i)+1 by omega,JE (show s.data.toList.length≤i by have:=HL.out;omega)]
    have hge:(s.size:Int)≤(i:Int):=by omega
    clear HR HU hs;go_wp2;go_ret3;exact⟨by rw[HR2.out];rfl,rfl⟩
  ·have h6':i=6:=by omega
   subst h6';have HR2:Hid (r=(0,0,13)):=by show _=_;rw[←HR.out];rfl
   clear HR HU;go_wp2;go_ret3;exact⟨by rw[HR2.out];rfl,rfl⟩
theorem pW(s:ByteArray)(w:World)(hs:s.size≤9000000000000000000):Calls prog 128 #[.string s] w fun e w'=>e=gT (ji s.data.toList)∧w'=w:=by
 have CI:=af (lH s w);have HL:s.data.toList.length=s.size:=rfl;obtain⟨b1,b2⟩:=pQ s.data.toList;have HT:Hid (ji s.data.toList=if (gX s.data.toList).2.2≠0 then([],0,(gX s.data.toList).2.2)else if 65536<(gX s.data.toList).1 then([],0,13)else if s.data.toList.length-(gX s.data.toList).2.1<(gX s.data.toList).1 then([],0,12)else((s.data.toList.drop (gX s.data.toList).2.1).take (gX s.data.toList).1,(gX s.data.toList).2.1+(gX s.data.toList).1,0)):=rfl;rw[HL]at b2;rw[HL]at HT;generalize ji s.data.toList=r at *;generalize gX s.data.toList=q at *;obtain⟨n,k,e0⟩:=q
 simp only at HT b1 b2;unfold gI at CI;simp only at CI;clear HL;by_cases he:e0=0
 ·subst he;by_cases hn:65536<n
  ·have HR:Hid (r=([],0,13)):=by show _=_;rw[HT.out,if_neg gu ,if_pos hn]
   clear HT;go_enter func128,ntmps128;go_wp2_with fail;refine CI.out.mono ?_;rintro e w1 ⟨rfl,rfl⟩;go_wp2;go_ret3;exact⟨by rw[HR.out];rfl,rfl⟩
  ·have hn1:¬(65536:Int)<(n:Int):=by omega
   by_cases hk:s.size-k<n
   ·have HR:Hid (r=([],0,12)):=by show _=_;rw[HT.out,if_neg gu ,if_neg hn,if_pos hk]
    have hk1:(s.size:Int)-k<n:=by omega
    have hw:IntKind.i64.wrap ((s.size:Int)-k)=(s.size:Int)-k:=jo fZ fZ ;clear HT;go_enter func128,ntmps128;go_wp2_with fail;refine CI.out.mono ?_;rintro e w1 ⟨rfl,rfl⟩;go_wp2;go_ret3;exact⟨by rw[HR.out];rfl,rfl⟩
   ·have HR:Hid (r=((s.data.toList.drop k).take n,k+n,0)):=by show _=_;rw[HT.out,if_neg gu ,if_neg hn,if_neg hk]
    have hk1:¬(s.size:Int)-k<n:=by omega
    have hw:IntKind.i64.wrap ((s.size:Int)-k)=(s.size:Int)-k:=jo fZ fZ ;have hz1:IntKind.i64.wrap ((k:Int)+n)=((k+n:Nat):Int):=by rw[jo fZ fZ ];omega
    have HX:=af (pU s (o:=k) (l:=n) fZ );have hle:k+n≤s.size:=by omega
    clear HT;go_enter func128,ntmps128;go_wp2_with fail;refine CI.out.mono ?_;rintro e w1 ⟨rfl,rfl⟩;go_wp2;go_ret3;exact⟨by rw[HR.out];unfold gT;rw[←HX.out];rfl,rfl⟩
 ·have HR:Hid (r=([],0,e0)):=by show _=_;rw[HT.out,if_pos he]
  have hne:(e0 != 0)=true:=by simpa using he
  clear HT;go_enter func128,ntmps128;go_wp2_with fail;refine CI.out.mono ?_;rintro e w1 ⟨rfl,rfl⟩;go_wp2;go_ret3;exact⟨by rw[HR.out];rfl,rfl⟩
end Go.Proofs.YtichfhpgdhdiaaaGreat
namespace Go.Proofs.YtichfhpgdhdiaaaGreat
open Go.RowKit
def PV(l:List UInt8)(w0:World)(e:Ending)(w:World):Prop:=e=.returned (.string (fu l))∧Below w0.heap.size w0 w
theorem yU{P:Program}(W:World)(src e dst:TypeId)(hs:P.underlying src=some (.slice e))(he:P.underlying e=some (.int .u8))(hd:P.underlying dst=some .string)(g:Nat)(x:UInt8)(cap:Nat)(hc:W.cell? ⟨g,0,none⟩=some (.int .u8 (x.toNat:Int))):(convert src dst (.slice (some ⟨g,0,none⟩) 1 cap)).run P W=.ok (.string (fu [x])) W :=
 run_convert_bytes_back W src dst e ⟨g,0,none⟩ cap [x] hs he hd fun j hj=>by
  have:j=0:=by simpa using hj
  subst this;exact hc
theorem JF:∀(m:Nat) (w:World),m≤9000000000000000000→Calls prog 178 #[.int .i64 m] w (PV (gJ m) w):=by
 intro m
 induction m using Nat.strongRecOn with
 |ind m ih =>
  intro w hm;by_cases h:m<128
  ·have hx:(UInt8.ofNat m).toNat=m:=dW (by simp[UInt8.size];omega);have hlt:(m:Int)<128:=by omega
   have HD:Hid (gJ m = [UInt8.ofNat m]):=kK h;have hbl:=gV.new w #[.int .u8 (m:Int)] 5;have hcv:=yU (P:=prog) (w.alloc (.cells #[.int .u8 (m:Int)] 5)) 120 5 9 underlying120 underlying5 underlying9 w.heap.size (UInt8.ofNat m) 1 (by rw[hx];exact hbl.cl 0);have HE:Hid (PV (gJ m) w (.returned (.string (fu [UInt8.ofNat m]))) (w.alloc (.cells #[.int .u8 (m:Int)] 5))):=by
    show PV _ _ _ _;rw[HD.out];exact⟨rfl,(ah _ _).alloc (ak _) _⟩
   clear ih hbl;generalize UInt8.ofNat m=d at *;go_enter func178,ntmps178;go_wp2;go_ret;exact HE.out
  ·have HD:Hid (UInt8.ofNat (m%128+128)::gJ (m/128)=gJ m):=(nU h).symm;have hlt:¬(m:Int)<128:=by omega
   have hx:(UInt8.ofNat (m%128+128)).toNat=m%128+128:=dW (by simp[UInt8.size];omega);have IH:=af (fun w=>ih (m/128) fZ w fZ );obtain⟨r,hr⟩:∃r,r=m%128:=⟨_,rfl⟩;obtain⟨q,hq⟩:∃q,q=m%128+128:=⟨_,rfl⟩;have w1:(m:Int).tmod 128=(r:Int):=by rw[Int.tmod_eq_emod_of_nonneg fZ ];omega
   have w2:IntKind.i64.wrap (128+(r:Int))=(q:Int):=by rw[jo fZ fZ ];omega
   have w3:IntKind.u8.wrap (q:Int)=((UInt8.ofNat (m%128+128)).toNat:Int):=by
    rw[hx,←hq];exact IntWalk.u8_in _ fZ
   have w4:IntKind.i64.wrap ((m:Int)/128)=((m/128:Nat):Int):=by rw[jo fZ fZ ];omega
   have hap:=nV [UInt8.ofNat (m%128+128)] (gJ (m/128));have hdl:=ja (m/128) 8 fZ ;have hz:¬9223372036854775807<(fu [UInt8.ofNat (m%128+128)]).size+(fu (gJ (m/128))).size:=by rw[gL,gL];simp only[aQ];omega
   clear ih hx hdl hr hq;generalize UInt8.ofNat (m%128+128)=d at *;go_enter func178,ntmps178;go_wp2_with fail;refine nN (S:=fun _=>True) gB trivial 9 ?_;have k0:=(ah w.heap.size w).drew;generalize w.drew=W at *;refine gP 0 ?_;refine gP 1 ?_;refine gP 2 ?_;refine gP 3 ?_;refine gP 6 ?_;refine gP 7 ?_;refine yV (i:=4) (j:=8) (by simp only[GA];rfl) (by simp only[GA];rfl) gB (by rfl) (by rfl) ?_ ?_
   ·intro K hK;go_simp;have k1:=k0.alloc k0.size (.cells #[.int .u8 (d.toNat:Int)] 5);have c1:=(gV.new W #[.int .u8 (d.toNat:Int)] 5);refine hK _ _ trivial ?_;clear hK K;refine yV (i:=5) (j:=8) (by simp only[GA];rfl) (by simp only[GA];rfl) gB (by rfl) (by rfl) ?_ ?_
    ·intro K hK;have hcv:=yU (P:=prog) (W.alloc (.cells #[.int .u8 (d.toNat:Int)] 5)) 120 5 9 underlying120 underlying5 underlying9 W.heap.size d 1 (c1.cl 0);go_simp;refine hK _ _ trivial ?_;clear hK K;clear hcv c1;refine kF.on 8 ?_;intro K hK;go_simp;refine(IH.out _).mono ?_;rintro e w2 ⟨rfl,hb⟩;have k2:=k1.trans (hb.mono k1.size);refine hK _ _ trivial ?_;clear hK K;clear hb k1;refine kF.lt 9 ?_;intro K hK;go_simp;refine hK _ _ ?_;clear hK K;refine kF.lt 10 ?_;intro K hK;go_simp;refine hK _ _ (iP ?_)
     clear hK K;have HE:=af (show PV (gJ m) w (.returned (.string (fu (d::gJ (m/128))))) _ from⟨by rw[HD.out],k2⟩);clear k2;go_wp2;go_ret;exact HE.out
    ·intro K hK;go_simp;refine(IH.out _).mono ?_;rintro e w2 ⟨rfl,hb⟩;have k2:=k1.trans (hb.mono k1.size);have c2:=c1.keep hb;refine hK _ _ trivial ?_;clear hK K;clear hb k1 c1;refine kF.on 5 ?_;intro K hK;have hcv:=yU (P:=prog) w2 120 5 9 underlying120 underlying5 underlying9 W.heap.size d 1 (c2.cl 0);go_simp;refine hK _ _ trivial ?_;clear hK K;clear hcv c2;refine kF.lt 9 ?_;intro K hK;go_simp;refine hK _ _ ?_;clear hK K;refine kF.lt 10 ?_;intro K hK;go_simp;refine hK _ _ (iP ?_);clear hK K;have HE:=af (show PV (gJ m) w (.returned (.string (fu (d::gJ (m/128))))) _ from⟨by rw[HD.out],k2⟩)
     clear k2;go_wp2;go_ret;exact HE.out
   ·intro K hK;go_simp;refine(IH.out _).mono ?_;rintro e w2 ⟨rfl,hb⟩;have k1:=k0.trans (hb.mono k0.size);refine hK _ _ trivial ?_;clear hK K;clear hb k0;refine kF.on 4 ?_;intro K hK;go_simp;have k2:=k1.alloc k1.size (.cells #[.int .u8 (d.toNat:Int)] 5);have c1:=(gV.new w2 #[.int .u8 (d.toNat:Int)] 5);refine hK _ _ trivial ?_;clear hK K;clear k1;refine kF.on 5 ?_;intro K hK;have hcv:=yU (P:=prog) (w2.alloc (.cells #[.int .u8 (d.toNat:Int)] 5)) 120 5 9 underlying120 underlying5 underlying9 w2.heap.size d 1 (c1.cl 0)
    go_simp;refine hK _ _ trivial ?_;clear hK K;clear hcv c1;refine kF.lt 9 ?_;intro K hK;go_simp;refine hK _ _ ?_;clear hK K;refine kF.lt 10 ?_;intro K hK;go_simp;refine hK _ _ (iP ?_);clear hK K;have HE:=af (show PV (gJ m) w (.returned (.string (fu (d::gJ (m/128))))) _ from⟨by rw[HD.out],k2⟩);clear k2;go_wp2;go_ret;exact HE.out
end Go.Proofs.YtichfhpgdhdiaaaGreat
namespace Go.Proofs.YtichfhpgdhdiaaaGreat
open Go.RowKit
theorem JG(n:Int)(w:World):Calls prog 174 #[.int .i64 n] w fun e w'=>e=.returned (.tuple #[.string (fu (jc n).1),.int .i64 (jc n).2])∧Below w.heap.size w w':=by
 by_cases h:0≤n∧n≤1099511627776
 ·have hp:jc n=(gJ n.toNat,0):=if_pos h;obtain⟨m,rfl⟩:∃m:Nat,n=m:=⟨n.toNat,by omega⟩;rw[hp,aT];have h1:¬(m:Int)<0:=by omega
  have h2:¬(1099511627776:Int)<(m:Int):=by omega
  have CP:=af (JF m w fZ );clear hp h;go_enter func174,ntmps174;go_wp2_with fail;refine CP.out.mono ?_;rintro e w1 ⟨rfl,hb⟩;have HB:=af hb;clear CP hb;go_wp2;go_ret2;exact⟨rfl,HB.out⟩
 ·have hp:jc n=([],2):=if_neg h;rw[hp];by_cases h0:n<0
  ·clear hp h;go_enter func174,ntmps174;go_wp2;go_ret2;exact⟨rfl,ah _ _⟩
  ·have h1:(1099511627776:Int)<n:=by omega
   clear hp h;go_enter func174,ntmps174;go_wp2;go_ret2;exact⟨rfl,ah _ _⟩
theorem Hu(s:List UInt8)(w:World)(hl:s.length≤1000000000000):Calls prog 175 #[.string (fu s)] w fun e w'=>e=.returned (.tuple #[.string (fu (jP s).1),.int .i64 (jP s).2])∧Below w.heap.size w w':=by
 have hz:=gL s;by_cases h:s.length≤65536
 ·have hp:jP s=(gJ s.length++s,0):=if_pos h;rw[hp];have hd:¬(65536:Int)<((fu s).size:Int):=by rw[hz];omega
  have CP:=JF (fu s).size w fZ ;have hdl:=ja s.length 8 fZ ;rw[hz]at CP;have V9:=af CP;have hap:=nV (gJ s.length) s;have hsz:¬9223372036854775807<(fu (gJ s.length)).size+(fu s).size:=by rw[gL,gL];omega
  clear hp h hdl CP;rw[hz]at hd;go_enter func175,ntmps175;go_wp2_with fail;refine V9.out.mono ?_;rintro e w1 ⟨rfl,hb⟩;have HB:=af hb;clear V9 hb;go_wp2;go_ret2;exact⟨rfl,HB.out⟩
 ·have hp:jP s=([],4):=if_neg h;rw[hp];have hd:(65536:Int)<((fu s).size:Int):=by rw[hz];omega
  clear hp h hz;go_enter func175,ntmps175;go_wp2;go_ret2;exact⟨rfl,ah _ _⟩
theorem BI(s:ByteArray)(w:World):Calls prog 137 #[.string s] w fun e w'=>e=gI (gX s.data.toList)∧jZ w w':=by
 have HL:Hid (s.data.toList.length=s.size):=rfl;have yT:Hid (qX (6-0) 0 0 1 (s.data.toList.drop 0)=gX s.data.toList):=rfl;have HU0:Hid (PU 0 1):=rfl;generalize gX s.data.toList=r at *;go_enter func137,ntmps137;go_wp2;go_loopw [5,6,7] (fun ni ui ii wr=>∃i n u:Nat,i≤6∧i≤s.size∧ni=.int .i64 n∧ui=.int .i64 u∧ii=.int .i64 i∧n<u∧Hid (PU i u)∧Hid (qX (6-i) i n u (s.data.toList.drop i)=r)∧jZ w wr) (fun _ _ ii _=>6-(intOf ii).toNat)
 case atStart=>exact⟨0,0,1,by omega,by omega,rfl,rfl,rfl,by omega,HU0,yT,jZ.refl _⟩
 case round =>
  clear yT HU0;obtain⟨i,n,u,hi,hsi,rfl,rfl,rfl,hn,HU,HR,hd0⟩:=hrel;have qY:=af hd0;clear hd0;by_cases h6:i<6
  ·have hu:u≤34359738368:=by rw[show u=128^i from HU.out];exact RJ fZ
   by_cases hs:i<s.size
   ·have hd:=s[i].toNat_lt;obtain⟨r1,hr1⟩:∃r1,r1=s[i].toNat%128:=⟨_,rfl⟩;have hr2:r1<128:=by omega
    have wm:((s[i].toNat:Int)).tmod 128=(r1:Int):=by rw[Int.tmod_eq_emod_of_nonneg fZ ];omega
    obtain⟨q,hqe⟩:∃q,q=u*r1:=⟨_,rfl⟩;have hq:q≤127*u:=by rw[hqe,Nat.mul_comm 127];exact Nat.mul_le_mul_left _ fZ
    have hw2:IntKind.i64.wrap ((u:Int)*(r1:Int))=(q:Int):=by rw[←eH,←hqe,jo fZ fZ ]
    have hw3:IntKind.i64.wrap ((n:Int)+(q:Int))=((n+q:Nat):Int):=by rw[←Int.natCast_add,jo fZ fZ ]
    have hw4:IntKind.i64.wrap ((u:Int)*128)=((u*128:Nat):Int):=by rw[jo fZ fZ ];omega
    have hne:((i:Int)==(s.size:Int))=false:=by simp;omega
    by_cases h128:128≤s[i].toNat
    ·have Vi:(s[i].toNat-128)*u=q:=by rw[hqe,Nat.mul_comm];congr 1;omega
     have HR3:Hid (qX (6-(i+1)) (i+1) (n+q) (u*128) (s.data.toList.drop (i+1))=r):=by
      show _=_;rw[←HR.out,show 6-i=(5-i)+1 by omega,Ht (show i<s.data.toList.length from hs)];show _=if 128≤s[i].toNat then qX (5-i) (i+1) (n+(s[i].toNat-128)*u) (u*128) (s.data.toList.drop (i+1))else _;rw[if_pos h128,Vi,show 6-(i+1)=5-i by omega]
     have h128':¬(s[i].toNat:Int)<128:=by omega
     have HU2:Hid (PU (i+1) (u*128)):=by show _=_;rw[show u=128^i from HU.out,Nat.pow_succ]
     have hn2:n+q<u*128:=by omega
     clear HR HU hqe hr1 Vi;go_wp2;go_roundw
     case rel=>exact⟨i+1,n+q,u*128,by omega,by omega,by go_num,by go_num,by go_num,hn2,HU2,HR3,qY.out⟩
     case measure=>simp[intOf];omega
    ·have Vi:s[i].toNat*u=q:=by rw[hqe,Nat.mul_comm];congr 1;omega
     have h128':(s[i].toNat:Int)<128:=by omega
     have HR3:Hid ((if (s[i].toNat=0∧0<i)∨1099511627776<n+q then(0,0,13)else(n+q,i+1,0))=r):=by
      show _=_;rw[←HR.out,show 6-i=(5-i)+1 by omega,Ht (show i<s.data.toList.length from hs)];show _=if 128≤s[i].toNat then _ else if (s[i].toNat=0∧0<i)∨1099511627776<n+s[i].toNat*u then(0,0,13)else(n+s[i].toNat*u,i+1,0);rw[if_neg h128,Vi]
     have hd0:s[i].toNat=0→q=0:=fun h=>by rw[←Vi,h,fV]
     clear HR HU hqe hr1 Vi h128;by_cases hb:1099511627776<n+q
     ·have HR4:Hid (r=(0,0,13)):=by show _=_;rw[←HR3.out,if_pos (.inr hb)]
      have z3:(1099511627776:Int)<((n+q:Nat):Int):=by omega
      clear HR3 hd0;go_wp2;go_ret3;exact⟨by rw[HR4.out];rfl,qY.out⟩
     ·have z3:¬(1099511627776:Int)<((n+q:Nat):Int):=by omega
      by_cases hi0:0<i
      ·have z2:(0:Int)<(i:Int):=by omega
       by_cases hz:s[i].toNat=0
       ·have HR4:Hid (r=(0,0,13)):=by show _=_;rw[←HR3.out,if_pos (.inl ⟨hz,hi0⟩)]
        have z1:((s[i].toNat:Int)==0)=true:=by simp;exact_mod_cast hz
        clear HR3 hd0 hz hb hi0;go_wp2;go_ret3;exact⟨by rw[HR4.out];rfl,qY.out⟩
       ·have HR4:Hid (r=(n+q,i+1,0)):=by show _=_;rw[←HR3.out,if_neg (by rintro(h|h);exact hz h.1;exact hb h)]
        have z1:((s[i].toNat:Int)==0)=false:=by simpa using hz
        clear HR3 hd0 hz hb hi0;go_wp2;go_ret3;exact⟨by rw[HR4.out];first|rfl|(simp[gI];done)|(simp[gI];omega),qY.out⟩
      ·have HR4:Hid (r=(n+q,i+1,0)):=by show _=_;rw[←HR3.out,if_neg (by rintro(h|h);exact hi0 h.2;exact hb h)]
       have z2:¬(0:Int)<(i:Int):=by omega
       clear HR3 hd0 hb hi0;go_wp2;go_ret3;exact⟨by rw[HR4.out];first|rfl|(simp[gI];done)|(simp[gI];omega),qY.out⟩
   ·have hie:i=s.size:=by omega
    have HR2:Hid (r=(0,0,12)):=by
     show _=_;rw[←HR.out,show 6-i=(5-i)+1 by omega,JE (show s.data.toList.length≤i by have:=HL.out;omega)]
    have hne:((i:Int)==(s.size:Int))=true:=by simp;omega
    clear HR HU hs hie;go_wp2;go_ret3;exact⟨by rw[HR2.out];rfl,qY.out⟩
  ·have h6':i=6:=by omega
   subst h6';have HR2:Hid (r=(0,0,13)):=by show _=_;rw[←HR.out];rfl
   clear HR HU;go_wp2;go_ret3;exact⟨by rw[HR2.out];rfl,qY.out⟩
theorem Hw(s:ByteArray)(w:World)(hs:s.size≤9000000000000000000):Calls prog 138 #[.string s] w fun e w'=>e=gT (ji s.data.toList)∧jZ w w':=by
 have CI:=af (BI s w);have HL:s.data.toList.length=s.size:=rfl;obtain⟨b1,b2⟩:=pQ s.data.toList;have HT:Hid (ji s.data.toList=if (gX s.data.toList).2.2≠0 then([],0,(gX s.data.toList).2.2)else if 65536<(gX s.data.toList).1 then([],0,13)else if s.data.toList.length-(gX s.data.toList).2.1<(gX s.data.toList).1 then([],0,12)else((s.data.toList.drop (gX s.data.toList).2.1).take (gX s.data.toList).1,(gX s.data.toList).2.1+(gX s.data.toList).1,0)):=rfl;rw[HL]at b2;rw[HL]at HT;generalize ji s.data.toList=r at *;generalize gX s.data.toList=q at *;obtain⟨n,k,e0⟩:=q
 simp only at HT b1 b2;unfold gI at CI;simp only at CI;clear HL;by_cases he:e0=0
 ·subst he;by_cases hn:65536<n
  ·have HR:Hid (r=([],0,13)):=by show _=_;rw[HT.out,if_neg gu ,if_pos hn]
   clear HT;go_enter func138,ntmps138;go_wp2_with fail;refine CI.out.mono ?_;rintro e w1 ⟨rfl,hdr⟩;have qY:=af hdr;clear hdr CI;go_wp2;go_ret3;exact⟨by rw[HR.out];rfl,qY.out⟩
  ·have hn1:¬(65536:Int)<(n:Int):=by omega
   by_cases hk:s.size-k<n
   ·have HR:Hid (r=([],0,12)):=by show _=_;rw[HT.out,if_neg gu ,if_neg hn,if_pos hk]
    have hk1:(s.size:Int)-k<n:=by omega
    have hw:IntKind.i64.wrap ((s.size:Int)-k)=(s.size:Int)-k:=jo fZ fZ ;clear HT;go_enter func138,ntmps138;go_wp2_with fail;refine CI.out.mono ?_;rintro e w1 ⟨rfl,hdr⟩;have qY:=af hdr;clear hdr CI;go_wp2;go_ret3;exact⟨by rw[HR.out];rfl,qY.out⟩
   ·have HR:Hid (r=((s.data.toList.drop k).take n,k+n,0)):=by show _=_;rw[HT.out,if_neg gu ,if_neg hn,if_neg hk]
    have hk1:¬(s.size:Int)-k<n:=by omega
    have hw:IntKind.i64.wrap ((s.size:Int)-k)=(s.size:Int)-k:=jo fZ fZ ;have hz1:IntKind.i64.wrap ((k:Int)+n)=((k+n:Nat):Int):=by rw[jo fZ fZ ];omega
    have HX:=af (pU s (o:=k) (l:=n) fZ );have hle:k+n≤s.size:=by omega
    clear HT;go_enter func138,ntmps138;go_wp2_with fail;refine CI.out.mono ?_;rintro e w1 ⟨rfl,hdr⟩;have qY:=af hdr;clear hdr CI;go_wp2;go_ret3;exact⟨by rw[HR.out];unfold gT;rw[←HX.out];rfl,qY.out⟩
 ·have HR:Hid (r=([],0,e0)):=by show _=_;rw[HT.out,if_pos he]
  have hne:(e0 != 0)=true:=by simpa using he
  clear HT;go_enter func138,ntmps138;go_wp2_with fail;refine CI.out.mono ?_;rintro e w1 ⟨rfl,hdr⟩;have qY:=af hdr;clear hdr CI;go_wp2;go_ret3;exact⟨by rw[HR.out];rfl,qY.out⟩
end Go.Proofs.YtichfhpgdhdiaaaGreat
namespace Go.Proofs.YtichfhpgdhdiaaaGreat
open Go.RowKit
def vY(w:World)(v:Value)(l:List (List UInt8)):Prop:=Strs w v (l.map fu)
theorem vY.keep{w w':World}{v:Value}{l:List (List UInt8)}(h:vY w v l)(k:Keeps w w'):vY w' v l:=Strs.keep h k
theorem vY.form{w:World}{v:Value}{l:List (List UInt8)}(h:vY w v l):∃A c,v=.slice A l.length c∧l.length≤c∧c≤9223372036854775807:=by
 have:=Strs.form h;rwa [cZ]at this
theorem vY.nil(w:World):vY w (.slice none 0 0) []:=Sl.nil _ _ _
theorem vY.get{w:World}{l:List (List UInt8)}{A:Option Addr}{c n:Nat}(h:vY w (.slice A n c) l){i:Nat}{t:List UInt8}(hi:l[i]?=some t):∃b off,A=some ⟨b,off,none⟩∧w.cell? ⟨b,off+i,none⟩=some (.string (fu t)):=by
 obtain⟨hlt,rfl⟩:=ay.1 hi;obtain⟨b,off,e,hc⟩:=Strs.get h (i:=i) (by rw[cZ];exact hlt);rw[List.getElem_map]at hc;exact⟨b,off,e,hc⟩
def Fu(t:List UInt8):List Value:=[.string (fu t)]
theorem JH:∀l:List (List UInt8),jF 1 RG (l.map fu) (l.flatMap Fu)
 |[]=>rfl
 |t::l=>⟨Fu t,l.flatMap Fu,by rw[aG],rfl,rfl,JH l⟩
theorem yX{w:World}{B:Nat}{v:Value}{l:List (List UInt8)}(h:w.ownsRow B 9 1 v l.length (l.flatMap Fu)):vY w v l:=by
 have:Ow w B 9 1 RG v (l.map fu):=⟨l.flatMap Fu,by rw[cZ];exact h,JH l⟩;exact this.sl
theorem Tryz.Hy:(Tryz.prog.info? 9).map (fun i=>(i.zero,i.size,i.bytes))=some (some (.string ⟨#[]⟩),1,16):=by kernel_rfl
theorem Wd(l:List (List UInt8))(t:List UInt8):(l++[t]).flatMap Fu=l.flatMap Fu++[.string (fu t)]:=by simp[Fu]
def OD(f:FuncId):Value:=.func (.func f) #[] #[]
theorem JI(s:ByteArray)(k:Nat)(hk:k≤s.size)(hs:s.size≤1000000000000)(w:World):Calls prog 169 #[.string s,.int .i64 k,OD 118] w fun e w' =>
  e=gI ((gX (s.data.toList.drop k)).1,k+(gX (s.data.toList.drop k)).2.1,(gX (s.data.toList.drop k)).2.2)∧w'=w:=by
 have CI:=lH (s.extract k s.size) w;rw[pV]at CI;obtain⟨b1,b2⟩:=pQ (s.data.toList.drop k);rw[aC,show s.data.toList.length=s.size from rfl]at b2;generalize gX (s.data.toList.drop k)=q at *;obtain⟨n,c,e0⟩:=q;simp only at b1 b2 CI ⊢;unfold gI at CI ⊢;simp only at CI ⊢;have Aa:=af CI;have c1:(0:Int)≤(k:Int):=by omega
 have c2:(k:Int)≤(s.size:Int):=by omega
 have hz:IntKind.i64.wrap ((k:Int)+c)=((k+c:Nat):Int):=by rw[jo fZ fZ ];omega
 clear CI;unfold OD;go_enter func169,ntmps169;go_wp2_with fail;refine Aa.out.mono ?_;rintro e w1 ⟨rfl,rfl⟩;go_wp2;go_ret3;exact⟨rfl,rfl⟩
theorem JJ(s:ByteArray)(k:Nat)(hk:k≤s.size)(hs:s.size≤1000000000000)(w:World):Calls prog 170 #[.string s,.int .i64 k,OD 128] w fun e w' =>
  e=gT ((ji (s.data.toList.drop k)).1,k+(ji (s.data.toList.drop k)).2.1,(ji (s.data.toList.drop k)).2.2)∧w'=w:=by
 have CI:=pW (s.extract k s.size) w (by rw[bJ];omega);rw[pV]at CI;have b2:(ji (s.data.toList.drop k)).2.1≤(s.data.toList.drop k).length:=by
  rcases yY (s.data.toList.drop k)with h|h|h
  ·have e:ji (s.data.toList.drop k)=((ji (s.data.toList.drop k)).1,(ji (s.data.toList.drop k)).2.1,0):=by rw[←h]
   obtain⟨_,g2,g3⟩:=qZ e;have:=congrArg List.length g3;rw[aj]at this;omega
  ·rw[h];simp
  ·rw[h];simp
 rw[aC,show s.data.toList.length=s.size from rfl]at b2;generalize ji (s.data.toList.drop k)=q at *;obtain⟨n,c,e0⟩:=q;simp only at b2 CI ⊢;unfold gT at CI ⊢;simp only at CI ⊢;have Aa:=af CI;have c1:(0:Int)≤(k:Int):=by omega
 have c2:(k:Int)≤(s.size:Int):=by omega
 have hz:IntKind.i64.wrap ((k:Int)+c)=((k+c:Nat):Int):=by rw[jo fZ fZ ];omega
 clear CI;unfold OD;go_enter func170,ntmps170;go_wp2_with fail;refine Aa.out.mono ?_;rintro e w1 ⟨rfl,rfl⟩;go_wp2;go_ret3;exact⟨rfl,rfl⟩
def OE(r:List (List UInt8)×Nat×Int)(w0:World)(e:Ending)(w:World):Prop:=∃v,e=.returned (.tuple #[v,.int .i64 (r.2.1:Int),.int .i64 r.2.2])∧vY w v r.1∧Below w0.heap.size w0 w
theorem OE.nil{k:Int}{w0 w:World}(h:Below w0.heap.size w0 w):OE ([],0,k) w0 (.returned (.tuple #[.slice none 0 0,.int .i64 0,.int .i64 k])) w:=⟨_,rfl,vY.nil _,h⟩
def Wh(s:List UInt8)(m at_:Nat)(l:List (List UInt8))(R:List (List UInt8)×Nat×Int):Prop:=q9 s m at_ l=R
theorem Wh.step{s:List UInt8}{m at_:Nat}{l:List (List UInt8)}{R:List (List UInt8)×Nat×Int}(h:Wh s (m+1) at_ l R):
  (if (ji (s.drop at_)).2.2≠0 then([],0,(ji (s.drop at_)).2.2)else q9 s m (at_+(ji (s.drop at_)).2.1) (l++[(ji (s.drop at_)).1]))=R:=h
theorem Wi(s:List UInt8):(ji s).1.length≤65536∧(ji s).2.1≤s.length∧((ji s).2.2=0→1≤(ji s).2.1):=by
 rcases yY s with h|h|h
 ·have e:ji s=((ji s).1,(ji s).2.1,0):=by rw[←h]
  obtain⟨g1,g2,g3⟩:=qZ e;have:=congrArg List.length g3;rw[aj]at this;have hp:=nA (ji s).1.length;rw[aj]at g2;exact⟨g1,by rw[aj]at this;omega,fun _=>by omega⟩
 ·rw[h];simp
 ·rw[h];simp
theorem Hz(s:ByteArray)(w:World)(hs:s.size≤100000000):Calls prog 158 #[.string s] w (OE (qz s.data.toList) w):=by
 obtain⟨i1,hi1,hy0,hy1,hy2⟩:=info_parts Tryz.Hy;have CI:=JI s 0 fZ fZ w;rw[dY]at CI;have HL:Hid (s.data.toList.length=s.size):=rfl;obtain⟨b1,b2⟩:=pQ s.data.toList;rw[HL.out]at b2;have HX:Hid (qz s.data.toList=if (gX s.data.toList).2.2≠0 then([],0,(gX s.data.toList).2.2)else if 1000<(gX s.data.toList).1 then([],0,13)else q9 s.data.toList (gX s.data.toList).1 (gX s.data.toList).2.1 []):=rfl;generalize qz s.data.toList=r at *;generalize gX s.data.toList=q at *;obtain⟨n,k0,e0⟩:=q;simp only[bH]at HX b1 b2 CI;unfold gI at CI;simp only at CI
 have Aa:=af CI;clear CI;unfold OD at Aa;by_cases he:e0=0
 ·subst he;by_cases hn:1000<n
  ·have HR:Hid (OE r w (.returned (.tuple #[.slice none 0 0,.int .i64 0,.int .i64 13])) w):=by
    show OE _ _ _ _;rw[HX.out,if_neg gu ,if_pos hn];exact OE.nil gD
   have hn1:(1000:Int)<(n:Int):=by omega
   clear HX;go_enter func158,ntmps158;go_wp2_with fail;refine Aa.out.mono ?_;rintro e w1 ⟨rfl,rfl⟩;go_wp2;go_ret3;exact HR.out
  ·have hn1:¬(1000:Int)<(n:Int):=by omega
   have HC0:Hid (Wh s.data.toList (n-0) k0 [] r):=by
    show Wh _ _ _ _ _;unfold Wh;rw[HX.out,if_neg gu ,if_neg hn];rfl
   clear HX;go_enter func158,ntmps158;go_wp2_with fail;refine Aa.out.mono ?_;rintro e w1 ⟨rfl,rfl⟩;clear Aa;go_wp2;go_loopw [6,8,22] (fun ai vl ii wr=>∃(k at_:Nat) (l:List (List UInt8)),k≤n∧at_≤s.size∧l.length≤k∧ii=.int .i64 k∧ai=.int .i64 at_∧wr.ownsRow w1.heap.size 9 1 vl l.length (l.flatMap Fu)∧Hid (Wh s.data.toList (n-k) at_ l r)∧Below w1.heap.size w1 wr) (fun _ _ ii _=>n-(intOf ii).toNat)
   case atStart=>exact⟨0,k0,[],by omega,b2,by simp,rfl,rfl,World.ownsRow_nil _ _ _ _,HC0,ah _ _⟩
   case round =>
    clear HC0 b2;obtain⟨k,at_,l,hk,hat,hll,rfl,rfl,hown,HC,hbw⟩:=hrel;have hsz:=hbw.size;by_cases hlt:k<n
    ·have CO:=JJ s at_ hat fZ wr;have HD:=af (Wh.step (show Wh s.data.toList ((n-(k+1))+1) at_ l r by rw[show (n-(k+1))+1=n-k by omega];exact HC.out));obtain⟨x1,x2,x3⟩:=Wi (s.data.toList.drop at_);rw[aC,HL.out]at x2;generalize ji (s.data.toList.drop at_)=q at *;obtain⟨t,c,e1⟩:=q;simp only at HD x1 x2 x3 CO;unfold gT at CO;simp only at CO;have Wj:=af CO;have HO:=af hown;have HB:=af hbw;unfold OD at Wj;clear CO HC hbw hown;by_cases he1:e1=0
     ·subst he1;have HD2:Hid (Wh s.data.toList (n-(k+1)) (at_+c) (l++[t]) r):=by
       show q9 _ _ _ _=_;rw[←HD.out,if_neg gu ]
      have hac:at_+c≤s.size:=by omega
      clear HD x3;go_wp2_with fail;refine Wj.out.mono ?_;rintro e w2 ⟨rfl,rfl⟩;simp only;clear Wj;go_wp2_with (at_builtin;go_must (refine iE _ rfl (.tmp 34) (.tmp 36) _ rfl w1.heap.size 9 i1 _ 1 16 underlying53 hi1 hy0 hy1 hy2 rfl fZ u8 l.length _ rfl (HO.out.alloc _) _ 1 1 [.string (fu t)] rfl rfl (gY _ _ _ _) (by simp[Value.oneCell']) fZ fZ (by simp;omega) ?_;intro v4 w4 iU jl rT));have Fv:Hid (w4.ownsRow w1.heap.size 9 1 v4 (l++[t]).length ((l++[t]).flatMap Fu)):=by
       show World.ownsRow _ _ _ _ _ _ _;rw[Wd,aj,aQ];exact iU
      have kY:=af ((HB.out.alloc hsz (.cells #[.string (fu t)] 9)).grown jl (by simp;omega) (fun g h=>(HO.out.lt g h).1));clear iU jl rT HO HB;go_wp2;go_roundw
      case rel=>exact⟨k+1,at_+c,l++[t],by omega,hac,by rw[aj,aQ];omega,by go_num,by go_num,Fv.out,HD2,kY.out⟩
      case measure=>simp[intOf];omega
     ·have HE:Hid (OE r w1 (.returned (.tuple #[.slice none 0 0,.int .i64 0,.int .i64 e1])) wr):=by
       show OE _ _ _ _;rw[←HD.out,if_pos he1];exact OE.nil HB.out
      have hne:(e1 != 0)=true:=by simpa using he1
      clear HD HO HB x3 he1;go_wp2_with fail;refine Wj.out.mono ?_;rintro e w2 ⟨rfl,rfl⟩;simp only;clear Wj;go_wp2;go_ret3;exact HE.out
    ·have hkn:k=n:=by omega
     subst hkn;rw[Nat.sub_self]at HC;have HE:Hid (OE r w1 (.returned (.tuple #[u8,.int .i64 at_,.int .i64 0])) wr):=by
      show OE _ _ _ _;rw[←show (l,at_,(0:Int))=r from HC.out];exact⟨_,rfl,yX hown,hbw⟩
     clear HC hbw hown;go_wp2;go_ret3;exact HE.out
 ·have HR:Hid (OE r w (.returned (.tuple #[.slice none 0 0,.int .i64 0,.int .i64 e0])) w):=by
   show OE _ _ _ _;rw[HX.out,if_pos he];exact OE.nil gD
  have hne:(e0 != 0)=true:=by simpa using he
  clear HX;go_enter func158,ntmps158;go_wp2_with fail;refine Aa.out.mono ?_;rintro e w1 ⟨rfl,rfl⟩;go_wp2;go_ret3;exact HR.out
end Go.Proofs.YtichfhpgdhdiaaaGreat
namespace Go.Proofs.YtichfhpgdhdiaaaGreat
open Go.RowKit
theorem JK:∀m:List iX,(∀x∈m,x.length≤65536)→(m.flatMap jL).length≤m.length*65542
 |[],_=>by simp
 |x::m,hm=>by
  have h1:=JK m fun y hy=>hm y (by simp[hy])
  have h2:=hm x gu ;have h3:=ja x.length 5 fZ ;rw[aG,aj,aI];have h4:(jL x).length=(gJ x.length).length+x.length:=by unfold jL;rw[aj]
  omega
def yZ(l:List iX)(k:Nat):iX:=gJ l.length++(l.take k).flatMap jL
theorem RL{l:List iX}(h:rU l)(k:Nat):(yZ l k).length≤100000000:=by
 have h1:=JK (l.take k) fun x hx=>h.2 x (dZ hx)
 have h2:=ja l.length 5 (by have:=h.1;omega);have h3:(l.take k).length≤1000:=by rw[aH];have:=h.1;omega
 unfold yZ;rw[aj];have:(l.take k).length*65542≤1000*65542:=bT _ h3;omega
theorem PW{l:List iX}{k:Nat}(hk:k<l.length):yZ l (k+1)=(yZ l k++gJ l[k].length)++l[k]:=by
 unfold yZ;rw[aN hk,aZ];simp[jL,aA]
theorem RN(l:List iX):yZ l l.length=jB l:=by
 unfold yZ jB;rw[bG]
theorem H7(w:World)(A:Option Addr)(c:Nat)(l:List iX)(h:vY w (.slice A l.length c) l):
  Calls prog 95 #[.slice A l.length c] w fun e w'=>e=.returned (.tuple #[.string (fu (nW l).1),.int .i64 (nW l).2])∧Below w.heap.size w w':=by
 obtain⟨A',c',e0,hc,hm⟩:=h.form;cases e0;by_cases h0:1000<l.length
 ·have hp:nW l=([],4):=if_pos (.inl h0);rw[hp];have h1:(1000:Int)<(l.length:Int):=by omega
  clear hp;go_enter func95,ntmps95;go_wp2;go_ret2;exact⟨rfl,ah _ _⟩
 ·have h1:¬(1000:Int)<(l.length:Int):=by omega
  have HP:Hid (nW l=if 1000<l.length∨¬∀t∈l,t.length≤65536 then([],4)else(jB l,0)):=rfl;generalize nW l=R at *;go_enter func95,ntmps95;go_wp2;go_loop [14] (fun t=>∃k:Nat,k≤l.length∧t=.int .i64 k∧Hid (∀x∈l.take k,x.length≤65536)) (fun t=>l.length-(intOf t).toNat)
  case atStart=>exact⟨0,by omega,rfl,fun x hx=>by simp at hx⟩
  case round =>
   obtain⟨k,hk,rfl,HK⟩:=hrel;by_cases hlt:k<l.length
   ·obtain⟨b,off,rfl,a1⟩:=h.get (au hlt);have hz:=gL l[k];by_cases hb:l[k].length≤65536
    ·have lG:Hid (∀x∈l.take (k+1),x.length≤65536):=by
      show ∀x∈_,_;rw[aN hlt];intro x hx;rcases bq.1 hx with hx|hx
      ·exact HK.out x hx
      ·rw[dw.1 hx];exact hb
     generalize l[k]=t at *;have hb2:¬(65536:Int)<((fu t).size:Int):=by rw[hz];omega
     generalize fu t=s at *;clear HK hz;go_wp2;go_round
     case rel=>exact⟨k+1,by omega,by go_num,lG⟩
     case measure=>simp[intOf];omega
    ·have HR:Hid (R=([],4)):=by
      show _=_;rw[HP.out,if_pos (.inr fun hh=>hb (hh _ (dA hlt)))]
     generalize l[k]=t at *;have hb2:(65536:Int)<((fu t).size:Int):=by rw[hz];omega
     generalize fu t=s at *;clear HK HP hz;go_wp2;go_ret2;exact⟨by rw[HR.out];rfl,ah _ _⟩
   ·have hkn:k=l.length:=by omega
    subst hkn;have HOk:Hid (rU l):=⟨by omega,by have:=HK.out;rwa [bG]at this⟩;have HR:Hid (R=(jB l,0)):=by
     show _=_;rw[HP.out,if_neg (by rintro(hh|hh);exact h0 hh;exact hh HOk.out.2)]
    clear HK HP;have CW:=af (qF (w.alloc (.cells #[.pointer none,.slice none 0 0] 122)) w.heap.size w.heap.size [] l.length fZ (sH.new w gF) gu gu );have K1:=af ((ah w.heap.size w).alloc (ak _) (.cells #[.pointer none,.slice none 0 0] 122));go_wp2_with fail;refine CW.out.mono ?_;rintro e w2 ⟨rfl,hbl⟩;have K2:=af (K1.out.trans hbl.jM);have HB2:Hid (sH w.heap.size w.heap.size (yZ l 0) w2):=by
     have:=hbl.rQ;show sH _ _ _ _;have e1:yZ l 0 = []++gJ l.length:=by simp[yZ]
     rw[e1];exact this
    clear hbl CW K1;go_wp2;go_loopw [27] (fun t wr=>∃k:Nat,k≤l.length∧t=.int .i64 k∧Hid (sH w.heap.size w.heap.size (yZ l k) wr)∧Below w.heap.size w wr) (fun t _=>l.length-(intOf t).toNat)
    case atStart=>exact⟨0,by omega,rfl,HB2,K2.out⟩
    case round =>
     clear HB2 K2;obtain⟨k,hk,rfl,HB,hbw⟩:=hrel;have HW:=af hbw;have hsz:=hbw.size;have hpl:=RL HOk.out k;by_cases hlt:k<l.length
     ·have hr:=h.keep (dO hbw);obtain⟨b,off,rfl,a1⟩:=hr.get (au hlt);have hz:=gL l[k];have ht:=HOk.out.2 _ (dA hlt);have HS:=af (PW hlt);have hdl:=ja l[k].length 5 fZ ;generalize l[k]=t at *;have CW:=af (qF wr w.heap.size w.heap.size (yZ l k) t.length fZ HB.out hsz fZ );have HZ:=af hz;have hz':((fu t).size:Int)=(t.length:Int):=by rw[hz]
      clear hbw HB hr hz;go_wp2_with fail;refine CW.out.mono ?_;rintro e w3 ⟨rfl,hb3⟩;have CS:=af (qV w.heap.size w.heap.size (yZ l k++gJ t.length) (fu t) w3 hb3.rQ (by rw[aj,HZ.out];omega) (by have:=hb3.jM.size;omega));have K3:=af (HW.out.trans hb3.jM);clear CW hb3 HW;go_wp2_with fail;refine CS.out.mono ?_;rintro e w4 ⟨rfl,hb4,hB4,_⟩;have K4:=af (K3.out.trans hB4);have kY:Hid (sH w.heap.size w.heap.size (yZ l (k+1)) w4):=by
       show sH _ _ _ _;rw[HS.out];rwa [iI]at hb4
      clear CS K3 hb4 hB4 HS;go_wp2;go_roundw
      case rel=>exact⟨k+1,by omega,by go_num,kY,K4.out⟩
      case measure=>simp[intOf];omega
     ·have hkn:k=l.length:=by omega
      subst hkn;have CT:=af (tQ w.heap.size w.heap.size _ wr HB.out hsz);clear hbw HB;go_wp2_with fail;refine CT.out.mono ?_;rintro e w4 ⟨rfl,_,hb4,_⟩;have K4:=af (HW.out.trans hb4);have HS:=af (RN l);clear CT hb4 HW;go_wp2;go_ret2;exact⟨by rw[HR.out,HS.out];rfl,K4.out⟩
end Go.Proofs.YtichfhpgdhdiaaaGreat
