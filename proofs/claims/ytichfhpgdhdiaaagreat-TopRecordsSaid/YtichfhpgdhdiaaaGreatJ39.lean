/- Objects -/
import Derived.Test.YtichfhpgdhdiaaaGreatJ38
import Derived.Lib.AppendStr
import Derived.Test.YtichfhpgdhdiaaaGreatJ32
import Derived.Test.YtichfhpgdhdiaaaGreatJ3
set_option maxRecDepth 100000
set_option maxHeartbeats 8000000
set_option linter.unusedVariables false
set_option linter.unusedSimpArgs false
open Go.Proofs.Tryz
namespace Go.Proofs.YtichfhpgdhdiaaaGreat
open Go.RowKit
def Oa(l:List UInt8):List Value:=l.map fun b=>Value.int .u8 (b.toNat:Int)
theorem rJ(l m:List UInt8):Oa (l++m)=Oa l++Oa m:=eG
theorem zZ(l:List UInt8):Lib.strCells (fu l)=Oa l:=by unfold Lib.strCells Oa;rw[iI]
structure Fp(g:Nat)(w w':World):Prop where
 jM:Below g w w'
 keep:∀q t cs,t≠5→q≠g→gV w q t cs→gV w' q t cs
section
variable {g:Nat}{w w' w'':World}
theorem Fp.refl(g:Nat)(w:World):Fp g w w:=⟨ah _ _,fun _ _ _ _ _ h=>h⟩
theorem Fp.trans(h:Fp g w w')(k:Fp g w' w''):Fp g w w'':=⟨h.jM.trans k.jM,fun q t cs h1 h2 x=>k.keep q t cs h1 h2 (h.keep q t cs h1 h2 x)⟩
theorem nI(h:Below w.heap.size w w')(hg:g≤w.heap.size):Fp g w w':=⟨h.mono hg,fun _ _ _ _ _ x=>x.keep h⟩
theorem Fp.set(hg:g<w.heap.size)(j:Nat)(u:Value):Fp g w (w.setCell ⟨g,j,none⟩ u) :=
 ⟨(ah g w).grown (gG w g j u) fZ (fun q e=>by cases e;omega),fun q t cs _ h2 x=>x.grown (gG w g j u) (by intro e;injection e with e;exact h2 e)⟩
theorem Fp.grown{B n:Nat}{v:Value}{xs:List Value}(ho:w.ownsRow B 5 1 v n xs)(hg:w.grownBy w' v.ownBlock)(hB:g<B)(hs:g≤w.heap.size:=by omega):Fp g w w' :=
 ⟨(ah g w).grown hg hs (fun q e=>by have:=(ho.lt q e).1;omega),fun q t cs h1 h2 x=>x.grown hg fun e=>ig ho x (fun e2=>h1 e2.symm) e.symm⟩
end
def Wr(g:Nat)(l:List UInt8)(w:World):Prop:=g<w.heap.size∧∃A c,gV w g 153 #[.slice A l.length c,.bool false]∧w.ownsRow (g+1) 5 1 (.slice A l.length c) l.length (Oa l)
theorem Wr.mk{g:Nat}{l:List UInt8}{w:World}{A:Option Addr}{c:Nat}(h1:g<w.heap.size)(h2:gV w g 153 #[.slice A l.length c,.bool false])(h3:w.ownsRow (g+1) 5 1 (.slice A l.length c) l.length (Oa l)):Wr g l w:=⟨h1,A,c,h2,h3⟩
theorem Wr.keep{g:Nat}{l:List UInt8}{w w':World}(h:Wr g l w)(k:Below w.heap.size w w'):Wr g l w':=by
 obtain⟨h1,A,c,h2,h3⟩:=h;exact⟨bM h1 k.size,A,c,h2.keep k,h3.kept (iF k) (by cases Value.ownBlock (.slice A l.length c)<;>simp)⟩
theorem iD(w:World)(a:Addr)(u:Value):(w.setCell a u).heap.size=w.heap.size:=by simp
def WrE(g:Nat)(l:List UInt8)(w0:World)(e:Ending)(w:World):Prop:=e=.returned (.tuple #[])∧Wr g l w∧Fp g w0 w
theorem tC(w:World)(g:Nat)(l:List UInt8)(n:Int)(h:Wr g l w)(h0:0≤n)(h1:n≤1099511627776)(hl:l.length≤1000000):
  Calls prog 70 #[.pointer (some ⟨g,0,none⟩),.int .i64 n] w (WrE g (l++gJ n.toNat) w):=by
 obtain⟨i0,hi,hz0,hz1,hz2⟩:=info_parts Tryz.uY;obtain⟨hgl,A,c,hB,hR0⟩:=h;have CP:=tT n w;have Rn:(gJ n.toNat).length≤65542:=by have:=kX n;rw[oC h0 h1]at this;omega
 rw[oC h0 h1,show (jc n).2=0 by unfold jc;rw[if_pos ⟨h0,h1⟩]]at CP;generalize hT:gJ n.toNat=T at *;have HTL:=Rn;clear hT Rn;have CP:=af CP;have q0:=hB.cl 0;have q1:=hB.cl 1;have HB:=af hB;have HR:=af hR0;clear hB hR0;have hsz:(fu T).size=T.length:=gL _;go_enter func70,ntmps70;go_wp2_with fail;refine CP.out.mono ?_;rintro e w1 ⟨rfl,hb⟩;have hB1:=HB.out.keep hb;have Jc:=HR.out.kept (iF hb) (by cases Value.ownBlock (.slice A l.length c)<;>simp);have Ve:=bM hgl hb.size;have xC:=af (nI (g:=g) hb fZ )
 clear q0 q1 HB HR CP hb;have q0:=hB1.cl 0;have q1:=hB1.cl 1;obtain⟨f0,f1⟩:=JO hB1;have hB2:=hB1.set 1 (.bool false);have hR2:=Jc.kept (gG w1 g 1 (.bool false)) (.inr (fun e=>by have:=(Jc.lt _ e).1;omega));have Cj:=af (xC.out.trans (Fp.set (w:=w1) (g:=g) Ve 1 (.bool false)));have hg2:g<(w1.setCell ⟨g,1,none⟩ (.bool false)).heap.size:=by simpa using Ve
 go_upto_region 2 with (fail);clear q0 q1 f0 f1 xC hB1 Jc;generalize w1.setCell ⟨g,1,none⟩ (.bool false)=w2 at *;have HB:=af hB2;have HR:=af hR2;clear hB2 hR2;have q0:w2.cell? ⟨g,0,none⟩=some (.slice A l.length c):=HB.out.cl 0;go_wp2_with (at_builtin;go_must (refine Lib.wpList_append_own_string _ rfl _ _ 120 9 rfl (g+1) 5 i0 underlying120 underlying9 hi hz0 hz1 hz2 _ _ _ rfl HR.out (fu T) rfl ?c3 ?c4 ?c5 ?_))
 case c3=>unfold maxLen;rw[hsz];omega
 case c4=>rw[hsz];omega
 case c5=>omega
 intro v4 w4 iU jl _;rw[zZ]at iU;obtain⟨A4,c4,rfl⟩:=iw iU;have hne:=ig HR.out HB.out gm ;have hB4:=HB.out.grown jl hne.symm;have p0:=hB4.cl 0;have p1:=hB4.frozen 0;have BK:=hB4.set 0 (.slice A4 (l.length+T.length) c4);have hown5:=iU.kept (gG w4 g 0 (.slice A4 (l.length+T.length) c4)) (.inr (ig iU hB4 gm ));have VN:=af ((Cj.out.trans (Fp.grown HR.out jl fZ )).trans (Fp.set (w:=w4) (g:=g) (bM hg2 jl.size) 0 (.slice A4 (l.length+T.length) c4)));have QX:=af (Wr.mk (g:=g) (l:=l++T) (w:=w4.setCell ⟨g,0,none⟩ (.slice A4 (l.length+T.length) c4)) (A:=A4) (c:=c4) (by have:=bM hg2 jl.size;simpa using this) (by rw[aj];exact BK) (by rw[aj,rJ];exact hown5))
 have HE5:=af (show WrE g (l++T) w (.returned (.tuple #[])) _ from⟨rfl,QX.out,VN.out⟩);clear iU jl hne hB4 BK hown5 QX VN;go_wp2;exact bodyPost_end (results_none rfl _ _ _) rfl HE5.out
theorem tF(w:World)(g:Nat)(l:List UInt8)(s:List UInt8)(h:Wr g l w)(h0:s.length≤65536)(hl:l.length≤1000000):
  Calls prog 71 #[.pointer (some ⟨g,0,none⟩),.string (fu s)] w (WrE g (l++(gJ s.length++s)) w):=by
 obtain⟨i0,hi,hz0,hz1,hz2⟩:=info_parts Tryz.uY;obtain⟨hgl,A,c,hB,hR0⟩:=h;have CP:=BJ s w;have Rn:(gJ s.length++s).length≤65542:=by have:=pY s;rw[H8 h0]at this;exact this
 rw[H8 h0,show (jP s).2=0 by unfold jP;rw[if_pos h0]]at CP;generalize hT:(gJ s.length++s)=T at *;have HTL:=Rn;clear hT Rn;have CP:=af CP;have q0:=hB.cl 0;have q1:=hB.cl 1;have HB:=af hB;have HR:=af hR0;clear hB hR0;have hsz:(fu T).size=T.length:=gL _;go_enter func71,ntmps71;go_wp2_with fail;refine CP.out.mono ?_;rintro e w1 ⟨rfl,hb⟩;have hB1:=HB.out.keep hb;have Jc:=HR.out.kept (iF hb) (by cases Value.ownBlock (.slice A l.length c)<;>simp);have Ve:=bM hgl hb.size;have xC:=af (nI (g:=g) hb fZ )
 clear q0 q1 HB HR CP hb;have q0:=hB1.cl 0;have q1:=hB1.cl 1;obtain⟨f0,f1⟩:=JO hB1;have hB2:=hB1.set 1 (.bool false);have hR2:=Jc.kept (gG w1 g 1 (.bool false)) (.inr (fun e=>by have:=(Jc.lt _ e).1;omega));have Cj:=af (xC.out.trans (Fp.set (w:=w1) (g:=g) Ve 1 (.bool false)));have hg2:g<(w1.setCell ⟨g,1,none⟩ (.bool false)).heap.size:=by simpa using Ve
 go_upto_region 2 with (fail);clear q0 q1 f0 f1 xC hB1 Jc;generalize w1.setCell ⟨g,1,none⟩ (.bool false)=w2 at *;have HB:=af hB2;have HR:=af hR2;clear hB2 hR2;have q0:w2.cell? ⟨g,0,none⟩=some (.slice A l.length c):=HB.out.cl 0;go_wp2_with (at_builtin;go_must (refine Lib.wpList_append_own_string _ rfl _ _ 120 9 rfl (g+1) 5 i0 underlying120 underlying9 hi hz0 hz1 hz2 _ _ _ rfl HR.out (fu T) rfl ?c3 ?c4 ?c5 ?_))
 case c3=>unfold maxLen;rw[hsz];omega
 case c4=>rw[hsz];omega
 case c5=>omega
 intro v4 w4 iU jl _;rw[zZ]at iU;obtain⟨A4,c4,rfl⟩:=iw iU;have hne:=ig HR.out HB.out gm ;have hB4:=HB.out.grown jl hne.symm;have p0:=hB4.cl 0;have p1:=hB4.frozen 0;have BK:=hB4.set 0 (.slice A4 (l.length+T.length) c4);have hown5:=iU.kept (gG w4 g 0 (.slice A4 (l.length+T.length) c4)) (.inr (ig iU hB4 gm ));have VN:=af ((Cj.out.trans (Fp.grown HR.out jl fZ )).trans (Fp.set (w:=w4) (g:=g) (bM hg2 jl.size) 0 (.slice A4 (l.length+T.length) c4)));have QX:=af (Wr.mk (g:=g) (l:=l++T) (w:=w4.setCell ⟨g,0,none⟩ (.slice A4 (l.length+T.length) c4)) (A:=A4) (c:=c4) (by have:=bM hg2 jl.size;simpa using this) (by rw[aj];exact BK) (by rw[aj,rJ];exact hown5))
 have HE5:=af (show WrE g (l++T) w (.returned (.tuple #[])) _ from⟨rfl,QX.out,VN.out⟩);clear iU jl hne hB4 BK hown5 QX VN;go_wp2;exact bodyPost_end (results_none rfl _ _ _) rfl HE5.out
end Go.Proofs.YtichfhpgdhdiaaaGreat
namespace Go.Proofs.YtichfhpgdhdiaaaGreat
open Go.RowKit
theorem Co{P:Program}(w:World){ops:Array Oper}{rest:List Oper}{o:Oper}{a:Go.Act}{Q:Exit→Go.Act→World→Prop}(hgd:o.guard=none)(l c:Operand)(t:TypeId)(hop:o.op=Op.makeSlice t l c)(e:TypeId)(i:TypeInfo)(z:Value)(h1:P.underlying t=some (.slice e))(h2:P.info? e=some i)(h3:i.zero=some z)(h4:i.size=1)(hz:z.cells=#[z])(kl kc:IntKind)(L C:Int)(m n:Nat)(hl:a.eval l=.int kl L)(hc:a.eval c=.int kc C)(hL:L=(m:Int))(hC:C=(n:Int))(hmn:m≤n)(b2:i.bytes*n≤281474976710656)(b3:n≤9223372036854775807)(hK:∀g w',w.heap.size≤g→gV w' g e (Array.replicate n z)→Below w.heap.size w w'→wpList P ops Q rest (a.put o.dst (.slice (some ⟨g,0,none⟩) m n)) w'):
  wpList P ops Q (o::rest) a w:=by
 refine wpList_plain hgd fun K hK'=>?_
 subst hL;subst hC;have hb:(i.bytes:Int)*(n:Int)≤281474976710656:=by
  have h:((i.bytes*n:Nat):Int)≤281474976710656:=by omega
  rwa [eH]at h
 have hrun:=run_make (P:=P) w t e i z h1 h2 h3 kl kc m n fZ fZ hb fZ ;simp only[aT,h4,Nat.mul_one]at hrun;rw[xO hz]at hrun;unfold Oper.wp;simp[execOp,hop,hl,hc,hrun,Result.andThen];exact hK' _ _ (hK _ _ (ak _) (gV.new _ _ _) ((ah _ _).alloc (ak _) _))
theorem Pp(n j:Nat)(hj:j<8):(Nq n)[j]?=some (UInt8.ofNat (n/2^(56-8*j))):=by
 have:j=0∨j=1∨j=2∨j=3∨j=4∨j=5∨j=6∨j=7:=by omega
 rcases this with rfl|rfl|rfl|rfl|rfl|rfl|rfl|rfl<;>simp[Nq]
theorem Ia(d:Dg)(i j:Nat)(hi:i<2)(hj:j<8):(jb d)[8*i+j]?=some (UInt8.ofNat (wd d i/2^(56-8*j))):=by
 have:i=0∨i=1:=by omega
 rcases this with rfl|rfl
 ·show (Nq d.1.toNat++Nq d.2.toNat)[8*0+j]?=_;rw[Nat.mul_zero,bH,aY (by show j<8;omega),Pp _ _ hj];rfl
 ·show (Nq d.1.toNat++Nq d.2.toNat)[8*1+j]?=_;rw[bD (by show 8≤_;omega),show 8*1+j-(Nq d.1.toNat).length=j by show 8*1+j-8=j;omega,Pp _ _ hj];rfl
theorem LM(d:Dg)(i j:Nat)(hi:i<2)(hj:j<8):Oa ((jb d).take (8*i+j))++[.int .u8 ((UInt8.ofNat (wd d i/2^(56-8*j))).toNat:Int)]=Oa ((jb d).take (8*i+j+1)):=by
 rw[take_snoc' (Ia d i j hi hj),rJ];rfl
theorem vN{P:Program}(W:World)(src e dst:TypeId)(hs:P.underlying src=some (.slice e))(he:P.underlying e=some (.int .u8))(hd:P.underlying dst=some .string)(B:Nat)(v:Value)(l:List UInt8)(hl:0<l.length)(hb:W.ownsRow B e 1 v l.length (Oa l)):(convert src dst v).run P W=.ok (.string (fu l)) W:=by
 rcases id hb.2 with ⟨rfl,h0⟩|⟨g,cap,cur,rfl,_,hg,hnc,hcm,hsz,htk⟩
 ·omega
 ·exact run_convert_bytes_back (P:=P) W src dst e ⟨g,0,none⟩ cap l hs he hd fun j hj=>by
   have h1:=hb.cellAt j fZ ;rw[show ((⟨g,0,none⟩:Addr).add j)=⟨g,j,none⟩ by simp[Addr.add];omega];rw[h1];unfold Oa;simp[hj]
theorem YG(d:Dg)(i:Nat)(hi:i<2)(W:World):(Instr.index 39 (.agg #[.int .u64 (d.1.toNat:Int),.int .u64 (d.2.toNat:Int)]) (.int .i64 (i:Int))).run prog W=.ok (.int .u64 (wd d i:Int)) W:=by
 have u3:=underlying37;have a3:=isAgg37;have z3:=sizeOf37;have:i=0∨i=1:=by omega
 unfold Instr.index;rcases this with rfl|rfl
 ·simp only[Sem.run_bind,run_underlying underlying39,asIntOf,Sem.run_pure,Result.andThen_ok];go_simp;rfl
 ·simp only[Sem.run_bind,run_underlying underlying39,asIntOf,Sem.run_pure,Result.andThen_ok];go_simp;rfl
theorem vO(d:Dg)(w:World):Calls prog 59 #[lS d] w fun e w'=>e=.returned (.string (fu (jb d)))∧Below w.heap.size w w':=by
 obtain⟨i0,hi,hy0,hy1,hy2⟩:=info_parts Tryz.uY;have HK:=af ((ah w.heap.size w).alloc (ak _) (.cells #[.int .u64 (d.1.toNat:Int),.int .u64 (d.2.toNat:Int)] 39));have HB:=af (gV.new w #[.int .u64 (d.1.toNat:Int),.int .u64 (d.2.toNat:Int)] 39);have k0:=HB.out.cl 0;have k1:=HB.out.cl 1;unfold lS;go_enter func59,ntmps59;go_upto_region 1 with (fail);generalize w.alloc (.cells #[.int .u64 (d.1.toNat:Int),.int .u64 (d.2.toNat:Int)] 39)=w1 at *;go_wp2_with (at_make;refine Co _ rfl _ _ _ rfl 5 i0 (.int .u8 0) underlying120 hi hy0 hy1 rfl .i64 .i64 _ _ 0 16 rfl rfl fZ fZ fZ (by rw[hy2];omega) fZ ?_;intro g w2 hg hblk hbel;have k2:=(HB.out.keep hbel).cl 0;have k3:=(HB.out.keep hbel).cl 1)
 have HR:Hid (w2.ownsRow w1.heap.size 5 1 (.slice (some ⟨g,0,none⟩) 0 16) 0 (Oa ((jb d).take 0))):=(hblk.own (base:=w1.heap.size) hg (cap:=16) (sz:=1) (n:=0) gu (by unfold maxLen;omega) fZ );have hs2:=hbel.size;clear k0 k1 HB hblk;go_loopw [3,9] (fun tv iv wr=>∃(i:Nat) (A:Option Addr) (c:Nat),i≤2∧tv=.slice A (8*i) c∧iv=.int .i64 i∧Hid (wr.ownsRow w1.heap.size 5 1 (.slice A (8*i) c) (8*i) (Oa ((jb d).take (8*i))))∧Below w1.heap.size w1 wr) (fun _ iv _=>2-(intOf iv).toNat)
 case atStart=>exact⟨0,some ⟨g,0,none⟩,16,by omega,rfl,rfl,HR.out,hbel⟩
 case round =>
  clear HR k2 k3 hbel hs2;obtain⟨i,A,c,hi2,rfl,rfl,HR,hbw⟩:=hrel;by_cases hlt:i<2
  ·have hlt':(i:Int)<2:=by omega
   have hidx:=YG d i hlt wr;have o8:=af hbw;clear hbw;have HR1:=HR;clear HR;go_wp2;clear hidx;go_loopw [3,6] (fun tv sv wq=>∃(j:Nat) (A:Option Addr) (c:Nat),j≤8∧tv=.slice A (8*i+j) c∧sv=.int .i64 (56-8*(j:Int))∧Hid (wq.ownsRow w1.heap.size 5 1 (.slice A (8*i+j) c) (8*i+j) (Oa ((jb d).take (8*i+j))))∧Below w1.heap.size w1 wq) (fun _ sv _=>(intOf sv+8).toNat)
   case atStart=>exact⟨0,A,c,by omega,rfl,rfl,HR1.out,o8.out⟩
   case round =>
    clear HR1 o8;obtain⟨j,A,c,hj8,rfl,rfl,HR,hbw⟩:=hrel;have o8:=af hbw;by_cases hj:j<8
    ·obtain⟨s,hs⟩:∃s:Nat,s=56-8*j:=⟨_,rfl⟩;have hsi:56-8*(j:Int)=(s:Int):=by omega
     have hs0:(0:Int)≤(s:Int):=by omega
     have hw1:=hbw.size;rw[hsi];clear hbw;have hpos:8*i+j+1≤16:=by omega
     have hval:Hid ((wd d i:Int)/2^(56-8*j)%256=((UInt8.ofNat (wd d i/2^(56-8*j))).toNat:Int)):=by
      show _=_;rw[ofNat_mod]
      push_cast
      rfl
     have hal:=(ah wr.heap.size wr).alloc (ak _) (.cells #[.int .u8 ((wd d i:Int)/2^(56-8*j)%256)] 5);have HR2:=af (HR.out.kept (iF hal) (by cases Value.ownBlock (.slice A (8*i+j) c)<;>simp));have Rl:=af hal;clear hal;go_wp2_with (at_builtin;go_must (refine iE _ rfl _ _ 120 rfl w1.heap.size 5 i0 _ 1 1 underlying120 hi hy0 hy1 hy2 rfl fZ (.slice A (8*i+j) c) (8*i+j) _ rfl HR2.out _ 1 1 [.int .u8 ((wd d i:Int)/2^(56-8*j)%256)] rfl rfl (gY _ _ _ _) (by simp[Value.oneCell']) fZ fZ (by simp only[Go.World.size_alloc];omega) ?_;intro v4 w8 iU jl _;obtain⟨A4,c4,rfl⟩:=iw iU))
     rw[hval.out,LM d i j hlt hj]at iU;have HN:=af ((o8.out.trans (Rl.out.mono fZ )).grown jl (by simp only[Go.World.size_alloc];omega) (fun q e=>(HR2.out.lt q e).1));have HO:=af iU;clear iU jl;go_roundw
     case rel=>exact⟨j+1,A4,c4,by omega,rfl,by go_num,HO.out,HN.out⟩
     case measure=>simp[intOf];omega
    ·obtain rfl:j=8:=by omega
     have hs0:¬(0:Int)≤56-8*((8:Nat):Int):=by omega
     clear hbw;go_wp2;go_roundw
     case rel=>exact⟨i+1,A,c,by omega,by rw[Nat.mul_add],by go_num,by rw[Nat.mul_add];exact HR.out,o8.out⟩
     case measure=>simp[intOf];omega
  ·obtain rfl:i=2:=by omega
   have hlt':¬((2:Nat):Int)<2:=by omega
   have HN:=(hTr HK hbw);have hcv:=vN (P:=prog) wr 120 5 9 underlying120 underlying5 underlying9 w1.heap.size (.slice A (8*2) c) (jb d) (by rw[jh];omega) HR.out;clear hbw;go_wp2;go_ret;exact⟨rfl,HN.out⟩
end Go.Proofs.YtichfhpgdhdiaaaGreat
namespace Go.Proofs.YtichfhpgdhdiaaaGreat
open Go.RowKit
theorem z8(w:World)(g:Nat)(l:List UInt8)(d:Dg)(h:Wr g l w)(hl:l.length≤1000000):
  Calls prog 72 #[.pointer (some ⟨g,0,none⟩),lS d] w (WrE g (l++jb d) w):=by
 obtain⟨i0,hi,hy0,hy1,hy2⟩:=info_parts Tryz.uY;have aaB:=(ah w.heap.size w).alloc (ak _) (.cells #[.int .u64 (d.1.toNat:Int),.int .u64 (d.2.toNat:Int)] 39);have HB:=gV.new w #[.int .u64 (d.1.toNat:Int),.int .u64 (d.2.toNat:Int)] 39;have k0:=HB.cl 0;have k1:=HB.cl 1;have hgl:=h.1;have HW1:Hid (Wr g (l++(jb d).take (8*0)) (w.alloc (.cells #[.int .u64 (d.1.toNat:Int),.int .u64 (d.2.toNat:Int)] 39))):=by
  show Wr _ _ _;rw[Nat.mul_zero,bO,aU];exact h.keep aaB
 have xC:=af (nI (g:=g) aaB fZ );clear h aaB HB;unfold lS;go_enter func72,ntmps72;go_wp2;clear k0 k1;generalize w.alloc (.cells #[.int .u64 (d.1.toNat:Int),.int .u64 (d.2.toNat:Int)] 39)=w1 at *;go_loopw [8] (fun iv wr=>∃i:Nat,i≤2∧iv=.int .i64 i∧Hid (Wr g (l++(jb d).take (8*i)) wr)∧Hid (Fp g w wr)) (fun iv _=>2-(intOf iv).toNat)
 case atStart=>exact⟨0,by omega,rfl,HW1.out,xC.out⟩
 case round =>
  clear HW1 xC;obtain⟨i,hi2,rfl,HW,HF⟩:=hrel;by_cases hlt:i<2
  ·have hlt':(i:Int)<2:=by omega
   have hidx:=YG d i hlt wr;go_wp2;clear hidx;go_loopw [6] (fun sv wq=>∃j:Nat,j≤8∧sv=.int .i64 (56-8*(j:Int))∧Hid (Wr g (l++(jb d).take (8*i+j)) wq)∧Hid (Fp g w wq)) (fun sv _=>(intOf sv+8).toNat)
   case atStart=>exact⟨0,by omega,rfl,HW.out,HF.out⟩
   case round =>
    clear HW HF;obtain⟨j,hj8,rfl,HW,HF⟩:=hrel;by_cases hj:j<8
    ·obtain⟨s,hs⟩:∃s:Nat,s=56-8*j:=⟨_,rfl⟩;have hsi:56-8*(j:Int)=(s:Int):=by omega
     have hs0:(0:Int)≤(s:Int):=by omega
     rw[hsi];have hpos:8*i+j+1≤16:=by omega
     have hval:Hid ((wd d i:Int)/2^(56-8*j)%256=((UInt8.ofNat (wd d i/2^(56-8*j))).toNat:Int)):=by
      show _=_;rw[ofNat_mod]
      push_cast
      rfl
     have hlen:(l++(jb d).take (8*i+j)).length=l.length+(8*i+j):=by
      rw[aj,aH,jh];omega
     obtain⟨amQ,A,c,hB,hR⟩:=HW.out;rw[hlen]at hB hR;have oU:=af hB;have HRx:=af hR;have HL:=af hlen;have q0:=hB.cl 0;clear hlen hB hR HW;go_upto_region 7 with (fail);refine nN (S:=fun w'=>w'.cell? ⟨g,0,none⟩=some (.slice A (l.length+(8*i+j)) c)) gB q0 10 ?_;clear q0;refine gP 0 ?_;refine gP 1 ?_;refine gP 2 ?_;refine gP 3 ?_;refine gP 5 ?_;refine gP 6 ?_;refine gP 7 ?_;refine gP 8 ?_;refine jr 4 [0] ?_;refine kF.on 9 ?_;intro K hK;go_simp;have hB1:=oU.out.drew;have Jc:=zx HRx.out;have hal:=(ah wr.drew.heap.size wr.drew).alloc (ak _) (.cells #[.int .u8 ((wd d i:Int)/2^(56-8*j)%256)] 5)
     have hB2:=hB1.keep hal;have hR2:=Jc.kept (iF hal) (by cases Value.ownBlock (.slice A (l.length+(8*i+j)) c)<;>simp);have hK':=hK;clear hK;refine hK' _ _ (hB2.cl 0) ?_;clear hK' K;refine Cy 10 ?_;refine jf _ rfl _ _ _ rfl (g+1) 5 i0 _ 1 1 underlying120 hi hy0 hy1 hy2 rfl fZ (.slice A (l.length+(8*i+j)) c) (l.length+(8*i+j)) _ rfl hR2 _ 1 1 [.int .u8 ((wd d i:Int)/2^(56-8*j)%256)] rfl rfl (gY _ _ _ _) (by simp[Value.oneCell']) fZ fZ (by simp;omega) ?_;intro v4 w8 iU jl rT;obtain⟨A4,c4,rfl⟩:=iw iU
     have hne:=ig hR2 hB2 gm ;have hB4:=hB2.grown jl hne.symm;have p4:=hB4.cl 0;have f4:=hB4.frozen 0;have Vf:(l++(jb d).take (8*i+(j+1))).length=l.length+(8*i+j)+1:=by
      rw[aj,aH,jh];omega
     have hown5:w8.ownsRow (g+1) 5 1 (.slice A4 (l.length+(8*i+j)+1) c4) (l.length+(8*i+j)+1) (Oa (l++(jb d).take (8*i+(j+1)))):=by
      rw[rJ,show 8*i+(j+1)=8*i+j+1 from rfl,←LM d i j hlt hj,←aA,←rJ,←hval.out];exact iU
     have BK:=hB4.set 0 (.slice A4 (l.length+(8*i+j)+1) c4);have hown6:=hown5.kept (gG w8 g 0 (.slice A4 (l.length+(8*i+j)+1) c4)) (.inr (ig hown5 hB4 gm ));have ahL:wr.heap.size≤w8.heap.size:=aS hal.size jl.size;have QX:=af (Wr.mk (g:=g) (l:=l++(jb d).take (8*i+(j+1))) (w:=w8.setCell ⟨g,0,none⟩ (.slice A4 (l.length+(8*i+j)+1) c4)) (A:=A4) (c:=c4) (by rw[iD];omega) (by rw[Vf];exact BK) (by rw[Vf];exact hown6));have VN:=af (((HF.out.trans (nI ((ah wr.heap.size wr).drew) fZ )).trans (nI (g:=g) hal (by show g≤wr.heap.size;omega))).trans ((Fp.grown hR2 jl fZ (by simp;omega)).trans (Fp.set (w:=w8) (g:=g) fZ 0 (.slice A4 (l.length+(8*i+j)+1) c4))))
     simp only[Act.put,SA];refine kF.lt 11 ?_;intro K hK;go_simp;refine hK _ _ ?_;clear hK K;refine kF.lt 12 ?_;intro K hK;go_simp;refine hK _ _ ?_;clear hK K;refine kF.lt 13 ?_;intro K hK;go_simp;refine hK _ _ (iP ?_);clear hK K p4 f4 hB4 BK jl iU hown5 hown6 rT hne hB1 hB2 Jc hR2 hal Vf ahL;generalize w8.setCell ⟨g,0,none⟩ (.slice A4 (l.length+(8*i+j)+1) c4)=w9 at *;go_wp2;go_roundw
     case rel=>exact⟨j+1,by omega,by go_num,QX.out,VN.out⟩
     case measure=>simp[intOf];omega
    ·obtain rfl:j=8:=by omega
     have hs0:¬(0:Int)≤56-8*((8:Nat):Int):=by omega
     go_wp2;go_roundw
     case rel=>exact⟨i+1,by omega,by go_num,by rw[Nat.mul_add];exact HW.out,HF.out⟩
     case measure=>simp[intOf];omega
  ·obtain rfl:i=2:=by omega
   have hlt':¬((2:Nat):Int)<2:=by omega
   have HE:Hid (WrE g (l++jb d) w (.returned (.tuple #[])) wr):=⟨rfl,by have:=HW.out;rw[show (jb d).take (8*2)=jb d from aF (by rw[jh];omega)]at this;exact this,HF.out⟩;go_wp2;exact bodyPost_end (results_none rfl _ _ _) rfl HE.out
end Go.Proofs.YtichfhpgdhdiaaaGreat
namespace Go.Proofs.YtichfhpgdhdiaaaGreat
open Go.RowKit
theorem nX{α β : Type}{l:List α}{k:Nat}{x : α}{F : α→List β}(hx:l[k]?=some x):(l.take k).flatMap F++F x=(l.take (k+1)).flatMap F:=by
 rw[take_snoc' hx,aZ,List.flatMap_singleton]
theorem uG{α β : Type}(F : α→List β)(l:List α)(k:Nat):((l.take k).flatMap F).length≤(l.flatMap F).length:=by
 have h:(l.take k).flatMap F++(l.drop k).flatMap F=l.flatMap F:=by rw[←aZ,bQ]
 rw[←h,aj];omega
theorem Dx(nm:List UInt8)(dir:Bool)(dg:Dg):qI ⟨nm,dir,dg⟩=(gJ nm.length++nm)++gJ (if dir then 1 else 0)++jb dg:=rfl
theorem zV{w:World}{g:Nat}{t:TypeId}{a b c d:Value}(h:gV w g t #[a,b,c,d]):
  w.cell? ⟨g,0,none⟩=some a∧w.cell? ⟨g,1,none⟩=some b∧w.cell? ⟨g,2,none⟩=some c∧w.cell? ⟨g,3,none⟩=some d :=
 ⟨h.cl 0,h.cl 1,h.cl 2,h.cl 3⟩
def OcE(o:Ob)(w0:World)(e:Ending)(w:World):Prop:=e=.returned (.tuple #[.string (fu (jS o)),.int .i64 0])∧Below w0.heap.size w0 w
theorem qK(w:World)(o:Ob)(ve vp:Value)(h:wU w ve vp o)(ho:Cw o)(hl:(jS o).length≤65536):
  Calls prog 32 #[.agg (je o ve vp)] w (OcE o w):=by
 obtain⟨kind,data,gW,tree,gU,gM,time,msg⟩:=o;obtain⟨yG,yH⟩:=h;obtain⟨eA,ec,rfl,he1,he2⟩:=yG.form;obtain⟨pA,pc,rfl,hp1,hp2⟩:=yH.form;unfold je;simp only at *;have HK:=af ((ah w.heap.size w).alloc (ak _) (.cells #[.int .i64 kind,.string (fu data),.slice eA gW.length ec,.int .u64 (tree.1.toNat:Int),.int .u64 (tree.2.toNat:Int),.slice pA gU.length pc,.string (fu gM),.int .i64 time,.string (fu msg)] 44));have HB:=af (gV.new w #[.int .i64 kind,.string (fu data),.slice eA gW.length ec,.int .u64 (tree.1.toNat:Int),.int .u64 (tree.2.toNat:Int),.slice pA gU.length pc,.string (fu gM),.int .i64 time,.string (fu msg)] 44)
 have Fg:=af (yG.keep (dO HK.out));have Fh:=af (yH.keep (dO HK.out));clear yG yH;obtain⟨q0,q1,q2,q3,q4,q5,q6,q7,q8⟩:=iB HB.out;have CK:=LD (w.alloc (.cells #[.int .i64 kind,.string (fu data),.slice eA gW.length ec,.int .u64 (tree.1.toNat:Int),.int .u64 (tree.2.toNat:Int),.slice pA gU.length pc,.string (fu gM),.int .i64 time,.string (fu msg)] 44)) (⟨kind,data,gW,tree,gU,gM,time,msg⟩:Ob) (.slice eA gW.length ec) (.slice pA gU.length pc) ⟨Fg.out,Fh.out⟩ ho;unfold je at CK;simp only at CK;have CK:=af CK
 unfold OcE;generalize hT:jS (⟨kind,data,gW,tree,gU,gM,time,msg⟩:Ob)=T at *;have HTP:Hid (0<T.length):=by
  show _<_;rw[←hT];unfold jS;have hd:=fun n=>nA n
  simp only;split
  ·have:=hd 2;simp only[aj];omega
  ·split
   ·have:=hd 3;simp only[aj];omega
   ·have:=hd kind.toNat;simp only[aj];omega
 have HLEN:=af hl;have hkk:0≤kind∧kind≤4:=by rcases ho with ⟨h,_⟩|⟨h,_⟩|⟨h|h,_⟩<;>simp only at h<;>omega
 have HB1:Hid ((gJ kind.toNat).length≤6):=by
  have:=kX kind;rw[oC fZ fZ ]at this;exact this
 have Rn:(T.length:Int)≤65536:=by omega
 have amS:¬(65536:Int)<(T.length:Int):=by omega
 clear hl;go_enter func32,ntmps32;go_upto_region 1 with (fail);generalize w.alloc (.cells #[.int .i64 kind,.string (fu data),.slice eA gW.length ec,.int .u64 (tree.1.toNat:Int),.int .u64 (tree.2.toNat:Int),.slice pA gU.length pc,.string (fu gM),.int .i64 time,.string (fu msg)] 44)=w1 at *;go_wp2_with fail;refine CK.out.mono ?_;rintro e w2 ⟨rfl,hb⟩;have lG:=(hTr HK hb);have hB2:=HB.out.keep hb;have nG:=af hB2;have ahM:=af (Fg.out.keep (dO hb));have ahN:=af (Fh.out.keep (dO hb))
 have hal:=(ah w2.heap.size w2).alloc (ak _) (.cells #[.slice none 0 0,.bool false] 153);have HW:Hid (Wr w2.heap.size [] (w2.alloc (.cells #[.slice none 0 0,.bool false] 153))):=Wr.mk (A:=none) (c:=0) gu (gV.new w2 _ _) (World.ownsRow_nil _ _ _ _);have Cf:=af hal;clear q0 q1 q2 q3 q4 q5 q6 q7 q8;obtain⟨q0,q1,q2,q3,q4,q5,q6,q7,q8⟩:=iB (hB2.keep hal);clear hb hB2 hal CK Fg Fh HB HK;go_upto_region 5 with (fail);generalize w2.alloc (.cells #[.slice none 0 0,.bool false] 153)=w3 at *;go_wp2_with fail;refine(tC _ w2.heap.size ([]) kind HW.out fZ fZ gu ).mono ?_
 rintro e v1 ⟨rfl,hW,hF⟩;have HW:=af hW;have Pm:=af (Cf.out.trans hF.jM);clear q0 q1 q2 q3 q4 q5 q6 q7 q8;obtain⟨q0,q1,q2,q3,q4,q5,q6,q7,q8⟩:=iB (nG.out.keep Pm.out);clear hW hF;have Cf:=Pm;clear Pm;rcases ho with ⟨hkd,jd,hno,Rk⟩|⟨hkd,jd,iQ,hco⟩|⟨hkd|hkd,h3⟩
 ·simp only at hkd Rk;clear jd hno;have HT:Hid (T=gJ 2++gJ gW.length++gW.flatMap qI):=by
   show _=_;rw[←hT];unfold jS;simp only;rw[if_pos hkd]
  have MG:Hid (gJ kind.toNat=gJ 2):=by show _=_;rw[hkd];rfl
  have ZH:=af Rk;have hel:gW.length≤200:=Rk.1;have b1:(kind==1)=false:=by rw[hkd];rfl
  have b4:(kind==4)=false:=by rw[hkd];rfl
  have b2:(kind==2)=true:=by rw[hkd];rfl
  have b3:(kind==3)=false:=by rw[hkd];rfl
  clear hkd hT Rk;go_wp2_with fail;refine(tC _ w2.heap.size ([]++gJ kind.toNat) (gW.length:Int) HW.out fZ fZ (by have:=HB1.out;simp only[aO];omega)).mono ?_;rintro e y1 ⟨rfl,hW,hF⟩;have HW:=af hW;have MF:=af (Cf.out.trans hF.jM);clear q0 q1 q2 q3 q4 q5 q6 q7 q8;obtain⟨q0,q1,q2,q3,q4,q5,q6,q7,q8⟩:=iB (nG.out.keep MF.out);clear hW hF;go_wp2;clear b1 b2 b3 b4 q0 q1 q2 q3 q4 q5 q6 q7 q8;go_loopw [39] (fun iv wr=>∃k:Nat,k≤gW.length∧iv=.int .i64 k∧Hid (Wr w2.heap.size ([]++gJ kind.toNat++gJ (gW.length:Int).toNat++(gW.take k).flatMap qI) wr)∧Hid (Below w2.heap.size w2 wr)) (fun iv _=>gW.length-(intOf iv).toNat)
  case atStart=>exact⟨0,by omega,rfl,by have:=HW.out;rw[bO,dQ,aU];exact this,MF.out⟩
  case round =>
   clear HW MF;obtain⟨k,hk,rfl,HW,HQ⟩:=hrel;by_cases hlt:k<gW.length
   ·obtain⟨⟨nm,dir,dg⟩,hx⟩:∃x,gW[k]?=some x:=⟨_,au hlt⟩;have hlt':(k:Int)<(gW.length:Int):=by omega
    obtain⟨b0,o0,rfl,c0,c1,c2,c3⟩:=(ahM.out.keep (dO HQ.out)).get hx;simp only at c0 c1 c2 c3;have HNM:Hid (nm.length≤65536):=by
     have:=wu (ZH.out.2.1 _ (aV hx)).1;show _≤_;simp only at this;omega
    have HXX:=af hx;have hsum:(([]++gJ kind.toNat++gJ (gW.length:Int).toNat++(gW.take k).flatMap qI)++qI ⟨nm,dir,dg⟩).length≤65536:=by
     have h1:=uG qI gW (k+1);rw[←nX hx]at h1;have h2:=HLEN.out;rw[HT.out]at h2;have h3:=MG.out;rw[h3];simp only[aj,aM,aT]at h1 h2 ⊢;omega
    have hs1:(([]++gJ kind.toNat++gJ (gW.length:Int).toNat++(gW.take k).flatMap qI)).length≤65536:=by rw[aj]at hsum;omega
    have hal:=(ah wr.heap.size wr).alloc (ak _) (.cells #[.string (fu nm),.bool dir,.int .u64 (dg.1.toNat:Int),.int .u64 (dg.2.toNat:Int)] 155);have HX0:=af (gV.new wr #[.string (fu nm),.bool dir,.int .u64 (dg.1.toNat:Int),.int .u64 (dg.2.toNat:Int)] 155);have hgw:w2.heap.size<wr.heap.size:=HW.out.1;have HQ0:=af (HQ.out.trans (hal.mono fZ ));have HWa:=af (HW.out.keep hal);obtain⟨x0,x1,x2,x3⟩:=zV HX0.out;obtain⟨q0,q1,q2,q3,q4,q5,q6,q7,q8⟩:=iB (nG.out.keep HQ0.out);clear hx hal HW;have HW:=HWa;clear HWa;unfold lS at *;cases dir with
    |true =>
     have hs:=hsum;rw[Dx]at hs;simp only[aj,if_true,if_false,Bool.false_eq_true]at hs;have aaC:Hid ((([]++gJ kind.toNat++gJ (gW.length:Int).toNat++(gW.take k).flatMap qI)++(gJ nm.length++nm)).length≤1000000):=by
      show _≤_;simp only[aj];omega
     have aaD:Hid ((([]++gJ kind.toNat++gJ (gW.length:Int).toNat++(gW.take k).flatMap qI)++(gJ nm.length++nm)++gJ (1:Int).toNat).length≤1000000):=by
      show _≤_;simp only[aj];rw[show (1:Int).toNat=1 from rfl];omega
     clear hs hsum;go_upto_region 16 with (fail);clear c0 c1 c2 c3;generalize wr.alloc (.cells #[.string (fu nm),.bool true,.int .u64 (dg.1.toNat:Int),.int .u64 (dg.2.toNat:Int)] 155)=za at *;go_wp2_with fail;refine(tF _ w2.heap.size ([]++gJ kind.toNat++gJ (gW.length:Int).toNat++(gW.take k).flatMap qI) nm HW.out HNM.out fZ ).mono ?_;rintro e z1 ⟨rfl,hW,hF⟩;have HW:=af hW;have HZ1:=af (HQ0.out.trans hF.jM);clear q0 q1 q2 q3 q4 q5 q6 q7 q8;obtain⟨q0,q1,q2,q3,q4,q5,q6,q7,q8⟩:=iB (nG.out.keep HZ1.out);have MC:=af (hF.keep _ _ _ gm fZ HX0.out)
     clear x0 x1 x2 x3;obtain⟨x0,x1,x2,x3⟩:=zV MC.out;clear hW hF;go_wp2_with fail;refine(tC _ w2.heap.size ([]++gJ kind.toNat++gJ (gW.length:Int).toNat++(gW.take k).flatMap qI++(gJ nm.length++nm)) (1:Int) HW.out fZ fZ (aaC.out)).mono ?_;rintro e z2 ⟨rfl,hW,hF⟩;have HW:=af hW;have HZ2:=af (HZ1.out.trans hF.jM);clear q0 q1 q2 q3 q4 q5 q6 q7 q8;obtain⟨q0,q1,q2,q3,q4,q5,q6,q7,q8⟩:=iB (nG.out.keep HZ2.out);have mZ:=af (hF.keep _ _ _ gm fZ MC.out);clear x0 x1 x2 x3;obtain⟨x0,x1,x2,x3⟩:=zV mZ.out;clear hW hF;go_wp2_with fail;refine(z8 _ w2.heap.size ([]++gJ kind.toNat++gJ (gW.length:Int).toNat++(gW.take k).flatMap qI++(gJ nm.length++nm)++gJ (1:Int).toNat) dg HW.out (aaD.out)).mono ?_
     rintro e z3 ⟨rfl,hW,hF⟩;have HW:=af hW;have HZ3:=af (HZ2.out.trans hF.jM);clear q0 q1 q2 q3 q4 q5 q6 q7 q8;obtain⟨q0,q1,q2,q3,q4,q5,q6,q7,q8⟩:=iB (nG.out.keep HZ3.out);have Cu:=af (hF.keep _ _ _ gm fZ mZ.out);clear x0 x1 x2 x3;obtain⟨x0,x1,x2,x3⟩:=zV Cu.out;clear hW hF;have HW2:Hid (Wr w2.heap.size ([]++gJ kind.toNat++gJ (gW.length:Int).toNat++(gW.take (k+1)).flatMap qI) z3):=by
      have h:=HW.out;rw[show []++gJ kind.toNat++gJ (gW.length:Int).toNat++(gW.take k).flatMap qI++(gJ nm.length++nm)++gJ (1:Int).toNat++jb dg = []++gJ kind.toNat++gJ (gW.length:Int).toNat++(gW.take (k+1)).flatMap qI by rw[←nX HXX.out,Dx];simp[aA]]at h;exact h
     clear HW;go_wp2;go_roundw
     case rel=>exact⟨k+1,by omega,by go_num,HW2.out,HZ3.out⟩
     case measure=>simp[intOf];omega
    |false =>
     have hs:=hsum;rw[Dx]at hs;simp only[aj,if_true,if_false,Bool.false_eq_true]at hs;have aaC:Hid ((([]++gJ kind.toNat++gJ (gW.length:Int).toNat++(gW.take k).flatMap qI)++(gJ nm.length++nm)).length≤1000000):=by
      show _≤_;simp only[aj];omega
     have aaD:Hid ((([]++gJ kind.toNat++gJ (gW.length:Int).toNat++(gW.take k).flatMap qI)++(gJ nm.length++nm)++gJ (0:Int).toNat).length≤1000000):=by
      show _≤_;simp only[aj];rw[show (0:Int).toNat=0 from rfl];omega
     clear hs hsum;go_upto_region 16 with (fail);clear c0 c1 c2 c3;generalize wr.alloc (.cells #[.string (fu nm),.bool false,.int .u64 (dg.1.toNat:Int),.int .u64 (dg.2.toNat:Int)] 155)=za at *;go_wp2_with fail;refine(tF _ w2.heap.size ([]++gJ kind.toNat++gJ (gW.length:Int).toNat++(gW.take k).flatMap qI) nm HW.out HNM.out fZ ).mono ?_;rintro e z1 ⟨rfl,hW,hF⟩;have HW:=af hW;have HZ1:=af (HQ0.out.trans hF.jM);clear q0 q1 q2 q3 q4 q5 q6 q7 q8;obtain⟨q0,q1,q2,q3,q4,q5,q6,q7,q8⟩:=iB (nG.out.keep HZ1.out);have MC:=af (hF.keep _ _ _ gm fZ HX0.out)
     clear x0 x1 x2 x3;obtain⟨x0,x1,x2,x3⟩:=zV MC.out;clear hW hF;go_wp2_with fail;refine(tC _ w2.heap.size ([]++gJ kind.toNat++gJ (gW.length:Int).toNat++(gW.take k).flatMap qI++(gJ nm.length++nm)) (0:Int) HW.out fZ fZ (aaC.out)).mono ?_;rintro e z2 ⟨rfl,hW,hF⟩;have HW:=af hW;have HZ2:=af (HZ1.out.trans hF.jM);clear q0 q1 q2 q3 q4 q5 q6 q7 q8;obtain⟨q0,q1,q2,q3,q4,q5,q6,q7,q8⟩:=iB (nG.out.keep HZ2.out);have mZ:=af (hF.keep _ _ _ gm fZ MC.out);clear x0 x1 x2 x3;obtain⟨x0,x1,x2,x3⟩:=zV mZ.out;clear hW hF;go_wp2_with fail;refine(z8 _ w2.heap.size ([]++gJ kind.toNat++gJ (gW.length:Int).toNat++(gW.take k).flatMap qI++(gJ nm.length++nm)++gJ (0:Int).toNat) dg HW.out (aaD.out)).mono ?_
     rintro e z3 ⟨rfl,hW,hF⟩;have HW:=af hW;have HZ3:=af (HZ2.out.trans hF.jM);clear q0 q1 q2 q3 q4 q5 q6 q7 q8;obtain⟨q0,q1,q2,q3,q4,q5,q6,q7,q8⟩:=iB (nG.out.keep HZ3.out);have Cu:=af (hF.keep _ _ _ gm fZ mZ.out);clear x0 x1 x2 x3;obtain⟨x0,x1,x2,x3⟩:=zV Cu.out;clear hW hF;have HW2:Hid (Wr w2.heap.size ([]++gJ kind.toNat++gJ (gW.length:Int).toNat++(gW.take (k+1)).flatMap qI) z3):=by
      have h:=HW.out;rw[show []++gJ kind.toNat++gJ (gW.length:Int).toNat++(gW.take k).flatMap qI++(gJ nm.length++nm)++gJ (0:Int).toNat++jb dg = []++gJ kind.toNat++gJ (gW.length:Int).toNat++(gW.take (k+1)).flatMap qI by rw[←nX HXX.out,Dx];simp[aA]]at h;exact h
     clear HW;go_wp2;go_roundw
     case rel=>exact⟨k+1,by omega,by go_num,HW2.out,HZ3.out⟩
     case measure=>simp[intOf];omega
   ·obtain rfl:k=gW.length:=by omega
    have hlt':¬(gW.length:Int)<(gW.length:Int):=by omega
    have HV9:=HQ;clear HQ;obtain⟨q0,q1,q2,q3,q4,q5,q6,q7,q8⟩:=iB (nG.out.keep HV9.out);have HN:=af (lG.out.trans (HV9.out.mono lG.out.size));have Oh : []++gJ kind.toNat++gJ (gW.length:Int).toNat++(gW.take gW.length).flatMap qI=T:=by rw[HT.out];rw[MG.out,bG,aT];simp[aA]
    have Vg:=HW.out;rw[Oh]at Vg;obtain⟨hgl,tA,tc,Oz,Vh⟩:=Vg;have t0:=Oz.cl 0;have t1:=Oz.cl 1;have hcv:=vN (P:=prog) _ 120 5 9 underlying120 underlying5 underlying9 (w2.heap.size+1) (.slice tA T.length tc) T HTP.out Vh;have VI:=af HT.out;clear Oh hgl Oz Vh HW;go_wp2;go_ret2;exact⟨by first|rfl|(rw[VI.out];rfl),HN.out⟩
 ·simp only at hkd;clear jd iQ;obtain⟨g1,g2,g3,g4,g5,g6,g7,g8⟩:=hco;simp only at g2 g5 g6 g7 g8;have HTM:=af (fT g6 g7);have hau:=wu g5;clear g1 g3 g4 g5 g6 g7;have HT:Hid (T=gJ 3++jb tree++gJ gU.length++gU.flatMap jb++jL gM++gJ time.toNat++jL msg):=by
   show _=_;rw[←hT];unfold jS;simp only;rw[if_neg fZ ,if_pos hkd]
  have MG:Hid (gJ kind.toNat=gJ 3):=by show _=_;rw[hkd];rfl
  have b1:(kind==1)=false:=by rw[hkd];rfl
  have b4:(kind==4)=false:=by rw[hkd];rfl
  have b2:(kind==2)=false:=by rw[hkd];rfl
  have b3:(kind==3)=true:=by rw[hkd];rfl
  clear hkd hT;unfold lS at *;go_wp2_with fail;refine(z8 _ w2.heap.size ([]++gJ kind.toNat) tree HW.out (by have h:=HLEN.out;have h3:=MG.out;rw[HT.out]at h;simp only[aj,aM,aT,h3,jL]at h ⊢;omega)).mono ?_;rintro e y1 ⟨rfl,hW,hF⟩;have HW:=af hW;have MF:=af (Cf.out.trans hF.jM);clear q0 q1 q2 q3 q4 q5 q6 q7 q8;obtain⟨q0,q1,q2,q3,q4,q5,q6,q7,q8⟩:=iB (nG.out.keep MF.out);clear hW hF;go_wp2_with fail;refine(tC _ w2.heap.size ([]++gJ kind.toNat++jb tree) (gU.length:Int) HW.out fZ fZ (by have h:=HLEN.out;have h3:=MG.out;rw[HT.out]at h;simp only[aj,aM,aT,h3,jL]at h ⊢;omega)).mono ?_
  rintro e y2 ⟨rfl,hW,hF⟩;have HW:=af hW;have Zr:=af (MF.out.trans hF.jM);clear q0 q1 q2 q3 q4 q5 q6 q7 q8;obtain⟨q0,q1,q2,q3,q4,q5,q6,q7,q8⟩:=iB (nG.out.keep Zr.out);clear hW hF;go_wp2;clear b1 b2 b3 b4 q0 q1 q2 q3 q4 q5 q6 q7 q8;go_loopw [64] (fun iv wr=>∃k:Nat,k≤gU.length∧iv=.int .i64 k∧Hid (Wr w2.heap.size ([]++gJ kind.toNat++jb tree++gJ (gU.length:Int).toNat++(gU.take k).flatMap jb) wr)∧Hid (Below w2.heap.size w2 wr)) (fun iv _=>gU.length-(intOf iv).toNat)
  case atStart=>exact⟨0,by omega,rfl,by have:=HW.out;rw[bO,dQ,aU];exact this,Zr.out⟩
  case round =>
   clear HW Zr;obtain⟨k,hk,rfl,HW,HQ⟩:=hrel;by_cases hlt:k<gU.length
   ·obtain⟨x,hx⟩:∃x,gU[k]?=some x:=⟨_,au hlt⟩;have hlt':(k:Int)<(gU.length:Int):=by omega
    obtain⟨b0,o0,rfl,c0,c1⟩:=(ahN.out.keep (dO HQ.out)).get hx;have HXX:=af hx;have hs1:(([]++gJ kind.toNat++jb tree++gJ (gU.length:Int).toNat++(gU.take k).flatMap jb)).length≤65536:=by
     have h1:=uG jb gU k;have h2:=HLEN.out;rw[HT.out]at h2;have h3:=MG.out;rw[h3];simp only[aj,aM,aT]at h1 h2 ⊢;omega
    have hal:=(ah wr.heap.size wr).alloc (ak _) (.cells #[.int .u64 (x.1.toNat:Int),.int .u64 (x.2.toNat:Int)] 39);have HX0:=gV.new wr #[.int .u64 (x.1.toNat:Int),.int .u64 (x.2.toNat:Int)] 39;have hgw:w2.heap.size<wr.heap.size:=HW.out.1;have HQ0:=af (HQ.out.trans (hal.mono fZ ));have HWa:=af (HW.out.keep hal);have x0:=HX0.cl 0;have x1:=HX0.cl 1;obtain⟨q0,q1,q2,q3,q4,q5,q6,q7,q8⟩:=iB (nG.out.keep HQ0.out);clear hx hal HW HX0;have HW:=HWa;clear HWa;go_upto_region 28 with (fail);clear c0 c1;generalize wr.alloc (.cells #[.int .u64 (x.1.toNat:Int),.int .u64 (x.2.toNat:Int)] 39)=za at *
    go_wp2_with fail;refine(z8 _ w2.heap.size ([]++gJ kind.toNat++jb tree++gJ (gU.length:Int).toNat++(gU.take k).flatMap jb) x HW.out fZ ).mono ?_;rintro e z1 ⟨rfl,hW,hF⟩;have HW:=af hW;have HZ1:=af (HQ0.out.trans hF.jM);clear q0 q1 q2 q3 q4 q5 q6 q7 q8;obtain⟨q0,q1,q2,q3,q4,q5,q6,q7,q8⟩:=iB (nG.out.keep HZ1.out);clear hW hF;have HW2:Hid (Wr w2.heap.size ([]++gJ kind.toNat++jb tree++gJ (gU.length:Int).toNat++(gU.take (k+1)).flatMap jb) z1):=by
     have h:=HW.out;rw[show []++gJ kind.toNat++jb tree++gJ (gU.length:Int).toNat++(gU.take k).flatMap jb++jb x = []++gJ kind.toNat++jb tree++gJ (gU.length:Int).toNat++(gU.take (k+1)).flatMap jb by rw[←nX HXX.out];simp[aA]]at h;exact h
    clear HW;go_wp2;go_roundw
    case rel=>exact⟨k+1,by omega,by go_num,HW2.out,HZ1.out⟩
    case measure=>simp[intOf];omega
   ·obtain rfl:k=gU.length:=by omega
    have hlt':¬(gU.length:Int)<(gU.length:Int):=by omega
    have HV9:=HQ;clear HQ;obtain⟨q0,q1,q2,q3,q4,q5,q6,q7,q8⟩:=iB (nG.out.keep HV9.out);go_wp2_with fail;refine(tF _ w2.heap.size ([]++gJ kind.toNat++jb tree++gJ (gU.length:Int).toNat++(gU.take gU.length).flatMap jb) gM HW.out fZ (by have h:=HLEN.out;have h3:=MG.out;rw[HT.out]at h;simp only[aj,aM,aT,h3,jL,bG]at h ⊢;omega)).mono ?_;rintro e u1 ⟨rfl,hW,hF⟩;have HW:=af hW;have HU1:=af (HV9.out.trans hF.jM);clear q0 q1 q2 q3 q4 q5 q6 q7 q8;obtain⟨q0,q1,q2,q3,q4,q5,q6,q7,q8⟩:=iB (nG.out.keep HU1.out);clear hW hF;go_wp2_with fail;refine(tC _ w2.heap.size ([]++gJ kind.toNat++jb tree++gJ (gU.length:Int).toNat++(gU.take gU.length).flatMap jb++(gJ gM.length++gM)) time HW.out HTM.out.1 HTM.out.2 (by have h:=HLEN.out;have h3:=MG.out;rw[HT.out]at h;simp only[aj,aM,aT,h3,jL,bG]at h ⊢;omega)).mono ?_
    rintro e u2 ⟨rfl,hW,hF⟩;have HW:=af hW;have HU2:=af (HU1.out.trans hF.jM);clear q0 q1 q2 q3 q4 q5 q6 q7 q8;obtain⟨q0,q1,q2,q3,q4,q5,q6,q7,q8⟩:=iB (nG.out.keep HU2.out);clear hW hF;go_wp2_with fail;refine(tF _ w2.heap.size ([]++gJ kind.toNat++jb tree++gJ (gU.length:Int).toNat++(gU.take gU.length).flatMap jb++(gJ gM.length++gM)++gJ time.toNat) msg HW.out fZ (by have h:=HLEN.out;have h3:=MG.out;rw[HT.out]at h;simp only[aj,aM,aT,h3,jL,bG]at h ⊢;omega)).mono ?_;rintro e u3 ⟨rfl,hW,hF⟩;have HW:=af hW;have HU3:=af (HU2.out.trans hF.jM)
    clear q0 q1 q2 q3 q4 q5 q6 q7 q8;obtain⟨q0,q1,q2,q3,q4,q5,q6,q7,q8⟩:=iB (nG.out.keep HU3.out);clear hW hF;have HN:=af (lG.out.trans (HU3.out.mono lG.out.size));have Oh : []++gJ kind.toNat++jb tree++gJ (gU.length:Int).toNat++(gU.take gU.length).flatMap jb++(gJ gM.length++gM)++gJ time.toNat++(gJ msg.length++msg)=T:=by rw[HT.out];rw[MG.out,bG,aT];simp[aA,jL]
    have Vg:=HW.out;rw[Oh]at Vg;obtain⟨hgl,tA,tc,Oz,Vh⟩:=Vg;have t0:=Oz.cl 0;have t1:=Oz.cl 1;have hcv:=vN (P:=prog) _ 120 5 9 underlying120 underlying5 underlying9 (w2.heap.size+1) (.slice tA T.length tc) T HTP.out Vh;have VI:=af HT.out;clear Oh hgl Oz Vh HW;go_wp2;go_ret2;exact⟨by first|rfl|(rw[VI.out];rfl),HN.out⟩
 ·simp only at hkd h3;obtain⟨iQ,hno,hdl⟩:=h3;have Jv:=af hdl;clear iQ hno hdl;have HT:Hid (T=gJ kind.toNat++(gJ data.length++data)):=by
   show _=_;rw[←hT];unfold jS;simp only;rw[if_neg fZ ,if_neg fZ ];rfl
  have b1:(kind==1)=true:=by rw[hkd];rfl
  have b4:(kind==4)=false:=by rw[hkd];rfl
  have b2:(kind==2)=false:=by rw[hkd];rfl
  have b3:(kind==3)=false:=by rw[hkd];rfl
  clear hkd hT;go_wp2_with fail;refine(tF _ w2.heap.size ([]++gJ kind.toNat) data HW.out Jv.out (by have:=HB1.out;simp only[aO];omega)).mono ?_;rintro e y1 ⟨rfl,hW,hF⟩;have HW:=af hW;have MF:=af (Cf.out.trans hF.jM);clear q0 q1 q2 q3 q4 q5 q6 q7 q8;obtain⟨q0,q1,q2,q3,q4,q5,q6,q7,q8⟩:=iB (nG.out.keep MF.out);clear hW hF;have HN:=af (lG.out.trans (MF.out.mono lG.out.size));have Oh : []++gJ kind.toNat++(gJ data.length++data)=T:=by rw[HT.out];simp[aA]
  have Vg:=HW.out;rw[Oh]at Vg;obtain⟨hgl,tA,tc,Oz,Vh⟩:=Vg;have t0:=Oz.cl 0;have t1:=Oz.cl 1;have hcv:=vN (P:=prog) _ 120 5 9 underlying120 underlying5 underlying9 (w2.heap.size+1) (.slice tA T.length tc) T HTP.out Vh;have VI:=af HT.out;clear Oh hgl Oz Vh HW;go_wp2;go_ret2;exact⟨by first|rfl|(rw[VI.out];rfl),HN.out⟩
 ·simp only at hkd h3;obtain⟨iQ,hno,hdl⟩:=h3;have Jv:=af hdl;clear iQ hno hdl;have HT:Hid (T=gJ kind.toNat++(gJ data.length++data)):=by
   show _=_;rw[←hT];unfold jS;simp only;rw[if_neg fZ ,if_neg fZ ];rfl
  have b1:(kind==1)=false:=by rw[hkd];rfl
  have b4:(kind==4)=true:=by rw[hkd];rfl
  have b2:(kind==2)=false:=by rw[hkd];rfl
  have b3:(kind==3)=false:=by rw[hkd];rfl
  clear hkd hT;go_wp2_with fail;refine(tF _ w2.heap.size ([]++gJ kind.toNat) data HW.out Jv.out (by have:=HB1.out;simp only[aO];omega)).mono ?_;rintro e y1 ⟨rfl,hW,hF⟩;have HW:=af hW;have MF:=af (Cf.out.trans hF.jM);clear q0 q1 q2 q3 q4 q5 q6 q7 q8;obtain⟨q0,q1,q2,q3,q4,q5,q6,q7,q8⟩:=iB (nG.out.keep MF.out);clear hW hF;have HN:=af (lG.out.trans (MF.out.mono lG.out.size));have Oh : []++gJ kind.toNat++(gJ data.length++data)=T:=by rw[HT.out];simp[aA]
  have Vg:=HW.out;rw[Oh]at Vg;obtain⟨hgl,tA,tc,Oz,Vh⟩:=Vg;have t0:=Oz.cl 0;have t1:=Oz.cl 1;have hcv:=vN (P:=prog) _ 120 5 9 underlying120 underlying5 underlying9 (w2.heap.size+1) (.slice tA T.length tc) T HTP.out Vh;have VI:=af HT.out;clear Oh hgl Oz Vh HW;go_wp2;go_ret2;exact⟨by first|rfl|(rw[VI.out];rfl),HN.out⟩
end Go.Proofs.YtichfhpgdhdiaaaGreat
namespace Go.Proofs.YtichfhpgdhdiaaaGreat
open Go.RowKit
theorem y8(a b:List UInt8):(fu (a++b)).extract a.length (fu (a++b)).size=fu b:=by
 have h:=pV (fu (a++b)) a.length;rw[iI,cK]at h;rw[←tX ((fu (a++b)).extract a.length (fu (a++b)).size),h]
def Wm(g:Nat)(v:Value)(l:List UInt8)(w0:World)(e:Ending)(w:World):Prop:=e=.returned v∧gV w g 164 #[.string (fu l),.bool false]∧w0.grownBy w (some g)
theorem pX(w:World)(g:Nat)(n:Nat)(l:List UInt8)(hn:n≤1099511627776)(h:gV w g 164 #[.string (fu (gJ n++l)),.bool false]):
  Calls prog 80 #[.pointer (some ⟨g,0,none⟩)] w (Wm g (.int .i64 (n:Int)) l w):=by
 have CI:=lH (fu (gJ n++l)) w;rw[iI,mI l hn]at CI;have hex:=y8 (gJ n) l;have hks:(gJ n).length≤(fu (gJ n++l)).size:=by simp only[gL,aj];omega
 generalize (gJ n).length=k at *;generalize fu (gJ n++l)=s at *;unfold gI at CI;simp only at CI;have CI:=af CI;have q0:=h.cl 0;have q1:=h.cl 1;obtain⟨f0,f1⟩:=JO h;have HB:=(h.set 1 (.bool false)).set 0 (.string (fu l));have HG:=(gG w g 1 (.bool false)).trans (gG _ g 0 (.string (fu l)));have HE:=af (show Wm g (.int .i64 (n:Int)) l w (.returned (.int .i64 (n:Int))) _ from⟨rfl,HB,HG⟩);clear HB HG h;go_enter func80,ntmps80;go_wp2_with fail;refine CI.out.mono ?_;rintro e w1 ⟨rfl,rfl⟩
 go_wp2;go_ret;exact HE.out
theorem uW(w:World)(g:Nat)(d:List UInt8)(l:List UInt8)(hd:d.length≤65536)(hl:l.length≤1000000)(h:gV w g 164 #[.string (fu ((gJ d.length++d)++l)),.bool false]):
  Calls prog 81 #[.pointer (some ⟨g,0,none⟩)] w (Wm g (.string (fu d)) l w):=by
 have CI:=pW (fu ((gJ d.length++d)++l)) w (by rw[gL,aj,aj];have:=ja d.length 5 fZ ;omega);rw[iI,uV l hd]at CI;have hex:=y8 ((gJ d.length++d)) l;have hks:((gJ d.length++d)).length≤(fu ((gJ d.length++d)++l)).size:=by simp only[gL,aj];omega
 generalize ((gJ d.length++d)).length=k at *;generalize fu ((gJ d.length++d)++l)=s at *;unfold gT at CI;simp only at CI;have CI:=af CI;have q0:=h.cl 0;have q1:=h.cl 1;obtain⟨f0,f1⟩:=JO h;have HB:=(h.set 1 (.bool false)).set 0 (.string (fu l));have HG:=(gG w g 1 (.bool false)).trans (gG _ g 0 (.string (fu l)));have HE:=af (show Wm g (.string (fu d)) l w (.returned (.string (fu d))) _ from⟨rfl,HB,HG⟩);clear HB HG h;go_enter func81,ntmps81;go_wp2_with fail;refine CI.out.mono ?_
 rintro e w1 ⟨rfl,rfl⟩;go_wp2;go_ret;exact HE.out
end Go.Proofs.YtichfhpgdhdiaaaGreat
