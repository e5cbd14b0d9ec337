/- Words for disks in memory. -/
import Derived.Test.YtichfhpgdhdiaaaGreatJ1
import Derived.Test.YtichfhpgdhdiaaaGreatProg
import Derived.Deep.QuietTactic
import Derived.Outline
import Derived.BigRegion
import Derived.Deep.CutBlock
import Derived.Deep.DeepCutAuto
import Derived.Deep.DeepMust
import Derived.Deep.RegionLaw
import Derived.Deep.RegionWith
import Derived.StillTailTactics
import Derived.Deep.RegionHeld3
import Derived.Test.YtichfhpgdhdiaaaGreatJ3
set_option maxRecDepth 100000
set_option maxHeartbeats 8000000
set_option linter.unusedVariables false
set_option linter.unusedSimpArgs false
open Go.Proofs.Tryz
namespace Go.Proofs.YtichfhpgdhdiaaaGreat
open Go.RowKit
def WrR:List Value→Int×ByteArray→Prop:=fun us x=>us = [.int .i64 x.1,.string x.2]∧-9223372036854775808≤x.1∧x.1≤9223372036854775807
def Qm(w:World)(v:Value)(l:List (Int×ByteArray)):Prop:=Sl w 2 WrR v l
theorem Qm.keep{w w':World}{v:Value}{l:List (Int×ByteArray)}(h:Qm w v l)(k:Keeps w w'):Qm w' v l:=Sl.keep h k fun _ _ h=>h
theorem Qm.form{w:World}{v:Value}{xs:List (Int×ByteArray)}(h:Qm w v xs):∃A c,v=.slice A xs.length c∧xs.length≤c∧c≤9223372036854775807:=Sl.form h
theorem Qm.get{w:World}{l:List (Int×ByteArray)}{A:Option Addr}{c n:Nat}(h:Qm w (.slice A n c) l){i:Nat}(hi:i<l.length):
  ∃b off,A=some ⟨b,off,none⟩∧w.cell? ⟨b,off+i*2,none⟩=some (.int .i64 l[i].1)∧w.cell? ⟨b,off+i*2+1,none⟩=some (.string l[i].2) ∧
   -9223372036854775808≤l[i].1∧l[i].1≤9223372036854775807:=by
 obtain⟨b,off,us,e,⟨rfl,h1,h2⟩,_,hc⟩:=Sl.get h (au hi) fZ ;exact⟨b,off,e,hc 0 _ rfl,hc 1 _ rfl,h1,h2⟩
def afq:List Value→Int→Prop:=fun us x=>us = [.int .i64 x]∧-9223372036854775808≤x∧x≤9223372036854775807
def Ints(w:World)(v:Value)(l:List Int):Prop:=Sl w 1 afq v l
theorem Ints.keep{w w':World}{v:Value}{l:List Int}(h:Ints w v l)(k:Keeps w w'):Ints w' v l:=Sl.keep h k fun _ _ h=>h
theorem Ints.form{w:World}{v:Value}{xs:List Int}(h:Ints w v xs):∃A c,v=.slice A xs.length c∧xs.length≤c∧c≤9223372036854775807:=Sl.form h
theorem Ints.get{w:World}{l:List Int}{A:Option Addr}{c n:Nat}(h:Ints w (.slice A n c) l){i:Nat}(hi:i<l.length):
  ∃b off,A=some ⟨b,off,none⟩∧w.cell? ⟨b,off+i,none⟩=some (.int .i64 l[i])∧-9223372036854775808≤l[i]∧l[i]≤9223372036854775807:=by
 obtain⟨b,off,us,e,⟨rfl,h1,h2⟩,_,hc⟩:=Sl.get h (au hi) fZ ;exact⟨b,off,e,by simpa using hc 0 _ rfl,h1,h2⟩
structure lK(w:World)(vs vp:Value)(d:Dk):Prop where
 sec:Strs w vs d.secs
 pen:Qm w vp d.pend
 z0 : -9223372036854775808≤d.size
 z1:d.size≤9223372036854775807
 f0 : -9223372036854775808≤d.left
 f1:d.left≤9223372036854775807
theorem lK.keep{w w':World}{vs vp:Value}{d:Dk}(h:lK w vs vp d)(k:Keeps w w'):lK w' vs vp d:=⟨h.sec.keep k,h.pen.keep k,h.z0,h.z1,h.f0,h.f1⟩
def Dsk(w:World)(v:Value)(d:Dk):Prop:=∃vs vp,v=.agg #[.int .i64 d.size,vs,vp,.int .i64 d.left]∧lK w vs vp d
theorem Dsk.keep{w w':World}{v:Value}{d:Dk}(h:Dsk w v d)(k:Keeps w w'):Dsk w' v d:=by
 obtain⟨vs,vp,e,h⟩:=h;exact⟨vs,vp,e,h.keep k⟩
theorem kU(w:World):lK w (.slice none 0 0) (.slice none 0 0) iL:=⟨Sl.nil _ _ _,Sl.nil _ _ _,by decide,by decide,by decide,by decide⟩
end Go.Proofs.YtichfhpgdhdiaaaGreat
namespace Go.Proofs.YtichfhpgdhdiaaaGreat
open Go.RowKit
def sO(s z:Int):Bool:=decide (1≤s∧s≤1000∧1≤z∧z≤512)
def hasB(n:Nat)(i:Int):Bool:=decide (0≤i∧i<n)
theorem Fx{s z:Int}(h:sO s z=true):1≤s∧s≤1000∧1≤z∧z≤512:=of_decide_eq_true h
theorem Ea{s z:Int}(h:sO s z=false):¬(1≤s∧s≤1000∧1≤z∧z≤512):=of_decide_eq_false h
theorem Ay{n:Nat}{i:Int}(h:hasB n i=true):0≤i∧i<n:=of_decide_eq_true h
theorem Eb{n:Nat}{i:Int}(h:hasB n i=false):i<0∨(n:Int)≤i:=by have:=of_decide_eq_false h;omega
theorem Kq(s z:Int)(w:World):Calls prog 96 #[.int .i64 s,.int .i64 z] w fun e w'=>e=.returned (.bool (sO s z))∧w=w':=by
 have key:sO s z=(decide (1≤s)&&decide (s≤1000)&&decide (1≤z)&&decide (z≤512)):=by
  unfold sO;rw[fC];simp;omega
 have K:=af key;clear key;by_cases h1:1≤s<;>by_cases h2:s≤1000<;>by_cases h3:1≤z<;>by_cases h4:z≤512
 all_goals
  go_enter func96,ntmps96;go_wp2;go_ret;exact⟨kS (by rw[K.out];simp[h1,h2,h3,h4]),rfl⟩
theorem OM(z l i:Int)(A:Option Addr)(n c:Nat)(vp:Value)(_hn:n≤c)(_hc:c≤9223372036854775807)(w:World):
  Calls prog 97 #[.agg #[.int .i64 z,.slice A n c,vp,.int .i64 l],.int .i64 i] w fun e w'=>e=.returned (.bool (hasB n i))∧Below w.heap.size w w':=by
 have key:hasB n i=(decide (0≤i)&&decide (i<(n:Int))):=by
  unfold hasB;rw[fC];simp
 have K:=af key;clear key;by_cases h1:0≤i<;>by_cases h2:i<(n:Int)
 all_goals
  go_enter func97,ntmps97;go_wp2;go_ret;exact⟨kS (by rw[K.out];simp[h1,h2]),(ah _ _).alloc (ak _) _⟩
theorem Kr(n:Int)(h0 : -9223372036854775808≤n)(h1:n≤9223372036854775807)(w:World):
  Calls prog 91 #[.int .i64 n] w fun e w'=>e=.returned (.int .i64 (jV n))∧w=w':=by
 by_cases h:0<n
 all_goals
  go_enter func91,ntmps91;go_wp2;go_ret;exact⟨jK (by unfold jV;first|rw[if_pos h]|rw[if_neg fZ ]),rfl⟩
end Go.Proofs.YtichfhpgdhdiaaaGreat
namespace Go.Proofs.YtichfhpgdhdiaaaGreat
open Go.RowKit
def zw(W:World)(n:Int)(e:Ending)(w':World):Prop:=e=.returned (.int .i64 n)∧Below W.heap.size W w'
theorem wH(W:World)(vs vp:Value)(d:Dk)(h:lK W vs vp d):
  Calls prog 49 #[.agg #[.int .i64 d.size,vs,vp,.int .i64 d.left]] W (zw W (sJ d)):=by
 obtain⟨size,secs,pend,left⟩:=d;obtain⟨hs,hp,z0,z1,f0,f1⟩:=h;simp only at hs hp z0 z1 f0 f1;generalize hfull:sJ ⟨size,secs,pend,left⟩=full;obtain⟨A,c,rfl,hc,hm⟩:=hs.form;obtain⟨P,cp,rfl,hcp,hmp⟩:=hp.form;have r1:=Kq secs.length size;cases hr:sO secs.length size
 ·have hF:full=2:=by
   rw[←hfull];unfold sJ;rw[if_pos (by have:=Ea hr;simp only;omega)]
  rw[hr]at r1;have R1:=af r1;have HF:=af hF;clear hfull hr r1 hF;go_enter func49,ntmps49;go_wp2_with (go_at_call 96;refine(R1.out _).mono ?_;rintro e w' ⟨rfl,rfl⟩);go_ret;exact⟨jK HF.out.symm,(ah _ _).alloc (ak _) _⟩
 ·have hF:full=AA size (uZ secs.length size (Ec left) pend) (secs.drop 0):=by
   rw[←hfull];unfold sJ;rw[if_neg (by have:=Fx hr;simp only;omega)];rfl
  rw[hr]at r1;have R1:=af r1;have HF:=af hF;clear hfull hr r1 hF;have hbk:=gV.new W #[.int .i64 size,.slice A secs.length c,.slice P pend.length cp,.int .i64 left] 56;have hd1:=(ah W.heap.size W).alloc (ak _) (.cells #[.int .i64 size,.slice A secs.length c,.slice P pend.length cp,.int .i64 left] 56);go_enter func49,ntmps49;go_wp2_with (go_at_call 96;refine(R1.out _).mono ?_;rintro e w' ⟨rfl,rfl⟩);generalize W.alloc (.cells #[.int .i64 size,.slice A secs.length c,.slice P pend.length cp,.int .i64 left] 56)=w1 at *
  have hs1:=hs.keep (dO hd1);have q0:=hbk.cl 0;have q2:=hbk.cl 2;have q3:=hbk.cl 3;go_loop [17] (fun t=>∃k:Nat,k≤secs.length∧t=.int .i64 k∧Hid (full=AA size (uZ secs.length size (Ec left) pend) (secs.drop k))) (fun t=>secs.length-(intOf t).toNat)
  case atStart=>exact⟨0,by omega,rfl,HF⟩
  case round =>
   obtain⟨k,hk,rfl,HK⟩:=hrel;clear HF;by_cases hlt:k<secs.length
   ·obtain⟨b,off,rfl,a1⟩:=hs1.get hlt;by_cases he:(secs[k].size:Int)=size
    ·have HE:=af (HK.out.trans (WK hlt he));have hb:(((secs[k].size:Int)) != size)=false:=by rw[he];simp
     clear HK he;go_wp2;go_round
     case rel=>exact⟨k+1,by omega,by go_num,HE⟩
     case measure=>simp[intOf];omega
    ·have HE:=af (HK.out.trans (SH hlt he));have hb:(((secs[k].size:Int)) != size)=true:=by simpa using he
     clear HK he;go_wp2;go_ret;exact⟨jK HE.out.symm,hd1⟩
   ·have HE:=af (HK.out.trans (SI hlt));clear HK;have HE2:Hid (full=uZ secs.length size (Ec left) (pend.drop 0)):=HE.out;clear HE;go_wp2;go_loopw [30] (fun t wr=>∃k:Nat,k≤pend.length∧t=.int .i64 k∧Hid (full=uZ secs.length size (Ec left) (pend.drop k))∧gV wr W.heap.size 56 #[.int .i64 size,.slice A secs.length c,.slice P pend.length cp,.int .i64 left]∧Below W.heap.size W wr) (fun t _=>pend.length-(intOf t).toNat)
    case atStart=>exact⟨0,by omega,rfl,HE2,hbk,hd1⟩
    case round =>
     clear HE2 q0 q2 q3 hbk hd1;obtain⟨k,hk,rfl,HK,hbk,hd⟩:=hrel;have hpk:=hp.keep (dO hd);have q0:=hbk.cl 0;have q1:=hbk.cl 1;have q2:=hbk.cl 2;have q3:=hbk.cl 3;by_cases hlt2:k<pend.length
     ·obtain⟨b,off,rfl,a1,a2,a3,a4⟩:=hpk.get hlt2;have hsz:=hd.size;have hbl:=hbk.lt;have hbw:=gV.new wr #[.int .i64 pend[k].1,.string pend[k].2] 173;have hbk2:=hbk.alloc (.cells #[.int .i64 pend[k].1,.string pend[k].2] 173);have hd2:=hd.alloc hsz (.cells #[.int .i64 pend[k].1,.string pend[k].2] 173);have hh:=OM size left pend[k].1 A secs.length c (.slice (some ⟨b,off,none⟩) pend.length cp) hc hm;generalize hw1:pend[k].1=i1 at *;generalize hw2:pend[k].2=i2 at *;cases hhas:hasB secs.length i1
      ·rw[hhas]at hh;have HE:=af (HK.out.trans (Nr hlt2 (by rw[hw1];exact Eb hhas)));have HH:=af hh;clear HK hw1 hw2 hhas hh;go_wp2_with fail;refine(HH.out _).mono ?_;rintro e w3 ⟨rfl,hb3⟩;have hd3:=hd2.trans (hb3.mono hd2.size);go_wp2;go_ret;exact⟨jK HE.out.symm,hd3⟩
      ·rw[hhas]at hh;have hnr:¬(pend[k].1<0∨(secs.length:Int)≤pend[k].1):=by rw[hw1];have:=Ay hhas;omega
       have HH:=af hh;by_cases he:(i2.size:Int)=size
       ·have HE:=af (HK.out.trans (WL hlt2 hnr (by rw[hw2];exact he)));have hb:(((i2.size:Int)) != size)=false:=by rw[he];simp
        clear HK hw1 hw2 hhas hh he hnr;go_wp2_with fail;refine(HH.out _).mono ?_;rintro e w3 ⟨rfl,hb3⟩;have hd3:=hd2.trans (hb3.mono hd2.size);have p9:=hbk2.keep hb3;have Zd:=hbw.keep hb3;clear q0 q1 q2 q3 hbk hbk2 hbw hd hd2 hb3;have q0:=p9.cl 0;have q1:=Zd.cl 1;go_wp2;go_roundw
        case rel=>exact⟨k+1,by omega,by go_num,HE,p9,hd3⟩
        case measure=>simp[intOf];omega
       ·have HE:=af (HK.out.trans (SK hlt2 hnr (by rw[hw2];exact he)));have hb:(((i2.size:Int)) != size)=true:=by simpa using he
        clear HK hw1 hw2 hhas hh he hnr;go_wp2_with fail;refine(HH.out _).mono ?_;rintro e w3 ⟨rfl,hb3⟩;have hd3:=hd2.trans (hb3.mono hd2.size);have p9:=hbk2.keep hb3;have Zd:=hbw.keep hb3;clear q0 q1 q2 q3 hbk hbk2 hbw hd hd2 hb3;have q0:=p9.cl 0;have q1:=Zd.cl 1;go_wp2;go_ret;exact⟨jK HE.out.symm,hd3⟩
     ·have HE:=af (HK.out.trans (SL hlt2));clear HK;by_cases hl:left < -1
      ·have HL:=af (show Ec left=2 by unfold Ec;rw[if_pos hl]);go_wp2;go_ret;exact⟨jK (HE.out.trans HL.out).symm,hd⟩
      ·have HL:=af (show Ec left=0 by unfold Ec;rw[if_neg hl]);go_wp2;go_ret;exact⟨jK (HE.out.trans HL.out).symm,hd⟩
end Go.Proofs.YtichfhpgdhdiaaaGreat
namespace Go.Proofs.YtichfhpgdhdiaaaGreat
open Go.RowKit
end Go.Proofs.YtichfhpgdhdiaaaGreat
namespace Go.Proofs.YtichfhpgdhdiaaaGreat
open Go.RowKit
theorem Tryz.SN:(Tryz.prog.info? 9).map (fun i=>(i.zero,i.size,i.bytes))=some (some (.string ByteArray.empty),1,16):=by kernel_rfl
theorem Tryz.OO:(Tryz.prog.info? 173).map (fun i=>(i.zero,i.size,i.bytes))=some (some (.agg #[.int .i64 0,.string ByteArray.empty]),2,24):=by kernel_rfl
section
variable {w:World}{base n:Nat}{e:TypeId}{v:Value}{xs:List Value}
theorem CQ{sz:Nat}(h:w.ownsRow base e sz v n xs)(hn:0<n):∃g cap,v=.slice (some ⟨g,0,none⟩) n cap∧base≤g∧g<w.heap.size∧n≤cap∧cap≤9223372036854775807:=by
 rcases h.2 with ⟨rfl,rfl⟩|⟨g,cap,cur,rfl,hb,hg,h1,h2,_⟩
 ·omega
 ·exact⟨g,cap,rfl,hb,(ax.1 hg).1,h1,by unfold maxLen at h2;omega⟩
theorem AB{g cap:Nat}(h:w.ownsRow base e 1 (.slice (some ⟨g,0,none⟩) n cap) n xs){i:Nat}{u:Value}(hi:xs[i]?=some u):
  w.cell? ⟨g,i,none⟩=some u∧w.frozen? ⟨g,i,none⟩=false:=by
 rcases h.2 with ⟨h1,_⟩|⟨g',cap',cur,h1,hb,hg,hn,hm,hc,hx⟩
 ·cases h1
 ·cases h1;have hB:gV w g e cur:=hg;refine⟨?_,hB.frozen i⟩;rw[←hx,bR]at hi;split at hi
  ·exact hB.cell (by simpa using hi)
  ·cases hi
theorem CY{g cap:Nat}(h:w.ownsRow base e 1 (.slice (some ⟨g,0,none⟩) n cap) n xs){i:Nat}(u:Value):
  (w.setCell ⟨g,i,none⟩ u).ownsRow base e 1 (.slice (some ⟨g,0,none⟩) n cap) n (xs.set i u):=by
 refine⟨by rw[aX];exact h.1,?_⟩;rcases h.2 with ⟨h1,_⟩|⟨g',cap',cur,h1,hb,hg,hn,hm,hc,hx⟩
 ·cases h1
 ·cases h1;have hB:gV w g e cur:=hg;refine .inr ⟨g,cap,cur.setIfInBounds i u,rfl,hb,hB.set i u,hn,hm,by simpa using hc,?_⟩;rw[←hx,Array.toList_setIfInBounds,List.take_set]
end
theorem Ee:∀(xs:List ByteArray),jF 1 RG xs (xs.map .string)
 |[]=>rfl
 |x::xs=>⟨[.string x],_,rfl,rfl,rfl,Ee xs⟩
def qo(n:Nat):ByteArray:=⟨Array.replicate n 0⟩
theorem AJ(n:Nat):(qo n).size=n:=by simp[qo,ByteArray.size]
theorem Qn(n:Nat):qo n++⟨#[0]⟩=qo (n+1):=by
 apply dX;simp[qo,dm]
theorem Qo(n:Nat)(hn:n≤100000)(w:World):
  Calls prog 38 #[.int .i64 n] w fun e w'=>e=.returned (.string (qo n))∧w=w':=by
 go_enter func38,ntmps38;go_wp2;go_loop [3,4] (fun s i=>∃k:Nat,k≤n∧i=.int .i64 k∧s=.string (qo k)) (fun _ i=>n-(intOf i).toNat)
 case atStart=>exact⟨0,by omega,rfl,rfl⟩
 case round =>
  obtain⟨k,hk,rfl,rfl⟩:=hrel;by_cases hlt:k<n
  ·have HS:=af (Qn k);have hz:=AJ k;generalize qo k=T at *;go_wp2;go_round
   case rel=>exact⟨k+1,by omega,by go_num,by rw[HS.out]⟩
   case measure=>simp[intOf];omega
  ·obtain rfl:k=n:=by omega
   go_wp2;go_ret;exact⟨rfl,rfl⟩
theorem Kt{w:World}{base:Nat}{v:Value}{xs:List ByteArray}(h:w.ownsRow base 9 1 v xs.length (xs.map .string)):Strs w v xs :=
 Ow.sl (e:=9) (base:=base) ⟨_,h,Ee xs⟩
theorem Ku{w:World}{A:Option Addr}{n c:Nat}{xs:List ByteArray}(h:Strs w (.slice A n c) xs):iM w A (xs.map .string):=by
 obtain⟨A',c',vs,e,h1,h2,h3,h4⟩:=h;cases e;have:∀{xs:List ByteArray} {vs:List Value},jF 1 RG xs vs→vs=xs.map .string:=by
  intro xs
  induction xs with
  |nil=>intro vs h;exact h
  |cons x xs ih =>
   rintro vs ⟨us,vs',rfl,_,rfl,ht⟩;rw[ih ht];rfl
 rw[←this h4];exact h3
def qp(w:World)(base:Nat)(v:Value)(l:List ByteArray):Prop:=w.ownsRow base 9 1 v l.length (l.map .string)
section
variable {w w':World}{base:Nat}{v:Value}{l:List ByteArray}
theorem qp.strs(h:qp w base v l):Strs w v l:=Kt h
theorem qp.keep(h:qp w base v l)(hb:Below w.heap.size w w'):qp w' base v l:=(iY (M:=fun _=>False) h (fun _ _ h=>h)) _ (jC hb _)
theorem qp.far(h:qp w base v l){p:Addr}(hp:p.block<base)(u:Value):qp (w.setCell p u) base v l :=
 (iY (M:=fun g=>g=p.block) h (fun g hg e=>by have:=(World.ownsRow.lt h g hg);omega)) _ (Agree.setCell (M:=fun g=>g=p.block) w rfl u)
theorem qp.drewN(h:qp w base v l)(n:Nat):qp (w.drewN n) base v l:=h
theorem qp.drew(h:qp w base v l):qp w.drew base v l:=h
theorem qp.alloc(h:qp w base v l)(o:Obj):qp (w.alloc o) base v l:=World.ownsRow.alloc h o
theorem qp.SQ(h:qp w base v l){b:Nat}(hb:b≤base):qp w b v l:=by
 refine⟨h.1,?_⟩;rcases h.2 with h1|⟨g,cap,cur,h1,h2,h3⟩
 ·exact .inl h1
 ·exact .inr ⟨g,cap,cur,h1,by omega,h3⟩
end
end Go.Proofs.YtichfhpgdhdiaaaGreat
namespace Go.Proofs.YtichfhpgdhdiaaaGreat
open Go.RowKit
theorem zx{w:World}{base:Nat}{e:TypeId}{size n:Nat}{v:Value}{xs:List Value}(h:w.ownsRow base e size v n xs):w.drew.ownsRow base e size v n xs:=h
theorem kG{B:Nat}{a w:World}(h:Below B a w):Below B a w.drew:=below_drewN' h 1
theorem Kv(secs:List ByteArray){p:List (Int×ByteArray)}{k m:Nat}{s:ByteArray}(h:k<p.length)(h1:p[k].1=(m:Int))(h2:p[k].2=s):
  (p.take (k+1)).foldl si secs=((p.take k).foldl si secs).set m s:=by
 rw[Ci _ _ _ h];unfold si;rw[h1,h2,aT]
end Go.Proofs.YtichfhpgdhdiaaaGreat
namespace Go.Proofs.YtichfhpgdhdiaaaGreat
open Go.RowKit
def SS(W:World)(s:ByteArray)(n:Int)(e:Ending)(w':World):Prop:=e=.returned (.tuple #[.string s,.int .i64 n])∧Below W.heap.size W w'
theorem SS.mk{W w':World}{s t:ByteArray}{n m:Int}(h1:n=m)(h2:s=t)(hb:Below W.heap.size W w'):SS W t m (.returned (.tuple #[.string s,.int .i64 n])) w':=by
 subst h1 h2;exact⟨rfl,hb⟩
end Go.Proofs.YtichfhpgdhdiaaaGreat
namespace Go.Proofs.YtichfhpgdhdiaaaGreat
open Go.RowKit
theorem ku{w w':World}{g:Nat}{t:TypeId}{a b c d:Value}(h:gV w g t #[a,b,c,d])(hb:Below w.heap.size w w'):
  w'.cell? ⟨g,0,none⟩=some a∧w'.cell? ⟨g,1,none⟩=some b∧w'.cell? ⟨g,2,none⟩=some c∧w'.cell? ⟨g,3,none⟩=some d :=
 have k:=h.keep hb
 ⟨k.cl 0,k.cl 1,k.cl 2,k.cl 3⟩
theorem gV.uR{w:World}{g:Nat}{t:TypeId}{a0 a1 a2 a3:Value}(h:gV w g t #[a0,a1,a2,a3])(b0 b1 b2 b3:Value):
  gV ((((w.setCell ⟨g,0,none⟩ b0).setCell ⟨g,1,none⟩ b1).setCell ⟨g,2,none⟩ b2).setCell ⟨g,3,none⟩ b3) g t #[b0,b1,b2,b3] :=
 (((h.set 0 b0).set 1 b1).set 2 b2).set 3 b3
theorem kr{B g:Nat}{a w:World}(h:Below B a w)(hg:B≤g)(b0 b1 b2 b3:Value):
  Below B a ((((w.setCell ⟨g,0,none⟩ b0).setCell ⟨g,1,none⟩ b1).setCell ⟨g,2,none⟩ b2).setCell ⟨g,3,none⟩ b3) :=
 (((h.setCell (p:=⟨g,0,none⟩) hg _).setCell (p:=⟨g,1,none⟩) hg _).setCell (p:=⟨g,2,none⟩) hg _).setCell (p:=⟨g,3,none⟩) hg _
theorem nD{w w':World}{g:Nat}{t:TypeId}{a b c d:Value}(h:gV w g t #[a,b,c,d])(hb:Below w.heap.size w w'):
  w'.cell? ⟨g,0,none⟩=some a∧w'.cell? ⟨g,1,none⟩=some b∧w'.cell? ⟨g,2,none⟩=some c∧w'.cell? ⟨g,3,none⟩=some d ∧
   w'.frozen? ⟨g,0,none⟩=false∧w'.frozen? ⟨g,1,none⟩=false∧w'.frozen? ⟨g,2,none⟩=false∧w'.frozen? ⟨g,3,none⟩=false :=
 have k:=h.keep hb
 ⟨k.cl 0,k.cl 1,k.cl 2,k.cl 3,k.frozen 0,k.frozen 1,k.frozen 2,k.frozen 3⟩
def lV(W:World)(d:Dk)(n:Int)(e:Ending)(w':World):Prop :=
 ∃vs vp,e=.returned (.tuple #[.agg #[.int .i64 d.size,vs,vp,.int .i64 d.left],.int .i64 n])∧lK w' vs vp d∧Below W.heap.size W w'
theorem lV.mk{W w':World}{vs vp:Value}{d d':Dk}{n m z l:Int}(h1:n=m)(h2:d'=d)(hz:z=d'.size)(hl:l=d'.left)(hd:lK w' vs vp d')(hb:Below W.heap.size W w'):
  lV W d m (.returned (.tuple #[.agg #[.int .i64 z,vs,vp,.int .i64 l],.int .i64 n])) w':=by
 subst h1 h2 hz hl;exact⟨_,_,rfl,hd,hb⟩
theorem BM{n:Int}(h0 : -9223372036854775808≤n)(h1:n≤9223372036854775807):-9223372036854775808≤jV n∧jV n≤9223372036854775807:=by
 unfold jV;split<;>omega
theorem Ze{d:Dk}(h:sJ d≠0):Kw d=1∧Qp d=iL:=by
 have e:Kw d=1:=by unfold Kw;rw[if_pos h]
 exact⟨e,by unfold Qp;rw[e,if_neg gm ,if_neg gm ]⟩
theorem WM{d:Dk}(h:sJ d=0)(h2:d.left=0):Kw d=20∧Qp d=d:=by
 have e:Kw d=20:=by unfold Kw;rw[if_neg (by simp[h]),if_pos h2]
 exact⟨e,by unfold Qp;rw[e,if_neg gm ,if_pos rfl]⟩
theorem abO{d:Dk}(h:sJ d=0)(h2:¬d.left=0):Kw d=0∧Qp d=⟨d.size,cur d,[],jV d.left⟩:=by
 have e:Kw d=0:=by unfold Kw;rw[if_neg (by simp[h]),if_neg h2]
 exact⟨e,by unfold Qp;rw[e,if_pos rfl]⟩
end Go.Proofs.YtichfhpgdhdiaaaGreat
namespace Go.Proofs.YtichfhpgdhdiaaaGreat
open Go.RowKit
def lN:List (Int×ByteArray)→List Value
 |[]=>[]
 |x::l=>.int .i64 x.1::.string x.2::lN l
theorem vg:∀l,(lN l).length=l.length*2
 |[]=>rfl
 |x::l=>by simp[lN,vg l];omega
theorem vv:∀a b,lN (a++b)=lN a++lN b
 |[],_=>rfl
 |x::a,b=>by simp[lN,vv a b]
theorem BN:∀l,∀u∈lN l,u.oneCell'=true
 |[],u,h=>by cases h
 |x::l,u,h=>by
  rcases bC.1 h with rfl|h
  ·rfl
  ·rcases bC.1 h with rfl|h
   ·rfl
   ·exact BN l u h
theorem Ky:∀l:List (Int×ByteArray),(∀x∈l,-9223372036854775808≤x.1∧x.1≤9223372036854775807)→jF 2 WrR l (lN l)
 |[],_=>rfl
 |x::l,h=>⟨[.int .i64 x.1,.string x.2],_,rfl,rfl,⟨rfl,(h x dR).1,(h x dR).2⟩,Ky l fun y hy=>h y (List.mem_cons_of_mem _ hy)⟩
theorem Kz:∀{l:List (Int×ByteArray)} {vs:List Value},jF 2 WrR l vs→vs=lN l∧∀x∈l,-9223372036854775808≤x.1∧x.1≤9223372036854775807
 |[],vs,h=>⟨h,fun _ h=>by cases h⟩
 |x::l,vs,⟨us,vs',e,_,⟨e2,h1,h2⟩,ht⟩=>by
  obtain⟨r1,r2⟩:=Kz ht;subst e e2 r1;exact⟨rfl,fun y hy=>by rcases bC.1 hy with rfl|hy;exact⟨h1,h2⟩;exact r2 y hy⟩
theorem Qq{w:World}{A:Option Addr}{n c:Nat}{l:List (Int×ByteArray)}(h:Qm w (.slice A n c) l):iM w A (lN l)∧∀x∈l,-9223372036854775808≤x.1∧x.1≤9223372036854775807:=by
 obtain⟨A',c',vs,e,h1,h2,h3,h4⟩:=h;cases e;obtain⟨rfl,r⟩:=Kz h4;exact⟨h3,r⟩
def Ns(w:World)(base:Nat)(v:Value)(l:List (Int×ByteArray)):Prop:=w.ownsRow base 173 2 v l.length (lN l)
section
variable {w w':World}{base:Nat}{v:Value}{l:List (Int×ByteArray)}
theorem SV(h:Ns w base v l)(hr:∀x∈l,-9223372036854775808≤x.1∧x.1≤9223372036854775807):Qm w v l:=Ow.sl (e:=173) (base:=base) ⟨_,h,Ky l hr⟩
theorem Ns.far(h:Ns w base v l){p:Addr}(hp:p.block<base)(u:Value):Ns (w.setCell p u) base v l :=
 (iY (M:=fun g=>g=p.block) h (fun g hg e=>by have:=(World.ownsRow.lt h g hg);omega)) _ (Agree.setCell (M:=fun g=>g=p.block) w rfl u)
theorem Ns.keep(h:Ns w base v l)(hb:Below w.heap.size w w'):Ns w' base v l:=(iY (M:=fun _=>False) h (fun _ _ h=>h)) _ (jC hb _)
end
theorem Zf{d:Dk}{i:Int}{s:ByteArray}(h:sJ d≠0):zy d i s=1∧AL d i s=iL:=by
 have e:zy d i s=1:=by unfold zy;rw[if_pos h]
 exact⟨e,by unfold AL;rw[e,if_neg gm ,if_neg gm ]⟩
theorem Zg{d:Dk}{i:Int}{s:ByteArray}(h:sJ d=0)(h2:i<0∨(d.secs.length:Int)≤i):zy d i s=2∧AL d i s=iL:=by
 have e:zy d i s=2:=by unfold zy;rw[if_neg (by simp[h]),if_pos h2]
 exact⟨e,by unfold AL;rw[e,if_neg gm ,if_neg gm ]⟩
theorem Zh{d:Dk}{i:Int}{s:ByteArray}(h:sJ d=0)(h2:¬(i<0∨(d.secs.length:Int)≤i))(h3:¬(s.size:Int)=d.size):zy d i s=11∧AL d i s=iL:=by
 have e:zy d i s=11:=by unfold zy;rw[if_neg (by simp[h]),if_neg h2,if_pos h3]
 exact⟨e,by unfold AL;rw[e,if_neg gm ,if_neg gm ]⟩
theorem WN{d:Dk}{i:Int}{s:ByteArray}(h:sJ d=0)(h2:¬(i<0∨(d.secs.length:Int)≤i))(h3:(s.size:Int)=d.size)(h4:d.left=0):zy d i s=20∧AL d i s=d:=by
 have e:zy d i s=20:=by unfold zy;rw[if_neg (by simp[h]),if_neg h2,if_neg (by simp[h3]),if_pos h4]
 exact⟨e,by unfold AL;rw[e,if_neg gm ,if_pos rfl]⟩
theorem abP{d:Dk}{i:Int}{s:ByteArray}(h:sJ d=0)(h2:¬(i<0∨(d.secs.length:Int)≤i))(h3:(s.size:Int)=d.size)(h4:¬d.left=0):
  zy d i s=0∧AL d i s={ d with pend:=d.pend++[(i,s)],left:=jV d.left }:=by
 have e:zy d i s=0:=by unfold zy;rw[if_neg (by simp[h]),if_neg h2,if_neg (by simp[h3]),if_neg h4]
 exact⟨e,by unfold AL;rw[e,if_pos rfl]⟩
end Go.Proofs.YtichfhpgdhdiaaaGreat
namespace Go.Proofs.YtichfhpgdhdiaaaGreat
open Go.RowKit
theorem SX{size:Int}{L:List ByteArray}{p:List (Int×ByteArray)}{ps:List Int}{k m:Nat}{s:ByteArray}(hk:k<p.length)(h1:p[k].1=(m:Int))(h2:p[k].2=s)(hm:m<L.length):
  kP size L (p.drop k) (ps.drop k)=kP size (L.set m (qw (pick (ps.getD k 0) size) s L[m])) (p.drop (k+1)) (ps.drop (k+1)):=by
 rw[aR hk,kP,h1,h2,aT];have e1:(ps.drop k).headD 0=ps.getD k 0:=by
  rw[List.headD_eq_head?_getD,List.head?_drop,bW]
 have e2:(ps.drop k).tail=ps.drop (k+1):=by rw[List.tail_drop]
 have e3:L.getD m ⟨#[]⟩=L[m]:=by rw[bW,au hm];rfl
 rw[e1,e2,e3]
theorem WO{size:Int}{L:List ByteArray}{p:List (Int×ByteArray)}{ps:List Int}{k:Nat}(hk:¬k<p.length):kP size L (p.drop k) (ps.drop k)=L:=by
 rw[dG fZ ];cases (ps.drop k)<;>rfl
theorem Qr(z:Int):pick 0 z=0:=by simp[pick]
theorem Qs(s t:ByteArray):qw 0 s t=t:=by
 apply dX;simp[qw]
theorem Qt{size:Int}{L:List ByteArray}(h:∀s∈L,(s.size:Int)=size){m:Nat}{t:ByteArray}(ht:(t.size:Int)=size):∀s∈L.set m t,(s.size:Int)=size:=fun s hs=>by
 rcases bS hs with h'|rfl
 ·exact h s h'
 ·exact ht
theorem KF{w:World}{base n cap g:Nat}{l:List ByteArray}(h:qp w base (.slice (some ⟨g,0,none⟩) n cap) l){r:Nat}(hr:g≠r)(b0 b1 b2 b3:Value):
  qp ((((w.setCell ⟨r,0,none⟩ b0).setCell ⟨r,1,none⟩ b1).setCell ⟨r,2,none⟩ b2).setCell ⟨r,3,none⟩ b3) base (.slice (some ⟨g,0,none⟩) n cap) l :=
 (iY (M:=fun b=>b=r) h (fun b hb e=>by cases hb;exact hr e)) _
  ((((Agree.set1 w r 0 b0).trans (Agree.set1 _ r 1 b1)).trans (Agree.set1 _ r 2 b2)).trans (Agree.set1 _ r 3 b3))
def zA(W:World)(d:Dk)(e:Ending)(w':World):Prop :=
 ∃vs vp,e=.returned (.agg #[.int .i64 d.size,vs,vp,.int .i64 d.left])∧lK w' vs vp d∧Below W.heap.size W w'
theorem zA.mk{W w':World}{vs vp:Value}{d d':Dk}{z l:Int}(h2:d'=d)(hz:z=d'.size)(hl:l=d'.left)(hd:lK w' vs vp d')(hb:Below W.heap.size W w'):
  zA W d (.returned (.agg #[.int .i64 z,vs,vp,.int .i64 l])) w':=by
 subst h2 hz hl;exact⟨_,_,rfl,hd,hb⟩
theorem SY{d:Dk}{ps:List Int}(h:sJ d≠0):iL=vw d ps:=by unfold vw;rw[if_pos h]
theorem WQ{d:Dk}{ps:List Int}(h:sJ d=0):(⟨d.size,kP d.size d.secs d.pend ps,[],-1⟩:Dk)=vw d ps:=by unfold vw;rw[if_neg (by simp[h])]
end Go.Proofs.YtichfhpgdhdiaaaGreat
namespace Go.Proofs.YtichfhpgdhdiaaaGreat
open Go.RowKit
end Go.Proofs.YtichfhpgdhdiaaaGreat
namespace Go.Proofs.YtichfhpgdhdiaaaGreat
open Go.RowKit
def KG(n z:Nat):Dk:=⟨z,List.replicate n (qo z),[],-1⟩
def S9(W:World)(z k:Nat)(wr:World):Prop :=
 ∃v,wr.ownsRow (W.heap.size+2) 9 1 v k ((List.replicate k (qo z)).map .string)∧gV wr W.heap.size 56 #[.int .i64 0,.slice none 0 0,.slice none 0 0,.int .i64 0] ∧
  gV wr (W.heap.size+1) 56 #[.int .i64 z,v,.slice none 0 0,.int .i64 (-1)]∧Below W.heap.size W wr
theorem Ta(z k:Nat):(List.replicate k (qo z)).map Value.string++[.string (qo z)]=(List.replicate (k+1) (qo z)).map Value.string:=by
 rw[List.replicate_succ',eG];rfl
end Go.Proofs.YtichfhpgdhdiaaaGreat
