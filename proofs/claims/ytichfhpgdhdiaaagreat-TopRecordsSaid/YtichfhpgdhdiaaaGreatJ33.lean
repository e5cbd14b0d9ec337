/- Pools and lists of digests in memory -/
import Derived.Test.YtichfhpgdhdiaaaGreatJ22
import Derived.Test.YtichfhpgdhdiaaaGreatJ31
import Derived.Test.YtichfhpgdhdiaaaGreatJ3
import Derived.Test.YtichfhpgdhdiaaaGreatJ2
set_option maxRecDepth 100000
set_option maxHeartbeats 8000000
set_option linter.unusedVariables false
set_option linter.unusedSimpArgs false
open Go.Proofs.Tryz
namespace Go.Proofs.YtichfhpgdhdiaaaGreat
open Go.RowKit
theorem Dn(x:Dg):(rq x).length=2:=rfl
def qi(w:World)(v:Value)(l:List Dg):Prop:=Sl w 2 (fun us d=>us=rq d) v l
theorem qi.keep{w w':World}{v:Value}{l:List Dg}(h:qi w v l)(k:Keeps w w'):qi w' v l:=Sl.keep h k fun _ _ h=>h
theorem qi.form{w:World}{v:Value}{l:List Dg}(h:qi w v l):∃A c,v=.slice A l.length c∧l.length≤c∧c≤9223372036854775807:=Sl.form h
theorem qi.nil(w:World):qi w (.slice none 0 0) []:=Sl.nil _ _ _
theorem qi.get{w:World}{l:List Dg}{A:Option Addr}{c n:Nat}(h:qi w (.slice A n c) l){i:Nat}{x:Dg}(hi:l[i]?=some x):
  ∃b off,A=some ⟨b,off,none⟩∧w.cell? ⟨b,off+i*2,none⟩=some (.int .u64 (x.1.toNat:Int))∧w.cell? ⟨b,off+i*2+1,none⟩=some (.int .u64 (x.2.toNat:Int)):=by
 obtain⟨b,off,us,e,rfl,_,hc⟩:=Sl.get h hi fZ ;exact⟨b,off,e,hc 0 _ rfl,hc 1 _ rfl⟩
theorem G5:∀(xs:List Dg),jF 2 (fun us x=>us=rq x) xs (xs.flatMap rq)
 |[]=>rfl
 |x::xs=>⟨rq x,xs.flatMap rq,by rw[aG],rfl,rfl,G5 xs⟩
abbrev It:=Dg×List UInt8
def sG(x:It):List Value:=[.int .u64 (x.1.1.toNat:Int),.int .u64 (x.1.2.toNat:Int),.string (fu x.2)]
theorem Pw(x:It):(sG x).length=3:=rfl
def og(w:World)(v:Value)(p:List It):Prop:=Sl w 3 (fun us x=>us=sG x) v p
theorem og.keep{w w':World}{v:Value}{p:List It}(h:og w v p)(k:Keeps w w'):og w' v p:=Sl.keep h k fun _ _ h=>h
theorem og.form{w:World}{v:Value}{p:List It}(h:og w v p):∃A c,v=.slice A p.length c∧p.length≤c∧c≤9223372036854775807:=Sl.form h
theorem og.nil(w:World):og w (.slice none 0 0) []:=Sl.nil _ _ _
theorem og.get{w:World}{p:List It}{A:Option Addr}{c n:Nat}(h:og w (.slice A n c) p){i:Nat}{x:It}(hi:p[i]?=some x):
  ∃b off,A=some ⟨b,off,none⟩∧w.cell? ⟨b,off+i*3,none⟩=some (.int .u64 (x.1.1.toNat:Int))∧w.cell? ⟨b,off+i*3+1,none⟩=some (.int .u64 (x.1.2.toNat:Int))∧w.cell? ⟨b,off+i*3+2,none⟩=some (.string (fu x.2)):=by
 obtain⟨b,off,us,e,rfl,_,hc⟩:=Sl.get h hi fZ ;exact⟨b,off,e,hc 0 _ rfl,hc 1 _ rfl,hc 2 _ rfl⟩
theorem G6:∀(xs:List It),jF 3 (fun us x=>us=sG x) xs (xs.flatMap sG)
 |[]=>rfl
 |x::xs=>⟨sG x,xs.flatMap sG,by rw[aG],rfl,rfl,G6 xs⟩
theorem Px{w:World}{B:Nat}{v:Value}{xs:List It}(h:w.ownsRow B 74 3 v xs.length (xs.flatMap sG)):og w v xs:=by
 rcases id h.2 with ⟨rfl,hn⟩|⟨g,cap,cur,rfl,_,hg,hnc,hcm,_,htk⟩
 ·have:xs = []:=bL.1 hn;subst this;exact Sl.nil _ _ _
 ·refine⟨some ⟨g,0,none⟩,cap,xs.flatMap sG,rfl,hnc,hcm,fun k u hu=>⟨g,0,rfl,?_⟩,G6 xs⟩;have hk:=(ay.1 hu).1;rw[lU Pw]at hk;rw[bH,h.cellAt k hk];exact hu
theorem ze{w:World}{B:Nat}{v:Value}{xs:List Dg}(h:w.ownsRow B 39 2 v xs.length (xs.flatMap rq)):qi w v xs:=by
 rcases id h.2 with ⟨rfl,hn⟩|⟨g,cap,cur,rfl,_,hg,hnc,hcm,_,htk⟩
 ·have:xs = []:=bL.1 hn;subst this;exact Sl.nil _ _ _
 ·refine⟨some ⟨g,0,none⟩,cap,xs.flatMap rq,rfl,hnc,hcm,fun k u hu=>⟨g,0,rfl,?_⟩,G5 xs⟩;have hk:=(ay.1 hu).1;rw[lU Dn]at hk;rw[bH,h.cellAt k hk];exact hu
theorem eqDgD(n:Nat)(a b c d:Int)(w:World):(Op.equalIn (n+2) 39 (.agg #[.int .u64 a,.int .u64 b]) (.agg #[.int .u64 c,.int .u64 d])).run prog w=.ok (a==c&&b==d) w:=by
 have u3:=underlying37;have a3:=isAgg37;have z3:=sizeOf37;rw[Op.equalIn];simp only[Sem.run_bind,run_underlying underlying39,Result.andThen_ok];simp only[Std.Legacy.Range.forIn_eq_forIn_range',Std.Legacy.Range.size,eP,fP,Nat.div_one,List.range'_succ,List.range'_zero,List.forIn_cons,List.forIn_nil];go_simp;by_cases h1:a=c<;>by_cases h2:b=d<;>simp[h1,h2]
@[go_sem] theorem eqDgIt (a b c d:Int) (w:World):(Op.equalIn 9999 39 (.agg #[.int .u64 a,.int .u64 b]) (.agg #[.int .u64 c,.int .u64 d])).run prog w=.ok (a==c&&b==d) w:=eqDgD 9997 a b c d w
theorem UX(a b:List UInt8):((fu a).toList==(fu b).toList)=decide (a=b):=by
 rw[gQ,gQ,fC];simp
theorem UR(a b:List UInt8):((fu a).toList=(fu b).toList)=(a=b):=by
 rw[gQ,gQ]
def uH(p:List It):Bool:=decide (40<p.length)||p.any fun x=>decide (500<x.2.length)
theorem Mc{p:List It}{k:Nat}{x:It}(hx:p[k]?=some x):((p.drop k).any fun x=>decide (500<x.2.length))=(decide (500<x.2.length)||(p.drop (k+1)).any fun x=>decide (500<x.2.length)):=by
 obtain⟨h,rfl⟩:=ay.1 hx;rw[aR h,List.any_cons]
def GrI(p:List It)(k:Nat)(r:Bool):Prop:=r=(p.drop k).any fun x=>decide (500<x.2.length)
theorem GrI.step{p:List It}{k:Nat}{x:It}{r:Bool}(h:GrI p k r)(hx:p[k]?=some x):r=(decide (500<x.2.length)||(p.drop (k+1)).any fun x=>decide (500<x.2.length)):=by
 rw[h,←Mc hx]
theorem Ot(w:World)(v:Value)(p:List It)(h:og w v p):
  Calls prog 24 #[v] w fun e w'=>e=.returned (.bool (uH p))∧w'=w:=by
 obtain⟨A,c,rfl,hc,hm⟩:=h.form;by_cases hl:40<p.length
 ·have HE:Hid (uH p=true):=by show _=_;unfold uH;rw[decide_eq_true hl];rfl
  have hl':(40:Int)<(p.length:Int):=by omega
  go_enter func24,ntmps24;go_wp2;go_ret;exact⟨kS HE.out.symm,rfl⟩
 ·have H0:Hid (GrI p 0 (uH p)):=by show _=_;unfold uH;rw[decide_eq_false hl];rfl
  have hl':¬(40:Int)<(p.length:Int):=by omega
  have HP:=af h;generalize uH p=r at *;clear h;go_enter func24,ntmps24;go_wp2;go_loopw [3] (fun iv wr=>∃k:Nat,k≤p.length∧iv=.int .i64 k∧Hid (GrI p k r)∧wr=w) (fun iv _=>p.length-(intOf iv).toNat)
  case atStart=>exact⟨0,by omega,rfl,H0,rfl⟩
  case round =>
   clear H0;obtain⟨k,hk,rfl,HR,rfl⟩:=hrel;by_cases hlt:k<p.length
   ·obtain⟨x,hx⟩:∃x,p[k]?=some x:=⟨_,au hlt⟩;obtain⟨b1,o1,rfl,c0,c1,c2⟩:=HP.out.get hx;have HS:=HR.out.step hx;have hsz:(fu x.2).size=x.2.length:=gL _;by_cases hg:500<x.2.length
    ·have HE:Hid (r=true):=by show _=_;rw[HS,decide_eq_true hg];rfl
     have hg':(500:Int)<(x.2.length:Int):=by omega
     clear HS HR hx;go_wp2;go_ret;exact⟨kS HE.out.symm,rfl⟩
    ·have HE:Hid (GrI p (k+1) r):=by show _=_;rw[HS,decide_eq_false hg];rfl
     have hg':¬(500:Int)<(x.2.length:Int):=by omega
     clear HS HR hx;go_wp2;go_roundw
     case rel=>exact⟨k+1,by omega,by go_num,HE,trivial⟩
     case measure=>simp[intOf];omega
   ·have HE:Hid (r=false):=by
     show _=_;rw[HR.out,cO fZ ];rfl
    have hlt':¬(k:Int)<(p.length:Int):=by omega
    go_wp2;go_ret;exact⟨kS HE.out.symm,rfl⟩
def SmI(p q:List It)(k:Nat)(r:Bool):Prop:=r=decide (p.drop k=q.drop k)
theorem Bw(w:World)(v u:Value)(p q:List It)(h:og w v p)(g:og w u q):
  Calls prog 11 #[v,u] w fun e w'=>e=.returned (.bool (decide (p=q)))∧jZ w w':=by
 obtain⟨A,c,rfl,hc,hm⟩:=h.form;obtain⟨B,d,rfl,hd,hn⟩:=g.form;by_cases hl:p.length=q.length
 ·have H0:Hid (SmI p q 0 (decide (p=q))):=rfl;have hb:((p.length:Int)==(q.length:Int))=true:=by simp[hl]
  have HP:=af h;have HQ:=af g;have HL:=af hl;generalize decide (p=q)=r at *;clear h g hl;go_enter func11,ntmps11;go_wp2;go_loopw [5] (fun iv wr=>∃k:Nat,k≤p.length∧iv=.int .i64 k∧Hid (SmI p q k r)∧jZ w wr) (fun iv _=>p.length-(intOf iv).toNat)
  case atStart=>exact⟨0,by omega,rfl,H0,jZ.refl _⟩
  case round =>
   clear H0;obtain⟨k,hk,rfl,HR,hdr⟩:=hrel;by_cases hlt:k<p.length
   ·have adx:k<q.length:=by rw[←HL.out];exact hlt
    obtain⟨x,hx⟩:∃x,p[k]?=some x:=⟨_,au hlt⟩;obtain⟨y,hy⟩:∃y,q[k]?=some y:=⟨_,au adx⟩;obtain⟨b1,o1,rfl,c0,c1,c2⟩:=(HP.out.keep hdr.keeps).get hx;obtain⟨b2,o2,rfl,d0,d1,d2⟩:=(HQ.out.keep hdr.keeps).get hy;have HDR:=af hdr;have hxy:(p.drop k=q.drop k)↔(x=y∧p.drop (k+1)=q.drop (k+1)):=by
     obtain⟨_,rfl⟩:=ay.1 hx;obtain⟨_,rfl⟩:=ay.1 hy;rw[aR hlt,aR adx,cu]
    have hkq:(k:Int)<(q.length:Int):=by omega
    by_cases h1:x.1=y.1
    ·have hb2:=xG x.1 y.1;rw[decide_eq_true h1]at hb2;by_cases h2:x.2=y.2
     ·have hb3:((fu x.2).toList=(fu y.2).toList):=by rw[h2]
      have HE:Hid (SmI p q (k+1) r):=by
       show _=_;rw[HR.out];simp[hxy,show x=y from dP h1 h2]
      clear HR hx hy hdr hxy h1 h2;go_wp2;go_quiet (fail);go_wp2;go_roundw
      case rel=>exact⟨k+1,by omega,by go_num,HE,HDR.out.drewN _⟩
      case measure=>simp[intOf];omega
     ·have hb3:¬((fu x.2).toList=(fu y.2).toList):=by rw[UR];exact h2
      have HE:Hid (r=false):=by
       show _=_;rw[HR.out];simp[hxy,show ¬x=y from fun e=>h2 (by rw[e])]
      clear HR hx hy hdr hxy h1 h2;go_wp2;go_quiet (fail);go_wp2;go_ret;exact⟨kS HE.out.symm,HDR.out.drewN _⟩
    ·have hb2:=xG x.1 y.1;rw[decide_eq_false h1]at hb2;have HE:Hid (r=false):=by
      show _=_;rw[HR.out];simp[hxy,show ¬x=y from fun e=>h1 (by rw[e])]
     clear HR hx hy hdr hxy h1;go_wp2;go_quiet (fail);go_wp2;go_ret;exact⟨kS HE.out.symm,HDR.out.drewN _⟩
   ·have HE:Hid (r=true):=by
     show _=_;rw[HR.out,cO fZ ,cO (by have:=HL.out;omega)];simp
    have hlt':¬(k:Int)<(p.length:Int):=by omega
    have HDR:=af hdr;go_wp2;go_ret;exact⟨kS HE.out.symm,HDR.out⟩
 ·have hb:((p.length:Int)==(q.length:Int))=false:=by simp;omega
  have HE:Hid (decide (p=q)=false):=decide_eq_false (fun e=>hl (by rw[e]));clear hl;go_enter func11,ntmps11;go_wp2;go_ret;exact⟨kS HE.out.symm,jZ.refl _⟩
def InI(l:List Dg)(d:Dg)(k:Nat)(r:Bool):Prop:=r=decide (d∈l.drop k)
theorem UU(w:World)(v:Value)(l:List Dg)(d:Dg)(h:qi w v l):
  Calls prog 14 #[v,lS d] w fun e w'=>e=.returned (.bool (decide (d∈l)))∧Below w.heap.size w w':=by
 obtain⟨A,c,rfl,hc,hm⟩:=h.form;have H0:Hid (InI l d 0 (decide (d∈l))):=rfl;have HK:=af ((ah w.heap.size w).alloc (ak _) (.cells #[.int .u64 (d.1.toNat:Int),.int .u64 (d.2.toNat:Int)] 39));have HB:=af (gV.new w #[.int .u64 (d.1.toNat:Int),.int .u64 (d.2.toNat:Int)] 39);have HP:=af (h.keep (dO HK.out));unfold lS;generalize decide (d∈l)=r at *;clear h;go_enter func14,ntmps14;go_wp2;generalize hw1:w.alloc (.cells #[.int .u64 (d.1.toNat:Int),.int .u64 (d.2.toNat:Int)] 39)=w1 at *
 clear hw1;go_loopw [5] (fun iv wr=>∃k:Nat,k≤l.length∧iv=.int .i64 k∧Hid (InI l d k r)∧jZ w1 wr) (fun iv _=>l.length-(intOf iv).toNat)
 case atStart=>exact⟨0,by omega,rfl,H0,jZ.refl _⟩
 case round =>
  clear H0;obtain⟨k,hk,rfl,HR,hdr⟩:=hrel;by_cases hlt:k<l.length
  ·obtain⟨x,hx⟩:∃x,l[k]?=some x:=⟨_,au hlt⟩;obtain⟨b1,o1,rfl,c0,c1⟩:=(HP.out.keep hdr.keeps).get hx;have hbk:=HB.out.keep (hdr.below _);have k0:=hbk.cl 0;have k1:=hbk.cl 1;have HDR:=af hdr;have hxy:(d∈l.drop k)↔(d=x∨d∈l.drop (k+1)):=by
    obtain⟨_,rfl⟩:=ay.1 hx;rw[aR hlt,bC]
   by_cases he:x=d
   ·have hb2:=xG x d;rw[decide_eq_true he]at hb2;have HE:Hid (r=true):=by
     show _=_;rw[HR.out];simp[hxy,he]
    clear HR hx hdr hxy he hbk;go_wp2;go_quiet (fail);go_wp2;go_ret;exact⟨kS HE.out.symm,HK.out.trans (((HDR.out.drewN _).below _).mono HK.out.size)⟩
   ·have hb2:=xG x d;rw[decide_eq_false he]at hb2;have HE:Hid (InI l d (k+1) r):=by
     show _=_;rw[HR.out];simp[hxy,fe he]
    clear HR hx hdr hxy he hbk;go_wp2;go_quiet (fail);go_wp2;go_roundw
    case rel=>exact⟨k+1,by omega,by go_num,HE,HDR.out.drewN _⟩
    case measure=>simp[intOf];omega
  ·have HE:Hid (r=false):=by
    show _=_;rw[HR.out,cO fZ ];simp
   have hlt':¬(k:Int)<(l.length:Int):=by omega
   have HDR:=af hdr;go_wp2;go_ret;exact⟨kS HE.out.symm,HK.out.trans ((HDR.out.below _).mono HK.out.size)⟩
end Go.Proofs.YtichfhpgdhdiaaaGreat
namespace Go.Proofs.YtichfhpgdhdiaaaGreat
open Go.RowKit
theorem Q8(x:It)(d:Dg)(W:World):Calls prog 78 #[.agg #[.int .u64 (x.1.1.toNat:Int),.int .u64 (x.1.2.toNat:Int),.string (fu x.2)],lS d] W fun e w'=>e=.returned (.int .i64 (kM x.1 d))∧Below W.heap.size W w':=by
 have hX:=(gV.new W #[.int .u64 (x.1.1.toNat:Int),.int .u64 (x.1.2.toNat:Int),.string (fu x.2)] 74).alloc (.cells #[.int .u64 (d.1.toNat:Int),.int .u64 (d.2.toNat:Int)] 39);have hY:=gV.new (W.alloc (.cells #[.int .u64 (x.1.1.toNat:Int),.int .u64 (x.1.2.toNat:Int),.string (fu x.2)] 74)) #[.int .u64 (d.1.toNat:Int),.int .u64 (d.2.toNat:Int)] 39;rw[aJ]at hY;have HK:=af (((ah W.heap.size W).alloc (ak _) (.cells #[.int .u64 (x.1.1.toNat:Int),.int .u64 (x.1.2.toNat:Int),.string (fu x.2)] 74)).alloc gu (.cells #[.int .u64 (d.1.toNat:Int),.int .u64 (d.2.toNat:Int)] 39))
 have k0:=hX.cl 0;have k1:=hX.cl 1;have k2:=hY.cl 0;have k3:=hY.cl 1;have CC:=SC x.1 d;unfold lS at CC;have CC:=af CC;clear hX hY;unfold lS;go_enter func78,ntmps78;go_wp2_with fail;refine(CC.out _).mono ?_;rintro e w1 ⟨rfl,hb⟩;have HB:=(hTr HK hb);clear hb CC HK;go_wp2;go_ret;exact⟨rfl,HB.out⟩
def zW(p:List It)(d:Dg)(i:Nat):Prop:=i≤p.length∧∀k x,p[k]?=some x→(k<i↔kV x.1 d)
def pO(p:List It):Prop:=p.Pairwise fun x y=>kV x.1 y.1
theorem pO.lt{p:List It}(h:pO p){i j:Nat}{x y:It}(hx:p[i]?=some x)(hy:p[j]?=some y)(hij:i<j):kV x.1 y.1:=by
 obtain⟨h1,rfl⟩:=ay.1 hx;obtain⟨h2,rfl⟩:=ay.1 hy;exact List.pairwise_iff_getElem.1 h _ _ h1 h2 hij
def VP(p:List It)(d:Dg)(i j:Nat):Prop:=i≤j∧j≤p.length∧(∀k x,p[k]?=some x→k<i→kV x.1 d)∧∀k x,p[k]?=some x→j≤k→¬kV x.1 d
theorem Ou(p:List It)(d:Dg):VP p d 0 p.length:=⟨by omega,by omega,fun k x _ h=>by omega,fun k x hk h=>by
 have:=(ay.1 hk).1;omega⟩
theorem VP.right{p:List It}{d:Dg}{i j h:Nat}(H:VP p d i j)(hs:pO p)(hi:i≤h)(hj:h<j){x:It}(hx:p[h]?=some x)(hlt:kV x.1 d):VP p d (h+1) j:=by
 obtain⟨h1,h2,h3,h4⟩:=H;refine⟨by omega,h2,fun k y hy hk=>?_,h4⟩;rcases dD (eX.1 hk)with h5|rfl
 ·exact uj (hs.lt hy hx h5) hlt
 ·rw[hx]at hy;cases hy;exact hlt
theorem VP.left{p:List It}{d:Dg}{i j h:Nat}(H:VP p d i j)(hs:pO p)(hi:i≤h)(hj:h<j){x:It}(hx:p[h]?=some x)(hlt:¬kV x.1 d):VP p d i h:=by
 obtain⟨h1,h2,h3,h4⟩:=H;refine⟨hi,by omega,h3,fun k y hy hk=>?_⟩;rcases dD hk with h5|rfl
 ·exact fun hl=>hlt (uj (hs.lt hx hy h5) hl)
 ·rw[hx]at hy;cases hy;exact hlt
theorem VP.done{p:List It}{d:Dg}{i j:Nat}(H:VP p d i j)(hij:¬i<j):zW p d i:=by
 obtain⟨h1,h2,h3,h4⟩:=H;have:i=j:=by omega
 subst this;refine⟨h2,fun k x hk=>⟨fun h=>h3 k x hk h,fun h=>?_⟩⟩;rcases aP k i with h5|h5
 ·exact h5
 ·exact absurd h (h4 k x hk h5)
def mD(p:List It)(d:Dg):Bool:=decide (d∈p.map Prod.fst)
theorem zW.found{p:List It}{d:Dg}{i:Nat}(h:zW p d i)(hs:pO p){x:It}(hx:p[i]?=some x):mD p d=decide (x.1=d):=by
 unfold mD;rw[decide_eq_decide];constructor
 ·intro hm;obtain⟨y,hy,e⟩:=dS.1 hm;obtain⟨k,hk⟩:=bU hy;have h1:¬k<i:=fun hl=>by
   have:=(h.2 k y hk).1 hl;rw[e]at this;exact mO _ this
  rcases dD (Nat.le_of_not_lt h1)with h2|rfl
  ·have h3:=hs.lt hx hk h2;rw[e]at h3;exact absurd ((h.2 i x hx).2 h3) (Nat.lt_irrefl _)
  ·rw[hx]at hk;cases hk;exact e
 ·rintro rfl;exact dS.2 ⟨x,aV hx,rfl⟩
theorem zW.G7{p:List It}{d:Dg}{i:Nat}(h:zW p d i)(hi:p.length≤i):mD p d=false:=by
 unfold mD;rw[decide_eq_false_iff_not];intro hm;obtain⟨y,hy,e⟩:=dS.1 hm;obtain⟨k,hk⟩:=bU hy;have hl:=(ay.1 hk).1;have:=(h.2 k y hk).1 fZ ;rw[e]at this;exact mO _ this
def YQ(p:List It)(d:Dg)(w0:World)(e:Ending)(w:World):Prop:=∃i,zW p d i∧e=.returned (.tuple #[.int .i64 (i:Int),.bool (mD p d)])∧Below w0.heap.size w0 w
theorem Md(w:World)(v:Value)(p:List It)(d:Dg)(h:og w v p)(hs:pO p)(hp:p.length≤1000000):
  Calls prog 77 #[v,lS d,OD 78] w (YQ p d w):=by
 obtain⟨A,c,rfl,hc,hm⟩:=h.form;have HK:=af ((ah w.heap.size w).alloc (ak _) (.cells #[.int .u64 (d.1.toNat:Int),.int .u64 (d.2.toNat:Int)] 39));have HB:=af (gV.new w #[.int .u64 (d.1.toNat:Int),.int .u64 (d.2.toNat:Int)] 39);have HP:=af (h.keep (dO HK.out));have H0:=af (Ou p d);have HS:=af hs;have CF:=Q8;unfold lS at CF;have CF:=af CF;clear h hs;unfold lS OD;go_enter func77,ntmps77
 go_wp2;generalize hw1:w.alloc (.cells #[.int .u64 (d.1.toNat:Int),.int .u64 (d.2.toNat:Int)] 39)=w1 at *;clear hw1;go_loopw [9,10] (fun iv jv wr=>∃io j:Nat,iv=.int .i64 io∧jv=.int .i64 j∧Hid (VP p d io j)∧Below w1.heap.size w1 wr) (fun iv jv _=>(intOf jv).toNat-(intOf iv).toNat)
 case atStart=>exact⟨0,p.length,rfl,rfl,H0,ah _ _⟩
 case round =>
  clear H0;obtain⟨io,j,rfl,rfl,HR,hdr⟩:=hrel;obtain⟨g1,g2,_,_⟩:=HR.out;have HDR:=af hdr;have I8:=af (HB.out.keep hdr);have XY:=HP.out.keep (dO hdr);by_cases hlt:io<j
  ·obtain⟨m,hm0⟩:∃m,m=(io+j)/2:=⟨_,rfl⟩;have hlt':(io:Int)<(j:Int):=by omega
   have hmid:((io:Int)+(j:Int))/2=(m:Int):=by omega
   have hmj:m<j:=by omega
   have him:io≤m:=by omega
   have hml:m<p.length:=by omega
   obtain⟨x,hx⟩:∃x,p[m]?=some x:=⟨_,au hml⟩;obtain⟨b1,o1,rfl,c0,c1,c2⟩:=XY.get hx;have C0:=af c0;have C1:=af c1;have C2:=af c2;have hml':(m:Int)<(p.length:Int):=by omega
   clear hm0 c0 c1 c2 XY hdr;by_cases hl:kV x.1 d
   ·have HL:Hid (decide (kM x.1 d<0)=true):=decide_eq_true (Av.2 hl);have HR2:=af (HR.out.right HS.out him hmj hx hl);clear HR hx hl;go_upto_region 5 with (fail);refine iN gB 8 (fun i v w=>match i with
     |0=>v=.func (.func 78) #[] #[]
     |1=>v=.slice (some ⟨b1,o1,none⟩) p.length c
     |2=>v=.int .i64 (m:Int)
     |3=>v=.pointer (some ⟨b1,o1+m*3,none⟩)
     |4=>v=.agg #[.int .u64 (x.1.1.toNat:Int),.int .u64 (x.1.2.toNat:Int),.string (fu x.2)]
     |5=>v=.agg #[.int .u64 (d.1.toNat:Int),.int .u64 (d.2.toNat:Int)]
     |6=>v=.int .i64 (kM x.1 d)
     |_=>v=.bool true) 0 gB (fun i v w w' h hb=>?_) ?_ ?_
    ·exact PH
    ·rintro i o hi ho a w1 hdf hlen hold hbel gK K hK;clear hdf;have hc0:=dO hbel _ _ _ (dO (gH _) _ _ _ C0.out);have hc1:=dO hbel _ _ _ (dO (gH _) _ _ _ C1.out);have hc2:=dO hbel _ _ _ (dO (gH _) _ _ _ C2.out);have hD:=(I8.out.keep (gH _)).keep hbel;have q0:=hD.cl 0;have q1:=hD.cl 1;have s2:=kZ hold 2 (.func (.func 78) #[] #[]);have s0:=kZ hold 0 (.slice (some ⟨b1,o1,none⟩) p.length c);have s11:=kZ hold 11 (.int .i64 (m:Int));have s4:=kZ hold 4 (.pointer (some ⟨w.heap.size,0,none⟩))
     have hi':i=0∨i=1∨i=2∨i=3∨i=4∨i=5∨i=6∨i=7:=by omega
     rcases hi' with rfl|rfl|rfl|rfl|rfl|rfl|rfl|rfl<;>obtain rfl:=aB ho
     ·exact iJ s2
     ·exact iJ s0
     ·exact iJ s11
     ·exact yM (iq gK 1 25) (iq gK 2 26)
     ·exact iJ (iq gK 3 27)
     ·exact iJ s4
     ·refine PX3 (iq gK 0 24) (iq gK 4 28) (iq gK 5 29) ?_;refine(CF.out x d w1).mono ?_;rintro e' w4 ⟨rfl,hb4⟩;exact hK _ w4 rfl hb4
     ·refine qM (iq gK 6 30) ?_;exact hK _ w1 (congrArg Value.bool HL.out) gD
    ·rintro a w1 hdf hlen hold hbel hnew;have e31:=qH hnew 7 31;simp only at e31;obtain⟨uq,hu,hact⟩:=kL [24,25,26,27,28,29,30,31] hdf hlen hold;simp only[hu]at e31;simp only[List.foldl,e31,SA]at hact;clear hdf hlen hold hnew e31 hu;subst hact;refine iP ?_;have hnew:=HDR.out.trans (((gH _).trans hbel).mono HDR.out.size);have HN:=af hnew;clear hnew hbel;go_wp2;go_roundw
     case rel=>exact⟨m+1,j,by go_num,rfl,HR2,HN.out⟩
     case measure=>simp[intOf];omega
   ·have HL:Hid (decide (kM x.1 d<0)=false):=decide_eq_false (fun h=>hl (Av.1 h));have HR2:=af (HR.out.left HS.out him hmj hx hl);clear HR hx hl;go_upto_region 5 with (fail);refine iN gB 8 (fun i v w=>match i with
     |0=>v=.func (.func 78) #[] #[]
     |1=>v=.slice (some ⟨b1,o1,none⟩) p.length c
     |2=>v=.int .i64 (m:Int)
     |3=>v=.pointer (some ⟨b1,o1+m*3,none⟩)
     |4=>v=.agg #[.int .u64 (x.1.1.toNat:Int),.int .u64 (x.1.2.toNat:Int),.string (fu x.2)]
     |5=>v=.agg #[.int .u64 (d.1.toNat:Int),.int .u64 (d.2.toNat:Int)]
     |6=>v=.int .i64 (kM x.1 d)
     |_=>v=.bool false) 0 gB (fun i v w w' h hb=>?_) ?_ ?_
    ·exact PH
    ·rintro i o hi ho a w1 hdf hlen hold hbel gK K hK;clear hdf;have hc0:=dO hbel _ _ _ (dO (gH _) _ _ _ C0.out);have hc1:=dO hbel _ _ _ (dO (gH _) _ _ _ C1.out);have hc2:=dO hbel _ _ _ (dO (gH _) _ _ _ C2.out);have hD:=(I8.out.keep (gH _)).keep hbel;have q0:=hD.cl 0;have q1:=hD.cl 1;have s2:=kZ hold 2 (.func (.func 78) #[] #[]);have s0:=kZ hold 0 (.slice (some ⟨b1,o1,none⟩) p.length c);have s11:=kZ hold 11 (.int .i64 (m:Int));have s4:=kZ hold 4 (.pointer (some ⟨w.heap.size,0,none⟩))
     have hi':i=0∨i=1∨i=2∨i=3∨i=4∨i=5∨i=6∨i=7:=by omega
     rcases hi' with rfl|rfl|rfl|rfl|rfl|rfl|rfl|rfl<;>obtain rfl:=aB ho
     ·exact iJ s2
     ·exact iJ s0
     ·exact iJ s11
     ·exact yM (iq gK 1 25) (iq gK 2 26)
     ·exact iJ (iq gK 3 27)
     ·exact iJ s4
     ·refine PX3 (iq gK 0 24) (iq gK 4 28) (iq gK 5 29) ?_;refine(CF.out x d w1).mono ?_;rintro e' w4 ⟨rfl,hb4⟩;exact hK _ w4 rfl hb4
     ·refine qM (iq gK 6 30) ?_;exact hK _ w1 (congrArg Value.bool HL.out) gD
    ·rintro a w1 hdf hlen hold hbel hnew;have e31:=qH hnew 7 31;simp only at e31;obtain⟨uq,hu,hact⟩:=kL [24,25,26,27,28,29,30,31] hdf hlen hold;simp only[hu]at e31;simp only[List.foldl,e31,SA]at hact;clear hdf hlen hold hnew e31 hu;subst hact;refine iP ?_;have hnew:=HDR.out.trans (((gH _).trans hbel).mono HDR.out.size);have HN:=af hnew;clear hnew hbel;go_wp2;go_roundw
     case rel=>exact⟨io,m,rfl,rfl,HR2,HN.out⟩
     case measure=>simp[intOf];omega
  ·have hlt':¬(io:Int)<(j:Int):=by omega
   have HI:=HR.out.done hlt;by_cases hil:io<p.length
   ·obtain⟨x,hx⟩:∃x,p[io]?=some x:=⟨_,au hil⟩;obtain⟨b1,o1,rfl,c0,c1,c2⟩:=XY.get hx;have C0:=af c0;have C1:=af c1;have C2:=af c2;have hf:=HI.found HS.out hx;have hr:(kM x.1 d==0)=mD p d:=by rw[hf,fC];simp[xZ]
    have HH:=af hr;have HI:=af HI;have Uy:(io:Int)<(p.length:Int):=by omega
    clear c0 c1 c2 XY hdr hf hr hx;go_upto_region 8 with (fail);refine nZ gB 16 (fun i v w=>match i with
     |0=>v=.int .i64 (io:Int)
     |1=>v=.int .i64 (io:Int)
     |2=>v=.int .i64 (p.length:Int)
     |3=>v=.bool true
     |4=>v=.bool true
     |5=>v=.func (.func 78) #[] #[]
     |6=>v=.slice (some ⟨b1,o1,none⟩) p.length c
     |7=>v=.int .i64 (io:Int)
     |8=>v=.pointer (some ⟨b1,o1+io*3,none⟩)
     |9=>v=.agg #[.int .u64 (x.1.1.toNat:Int),.int .u64 (x.1.2.toNat:Int),.string (fu x.2)]
     |10=>v=.agg #[.int .u64 (d.1.toNat:Int),.int .u64 (d.2.toNat:Int)]
     |11=>v=.int .i64 (kM x.1 d)
     |12=>v=.bool (kM x.1 d==0)
     |13=>v=.bool (kM x.1 d==0)
     |14=>v=.int .i64 (io:Int)
     |_=>v=.bool (kM x.1 d==0)) 0 gB (fun i v w w' h hb=>?_) (fun _=>true) ?_ ?_ ?_ ?_
    ·exact PH
    ·intro i o q want hi ho hg v w hφ;have hi':i=0∨i=1∨i=2∨i=3∨i=4∨i=5∨i=6∨i=7∨i=8∨i=9∨i=10∨i=11∨i=12∨i=13∨i=14∨i=15:=by omega
     rcases hi' with rfl|rfl|rfl|rfl|rfl|rfl|rfl|rfl|rfl|rfl|rfl|rfl|rfl|rfl|rfl|rfl<;>(obtain rfl:=aB ho)<;>first|(cases hg;exact hφ)|cases hg
    ·intro i o w hi ho hon;have hi':i=0∨i=1∨i=2∨i=3∨i=4∨i=5∨i=6∨i=7∨i=8∨i=9∨i=10∨i=11∨i=12∨i=13∨i=14∨i=15:=by omega
     rcases hi' with rfl|rfl|rfl|rfl|rfl|rfl|rfl|rfl|rfl|rfl|rfl|rfl|rfl|rfl|rfl|rfl<;>(obtain rfl:=aB ho)<;>first|exact rfl|(exfalso;simp[uT]at hon;done)
    ·rintro i o hi ho hon a w1 hdf hlen hold hbel gK K hK;clear hdf;have hc0:=dO hbel _ _ _ (dO (gH _) _ _ _ C0.out);have hc1:=dO hbel _ _ _ (dO (gH _) _ _ _ C1.out);have hc2:=dO hbel _ _ _ (dO (gH _) _ _ _ C2.out);have hD:=(I8.out.keep (gH _)).keep hbel;have q0:=hD.cl 0;have q1:=hD.cl 1;have s9:=kZ hold 9 (.int .i64 (io:Int));have s8:=kZ hold 8 (.int .i64 (p.length:Int));have s2:=kZ hold 2 (.func (.func 78) #[] #[]);have s0:=kZ hold 0 (.slice (some ⟨b1,o1,none⟩) p.length c)
     have s4:=kZ hold 4 (.pointer (some ⟨w.heap.size,0,none⟩));have hi':i=0∨i=1∨i=2∨i=3∨i=4∨i=5∨i=6∨i=7∨i=8∨i=9∨i=10∨i=11∨i=12∨i=13∨i=14∨i=15:=by omega
     rcases hi' with rfl|rfl|rfl|rfl|rfl|rfl|rfl|rfl|rfl|rfl|rfl|rfl|rfl|rfl|rfl|rfl<;>obtain rfl:=aB ho
     ·exact iJ s9
     ·exact iJ s9
     ·exact iJ s8
     ·refine sM (iq gK 1 36) (iq gK 2 37) ?_;exact hK _ w1 (by first|(simp;omega)|simp) gD
     ·exact iJ (iq gK 3 38)
     ·exact iJ s2
     ·exact iJ s0
     ·exact iJ s9
     ·exact yM (iq gK 6 41) (iq gK 7 42)
     ·exact iJ (iq gK 8 43)
     ·exact iJ s4
     ·refine PX3 (iq gK 5 40) (iq gK 9 44) (iq gK 10 45) ?_;refine(CF.out x d w1).mono ?_;rintro e' w4 ⟨rfl,hb4⟩;exact hK _ w4 rfl hb4
     ·exact iJ (iq gK 11 46)
     ·exact yM (iq gK 4 39) (iq gK 12 47)
     ·exact iJ (iq gK 0 35)
     ·exact iJ (iq gK 13 48)
    ·rintro a w1 hdf hlen hold hbel hnew;have e6:=qH hnew 14 6;simp only at e6;have e7:=qH hnew 15 7;simp only at e7;obtain⟨uq,hu,hact⟩:=kL [35,36,37,38,39,40,41,42,43,44,45,46,47,48,6,7] hdf hlen hold;simp only[hu]at e6 e7;simp only[List.foldl,e6,e7,SA]at hact;clear hdf hlen hold hnew e6 e7 hu;subst hact;refine iP ?_;have hnew:=HDR.out.trans (((gH _).trans hbel).mono HDR.out.size);have HN:=(hTr HK hnew);clear hnew hbel;go_wp2;go_ret2;exact⟨io,HI.out,by rw[←HH.out];rfl,HN.out⟩
   ·have HH:=af (HI.G7 fZ );have HI:=af HI;have Uy:¬(io:Int)<(p.length:Int):=by omega
    clear XY hdr;go_upto_region 8 with (fail);refine nZ gB 16 (fun i v w=>match i with
     |0=>v=.int .i64 (io:Int)
     |1=>v=.int .i64 (io:Int)
     |2=>v=.int .i64 (p.length:Int)
     |3=>v=.bool false
     |4=>v=.bool false
     |5=>v=undef
     |6=>v=undef
     |7=>v=undef
     |8=>v=undef
     |9=>v=undef
     |10=>v=undef
     |11=>v=undef
     |12=>v=undef
     |13=>v=.bool false
     |14=>v=.int .i64 (io:Int)
     |_=>v=.bool false) 0 gB (fun i v w w' h hb=>?_) (fun _=>false) ?_ ?_ ?_ ?_
    ·exact PH
    ·intro i o q want hi ho hg v w hφ;have hi':i=0∨i=1∨i=2∨i=3∨i=4∨i=5∨i=6∨i=7∨i=8∨i=9∨i=10∨i=11∨i=12∨i=13∨i=14∨i=15:=by omega
     rcases hi' with rfl|rfl|rfl|rfl|rfl|rfl|rfl|rfl|rfl|rfl|rfl|rfl|rfl|rfl|rfl|rfl<;>(obtain rfl:=aB ho)<;>first|(cases hg;exact hφ)|cases hg
    ·intro i o w hi ho hon;have hi':i=0∨i=1∨i=2∨i=3∨i=4∨i=5∨i=6∨i=7∨i=8∨i=9∨i=10∨i=11∨i=12∨i=13∨i=14∨i=15:=by omega
     rcases hi' with rfl|rfl|rfl|rfl|rfl|rfl|rfl|rfl|rfl|rfl|rfl|rfl|rfl|rfl|rfl|rfl<;>(obtain rfl:=aB ho)<;>first|exact rfl|(exfalso;simp[uT]at hon;done)
    ·rintro i o hi ho hon a w1 hdf hlen hold hbel gK K hK;clear hdf;have s9:=kZ hold 9 (.int .i64 (io:Int));have s8:=kZ hold 8 (.int .i64 (p.length:Int));have hi':i=0∨i=1∨i=2∨i=3∨i=4∨i=5∨i=6∨i=7∨i=8∨i=9∨i=10∨i=11∨i=12∨i=13∨i=14∨i=15:=by omega
     rcases hi' with rfl|rfl|rfl|rfl|rfl|rfl|rfl|rfl|rfl|rfl|rfl|rfl|rfl|rfl|rfl|rfl<;>obtain rfl:=aB ho
     ·exact iJ s9
     ·exact iJ s9
     ·exact iJ s8
     ·refine sM (iq gK 1 36) (iq gK 2 37) ?_;exact hK _ w1 (by first|(simp;omega)|simp) gD
     ·exact iJ (iq gK 3 38)
     ·exfalso;simp[uT]at hon;done
     ·exfalso;simp[uT]at hon;done
     ·exfalso;simp[uT]at hon;done
     ·exfalso;simp[uT]at hon;done
     ·exfalso;simp[uT]at hon;done
     ·exfalso;simp[uT]at hon;done
     ·exfalso;simp[uT]at hon;done
     ·exfalso;simp[uT]at hon;done
     ·exact iJ (iq gK 4 39)
     ·exact iJ (iq gK 0 35)
     ·exact iJ (iq gK 13 48)
    ·rintro a w1 hdf hlen hold hbel hnew;have e6:=qH hnew 14 6;simp only at e6;have e7:=qH hnew 15 7;simp only at e7;obtain⟨uq,hu,hact⟩:=kL [35,36,37,38,39,40,41,42,43,44,45,46,47,48,6,7] hdf hlen hold;simp only[hu]at e6 e7;simp only[List.foldl,e6,e7,SA]at hact;clear hdf hlen hold hnew e6 e7 hu;subst hact;refine iP ?_;have hnew:=HDR.out.trans (((gH _).trans hbel).mono HDR.out.size);have HN:=(hTr HK hnew);clear hnew hbel;go_wp2;go_ret2;exact⟨io,HI.out,by rw[HH.out];rfl,HN.out⟩
end Go.Proofs.YtichfhpgdhdiaaaGreat
