/- journal -/
import Derived.Test.YtichfhpgdhdiaaaGreatJ15
import Derived.Test.YtichfhpgdhdiaaaGreatJ5
import Derived.Test.YtichfhpgdhdiaaaGreatJ11
import Derived.Test.YtichfhpgdhdiaaaGreatJ2
import Derived.Test.YtichfhpgdhdiaaaGreatJ3
set_option maxRecDepth 100000
set_option maxHeartbeats 8000000
set_option linter.unusedVariables false
set_option linter.unusedSimpArgs false
open Go.Proofs.Tryz
namespace Go.Proofs.YtichfhpgdhdiaaaGreat
open Go.RowKit
theorem TH(a b:Nat):(a:Int).tdiv (b:Int)=((a/b:Nat):Int):=by
 rw[fF fZ ];rfl
theorem Ew(c z:Nat)(hz:1≤z)(hc:c+z≤1000000000000)(w:World):Calls prog 136 #[.int .i64 c,.int .i64 z] w fun e w'=>e=.returned (.int .i64 (need c z))∧w=w':=by
 have h1:IntKind.i64.wrap ((c:Int)+z)=((c+z:Nat):Int):=by rw[jo fZ fZ ];omega
 have h2:IntKind.i64.wrap (((c+z:Nat):Int)-1)=((c+z-1:Nat):Int):=by rw[jo fZ fZ ];omega
 have h3:((c:Int)+z-1)/(z:Int)=((need c z:Nat):Int):=by
  rw[show (c:Int)+z-1=((c+z-1:Nat):Int) by omega];rfl
 have h5:need c z≤c+z-1:=Nat.div_le_self _ _;have h4:IntKind.i64.wrap ((need c z:Nat):Int)=((need c z:Nat):Int):=jo fZ fZ ;have h6:((z:Int)==0)=false:=by simp;omega
 generalize need c z=r at *;go_enter func136,ntmps136;go_wp2;go_ret;exact⟨by simp[*],rfl⟩
theorem TI(n:Nat)(hn:n≤9223372036854775807):((n:Int)-1).tdiv 2=(gZ n:Int):=by
 unfold gZ;cases n with
 |zero=>decide
 |succ n =>
  rw[show ((n+1:Nat):Int)-1=(n:Int) by omega,show (n:Int).tdiv 2=((n/2:Nat):Int)from TH n 2];simp
theorem vJ(W:World)(vs vp:Value)(d:Dk)(h:lK W vs vp d):Calls prog 47 #[.agg #[.int .i64 d.size,vs,vp,.int .i64 d.left]] W (zw W (gZ d.secs.length)):=by
 obtain⟨A,c,rfl,hc,hm⟩:=h.sec.form;obtain⟨P,cp,rfl,hcp,hmp⟩:=h.pen.form;have hn:d.secs.length≤9223372036854775807:=by omega
 have HH:=af (TI d.secs.length hn);go_enter func47,ntmps47;go_wp2;go_ret;exact⟨by have:=HH.out;simp_all,(ah _ _).alloc (ak _) _⟩
theorem O7{n a:Nat}(hn:n≤1000)(ha:1≤a∧a≤2):(a:Int)-1=((a-1:Nat):Int)∧(((a-1:Nat):Int)*(gZ n:Int))=(((a-1)*gZ n:Nat):Int)∧(1:Int)+(((a-1)*gZ n:Nat):Int)=((gN n a:Nat):Int)∧gZ n≤1000∧(a-1)*gZ n≤1000∧gN n a≤1001:=by
 have h1:gZ n≤1000:=by unfold gZ;omega
 have h2:(a-1)*gZ n≤1*gZ n:=bT _ fZ ;refine⟨by omega,by rw[eH],?_,h1,by omega,?_⟩
 ·unfold gN;omega
 ·unfold gN;omega
theorem wN(W:World)(vs vp:Value)(d:Dk)(h:lK W vs vp d)(hn:d.secs.length≤1000)(a:Nat)(ha:1≤a∧a≤2):
  Calls prog 43 #[.agg #[.int .i64 d.size,vs,vp,.int .i64 d.left],.int .i64 a] W (zw W (gN d.secs.length a)):=by
 have hb0:=h.form;obtain⟨A,c,P,cp,rfl,rfl,hc,hcp,hm,hmp⟩:=hb0;have K1:=(ah W.heap.size W).alloc (ak _) (.cells #[.int .i64 d.size,.slice A d.secs.length c,.slice P d.pend.length cp,.int .i64 d.left] 56);have CH:=af (vJ (W.alloc (.cells #[.int .i64 d.size,.slice A d.secs.length c,.slice P d.pend.length cp,.int .i64 d.left] 56)) _ _ d (h.keep (dO K1)));have HK:=af K1;obtain⟨f1,f2,f3,f4,f5,f6⟩:=O7 (n:=d.secs.length) hn ha;generalize gN d.secs.length a=R at *;generalize (a-1)*gZ d.secs.length=M at *;clear K1;go_enter func43,ntmps43
 go_wp2_with fail;refine CH.out.mono ?_;rintro e w1 ⟨rfl,hb⟩;have HB:=af (HK.out.trans (hb.mono gu ));clear hb CH HK;go_wp2;go_ret;exact⟨by simp_all,HB.out⟩
theorem TJ(t:iX)(n:Nat):fu t++qo n=fu (t++List.replicate n 0):=by
 have:qo n=fu (List.replicate n 0):=by
  apply dX;simp[qo,fu]
 rw[this,nV]
theorem uy(t:iX)(z:Nat)(ht:t.length≤z)(hz:z≤1000)(w:World):Calls prog 40 #[.string (fu t),.int .i64 z] w fun e w'=>e=.returned (.string (fu (wW z t)))∧Below w.heap.size w w':=by
 have CR:=af (Nu (z-t.length) fZ w);have hz1:=gL t;have h1:(z:Int)-(t.length:Int)=((z-t.length:Nat):Int):=by omega
 have h2:=AJ (z-t.length);have HS:=af (TJ t (z-t.length));have hsz:¬9223372036854775807<(fu t).size+(qo (z-t.length)).size:=by rw[hz1,h2];omega
 go_enter func40,ntmps40;go_wp2_with fail;try rw[h1]
 refine CR.out.mono ?_;rintro e w1 ⟨rfl,hb⟩;have HB:=af hb;clear hb CR;go_wp2;go_ret;exact⟨by rw[HS.out];rfl,HB.out⟩
theorem yB(W:World)(vs vp:Value)(d:Dk)(h:lK W vs vp d):Calls prog 39 #[.agg #[.int .i64 d.size,vs,vp,.int .i64 d.left]] W (zw W (mF d)):=by
 have hb0:=h.form;obtain⟨A,c,P,cp,rfl,rfl,hc,hcp,hm,hmp⟩:=hb0;have K1:=(ah W.heap.size W).alloc (ak _) (.cells #[.int .i64 d.size,.slice A d.secs.length c,.slice P d.pend.length cp,.int .i64 d.left] 56);have CH:=af (wH (W.alloc (.cells #[.int .i64 d.size,.slice A d.secs.length c,.slice P d.pend.length cp,.int .i64 d.left] 56)) _ _ d (h.keep (dO K1)));have HK:=af K1;have hbk:=gV.new W #[.int .i64 d.size,.slice A d.secs.length c,.slice P d.pend.length cp,.int .i64 d.left] 56;have HD:Hid (mF d=if sJ d≠0 then sJ d else if d.secs.length<3 then 2 else 0):=rfl
 generalize mF d=R at *;generalize sJ d=Q at *;clear K1;go_enter func39,ntmps39;go_wp2_with fail;refine CH.out.mono ?_;rintro e w1 ⟨rfl,hb⟩;have HB:=af (HK.out.trans (hb.mono gu ));have hbk1:=hbk.keep hb;have q1:=hbk1.cl 1;have hlt:=hbk1.lt;clear hb CH HK hbk hbk1;by_cases hq:Q=0
 ·subst hq;by_cases h3:d.secs.length<3
  ·have HR:Hid (R=2):=by show _=_;rw[HD.out,if_neg gu ,if_pos h3]
   have h4:((d.secs.length:Nat):Int)<3:=by omega
   clear HD;go_wp2;go_ret;exact⟨jK HR.out.symm,HB.out⟩
  ·have HR:Hid (R=0):=by show _=_;rw[HD.out,if_neg gu ,if_neg h3]
   have h4:¬((d.secs.length:Nat):Int)<3:=by omega
   clear HD;go_wp2;go_ret;exact⟨jK HR.out.symm,HB.out⟩
 ·have HR:Hid (R=Q):=by show _=_;rw[HD.out,if_pos hq]
  have hb:(Q != 0)=true:=by simp[hq]
  clear HD;go_wp2;go_ret;exact⟨jK HR.out.symm,HB.out⟩
end Go.Proofs.YtichfhpgdhdiaaaGreat
namespace Go.Proofs.YtichfhpgdhdiaaaGreat
open Go.RowKit
theorem IQ(s:ByteArray)(h:0<s.size):s.data.toList.head?=some s[0]:=by
 have h1:s.data.toList[0]?=some s[0]:=by
  rw[au (by simpa using h)];rfl
 rw[List.head?_eq_getElem?];exact h1
def Lf(r:List iX×Nat×Bool)(w0:World)(e:Ending)(w:World):Prop:=∃v,∃c:Int,e=.returned (.tuple #[v,.int .i64 c,.bool r.2.2])∧(r.2.2=true→vY w v r.1∧c=(r.2.1:Int))∧Below w0.heap.size w0 w
theorem Lf.bad{w0 w:World}(hb:Below w0.heap.size w0 w){v:Value}{c:Int}:Lf ([],0,false) w0 (.returned (.tuple #[v,.int .i64 c,.bool false])) w:=⟨v,c,rfl,fun h=>(by cases h),hb⟩
theorem Cm(s:ByteArray)(w:World)(h0:0<s.size)(hs:s.size≤100000000):Calls prog 135 #[.string s] w (Lf (kD s.data.toList) w):=by
 have hd0:=s[0].toNat_lt;have HX:Hid (kD s.data.toList=if s.data.toList.head?≠some 1 then([],0,false)
  else if (gX (s.data.toList.drop 1)).2.2≠0∨s.data.toList.length-(1+(gX (s.data.toList.drop 1)).2.1)<(gX (s.data.toList.drop 1)).1 then([],0,false)
  else if (qz ((s.data.toList.drop (1+(gX (s.data.toList.drop 1)).2.1)).take (gX (s.data.toList.drop 1)).1)).2.2=0∧(qz ((s.data.toList.drop (1+(gX (s.data.toList.drop 1)).2.1)).take (gX (s.data.toList.drop 1)).1)).2.1=(gX (s.data.toList.drop 1)).1 then
   ((qz ((s.data.toList.drop (1+(gX (s.data.toList.drop 1)).2.1)).take (gX (s.data.toList.drop 1)).1)).1,1+(gX (s.data.toList.drop 1)).2.1+(gX (s.data.toList.drop 1)).1,true)
  else([],0,false)):=rfl
 generalize kD s.data.toList=R at *;have CI:=lH (s.extract 1 s.size) w;rw[pV]at CI;obtain⟨b1,b2⟩:=pQ (s.data.toList.drop 1);rw[aC,show s.data.toList.length=s.size from rfl]at b2;have HL:Hid (s.data.toList.length=s.size):=rfl;by_cases h1:s[0]=1
 ·have hh:¬(s.data.toList.head?≠some 1):=by rw[IQ s h0,h1];simp
  have mZ:=af ((HX.out).trans (if_neg hh));have hn0:((s[0].toNat:Int) != 1)=false:=by rw[h1];rfl
  clear HX hh;have hsp:s.data.toList.length-(1+(gX (s.data.toList.drop 1)).2.1)=s.size-(1+(gX (s.data.toList.drop 1)).2.1):=rfl;generalize gX (s.data.toList.drop 1)=q at *;obtain⟨n,k,e0⟩:=q;simp only at mZ b1 b2 CI hsp;rw[hsp]at mZ;unfold gI at CI;simp only at CI;have Aa:=af CI;clear CI hsp;have hw1:IntKind.i64.wrap ((1:Int)+k)=((1+k:Nat):Int):=by rw[jo fZ fZ ];omega
  have hl1:(1:Int)≤(s.size:Int):=by omega
  by_cases he:e0=0
  ·subst he;by_cases hn:s.size-(1+k)<n
   ·have HR:Hid (R=([],0,false)):=by show _=_;rw[mZ.out,if_pos (.inr hn)]
    have hn1:(s.size:Int)-(1+(k:Int))<(n:Int):=by omega
    clear mZ;go_enter func135,ntmps135;go_wp2_with fail;refine Aa.out.mono ?_;rintro e w1 ⟨rfl,rfl⟩;clear Aa;go_wp2;go_ret3;rw[HR.out];exact Lf.bad gD
   ·have hn1:¬(s.size:Int)-(1+(k:Int))<(n:Int):=by omega
    have CT:=Hz (s.extract (1+k) (1+k+n)) w (by rw[bJ];omega);rw[show (s.extract (1+k) (1+k+n)).data.toList=(s.data.toList.drop (1+k)).take n by rw[pU s (o:=1+k) (l:=n) fZ ];exact iI _]at CT;have Cu:=af (mZ.out.trans (if_neg (by rintro(h|h);exact h rfl;exact hn h)));clear mZ;generalize (s.data.toList.drop (1+k)).take n=T at *;generalize qz T=r at *;obtain⟨l,c,e1⟩:=r;simp only at Cu CT;have CT':=af CT;have hw2:IntKind.i64.wrap (((1+k:Nat):Int)+n)=((1+k+n:Nat):Int):=by rw[jo fZ fZ ];omega
    clear CT;by_cases he1:e1=0
    ·by_cases hcn:c=n
     ·subst he1;subst hcn;have HR:=af (Cu.out.trans (if_pos ⟨rfl,rfl⟩));clear Cu;go_enter func135,ntmps135;go_wp2_with fail;refine Aa.out.mono ?_;rintro e w1 ⟨rfl,rfl⟩;clear Aa;go_wp2_with fail;refine CT'.out.mono ?_;rintro e w2 ⟨v2,rfl,hT,hb2⟩;have HT:=af hT;have HB:=af hb2;clear CT' hb2 hT;simp only;go_wp2;go_ret3;rw[HR.out];exact⟨v2,_,rfl,fun _=>⟨HT.out,by simp only;omega⟩,HB.out⟩
     ·have HR:=af (Cu.out.trans (if_neg (fun h=>hcn h.2)));subst he1;have hb:((c:Int)==(n:Int))=false:=by simp;omega
      clear Cu;go_enter func135,ntmps135;go_wp2_with fail;refine Aa.out.mono ?_;rintro e w1 ⟨rfl,rfl⟩;clear Aa;go_wp2_with fail;refine CT'.out.mono ?_;rintro e w2 ⟨v2,rfl,hT,hb2⟩;have HT:=af hT;have HB:=af hb2;clear CT' hb2 hT;simp only;go_wp2;go_ret3;rw[HR.out];exact Lf.bad HB.out
    ·have HR:=af (Cu.out.trans (if_neg (fun h=>he1 h.1)));have hb:(e1==0)=false:=by simpa using he1
     clear Cu;go_enter func135,ntmps135;go_wp2_with fail;refine Aa.out.mono ?_;rintro e w1 ⟨rfl,rfl⟩;clear Aa;go_wp2_with fail;refine CT'.out.mono ?_;rintro e w2 ⟨v2,rfl,hT,hb2⟩;have HT:=af hT;have HB:=af hb2;clear CT' hb2 hT;simp only;go_wp2;go_ret3;rw[HR.out];exact Lf.bad HB.out
  ·have HR:Hid (R=([],0,false)):=by show _=_;rw[mZ.out,if_pos (.inl he)]
   have hne:(e0 != 0)=true:=by simpa using he
   clear mZ;go_enter func135,ntmps135;go_wp2_with fail;refine Aa.out.mono ?_;rintro e w1 ⟨rfl,rfl⟩;clear Aa;go_wp2;go_ret3;rw[HR.out];exact Lf.bad gD
 ·have HR:Hid (R=([],0,false)):=by
   show _=_;rw[HX.out,if_pos (by rw[IQ s h0];intro h;exact h1 (aB h))]
  have hn0:((s[0].toNat:Int) != 1)=true:=by
   have:s[0].toNat≠1:=fun h=>h1 (UInt8.toNat_inj.1 h)
   simp;omega
  clear HX CI b1 b2;go_enter func135,ntmps135;go_wp2;go_ret3;rw[HR.out];exact Lf.bad gD
end Go.Proofs.YtichfhpgdhdiaaaGreat
namespace Go.Proofs.YtichfhpgdhdiaaaGreat
open Go.RowKit
theorem Lg(s:ByteArray)(z:Nat)(ht:s.size≤z)(hz:z≤1000)(w:World):Calls prog 40 #[.string s,.int .i64 z] w fun e w'=>e=.returned (.string (fu (wW z (kH s))))∧Below w.heap.size w w':=by
 have:=uy (kH s) z ht hz w;rwa [show fu (kH s)=s from tX s]at this
theorem BS(s:ByteArray)(i j:Nat):kH (s.extract i j)=((kH s).drop i).take (j-i):=by
 unfold kH;rw[dF,eO,dN]
def Gv(t:iX)(sz i:Nat):ByteArray:=fu (wW sz ((t.drop (i*sz)).take sz))
def sw(t:iX)(sz i:Nat):List ByteArray:=(List.range i).map (Gv t sz)
theorem NK(t:iX)(sz i:Nat):(sw t sz i).length=i:=by simp[sw]
theorem Lh(t:iX)(sz i:Nat):sw t sz (i+1)=sw t sz i++[Gv t sz i]:=by
 unfold sw;rw[List.range_succ,eG];rfl
theorem Zo{l:List iX}(h:l≠[])(sz:Nat):kT l sz=sw (su l) sz (need (su l).length sz):=if_neg h
theorem Xb{n sz i:Nat}(hs:1≤sz)(h:i*sz<n):i+1≤need n sz:=by
 unfold need;rw[Nat.le_div_iff_mul_le fZ ,Nat.succ_mul];omega
theorem Xc(a b:iX):(⟨#[1]⟩:ByteArray)++fu a++fu b=fu (1::(a++b)):=by
 rw[show (⟨#[1]⟩:ByteArray)=fu [1]from rfl,nV,nV];rfl
theorem O8{l:List iX}(h:rU l):(su l).length≤100000010:=by
 have h1:=yj l h;have h2:=ja (jB l).length 5 fZ ;simp only[su,aI,aj];omega
theorem TK{l:List iX}(h:(nW l).2=0):rU l∧(nW l).1=jB l:=by
 unfold nW at h ⊢;split at h
 ·simp at h
 ·rename_i h1
  rw[if_neg h1];exact⟨⟨by omega,by
   rcases d9 (∀t∈l,t.length≤65536)with h2|h2
   ·exact h2
   ·exact absurd (.inr h2) h1⟩,rfl⟩
def IU(l:List iX)(sz:Nat)(w0:World)(e:Ending)(w:World):Prop:=∃v,e=.returned (.tuple #[v,.int .i64 (nW l).2])∧((nW l).2=0→qp w w0.heap.size v (kT l sz))∧Below w0.heap.size w0 w
theorem IU.mk{l:List iX}{sz:Nat}{w0 w:World}{v:Value}{k:Int}(h:(nW l).2=k)(h1:(nW l).2=0→qp w w0.heap.size v (kT l sz))(h2:Below w0.heap.size w0 w):IU l sz w0 (.returned (.tuple #[v,.int .i64 k])) w:=⟨v,by rw[h],h1,h2⟩
theorem qp.nil(w:World)(b:Nat):qp w b (.slice none 0 0) []:=World.ownsRow_nil _ _ _ _
theorem Xd{t:iX}{sz i m:Nat}(hm:m=min (i*sz+sz) t.length):fu (wW sz (kH ((fu t).extract (i*sz) m)))=Gv t sz i:=by
 rw[BS,oI];unfold Gv;congr 2;rw[hm];by_cases h:i*sz+sz≤t.length
 ·rw[dz h,fw]
 ·rw[Nat.min_eq_right fZ ,aF (by rw[aC];omega),aF (by rw[aC];omega)]
theorem Cn(w:World)(A:Option Addr)(c:Nat)(l:List iX)(h:vY w (.slice A l.length c) l)(sz:Nat)(hs1:1≤sz)(hs2:sz≤1000):
  Calls prog 46 #[.slice A l.length c,.int .i64 sz] w (IU l sz w):=by
 obtain⟨i1,hi1,hy0,hy1,hy2⟩:=info_parts Tryz.Hy;obtain⟨A',c',e0,hc,hm⟩:=h.form;cases e0;have CP:=af (H7 w A c l h);by_cases he:(nW l).2=0
 ·obtain⟨hok,hp1⟩:=TK he;rw[he,hp1]at CP;by_cases hl:l = []
  ·have HE:∀w',Below w.heap.size w w'→Hid (IU l sz w (.returned (.tuple #[.slice none 0 0,.int .i64 0])) w'):=fun w' hb=>IU.mk he (fun _=>by rw[show kT l sz = []from if_pos hl];exact qp.nil _ _) hb
   have hn:(((l.length:Nat):Int)==0)=true:=by rw[hl];rfl
   clear hp1 hok he hl;go_enter func46,ntmps46;go_wp2_with fail;refine CP.out.mono ?_;rintro e w1 ⟨rfl,hb⟩;have HB:=af hb;have qB:=HE w1 hb;clear CP hb HE;go_wp2;go_ret2;exact qB.out
  ·have hn:(((l.length:Nat):Int)==0)=false:=by cases l with|nil=>exact absurd rfl hl|cons a b=>simp;omega
   have hpl:=yj l hok;have hfl:=O8 hok;have HS:=af (Xc (gJ (jB l).length) (jB l));have hdl:=ja (jB l).length 5 fZ ;have hpi:jc ((jB l).length:Int)=(gJ (jB l).length,0):=by
    unfold jc;rw[if_pos fZ ,aT]
   have HF:Hid (IU l sz w=fun e w'=>∃v,e=.returned (.tuple #[v,.int .i64 0])∧qp w' w.heap.size v (sw (su l) sz (need (su l).length sz))∧Below w.heap.size w w'):=by
    show _=_
    funext e w'
    unfold IU;rw[he,Zo hl];simp
   have hfb:su l=1::(gJ (jB l).length++jB l):=rfl;rw[HF.out];clear HF;rw[←hfb]at HS;clear hfb;have hz:=gL (jB l);generalize su l=F at *;generalize jB l=T at *;have hzz:¬9223372036854775807<(⟨#[1]⟩:ByteArray).size+(fu (gJ T.length)).size:=by rw[gL,show (⟨#[1]⟩:ByteArray).size=1 from rfl];omega
   have alp:¬9223372036854775807<((⟨#[1]⟩:ByteArray)++fu (gJ T.length)).size+(fu T).size:=by rw[ByteArray.size_append,gL,gL,show (⟨#[1]⟩:ByteArray).size=1 from rfl];omega
   have hzF:=gL F;clear hp1 he hok hl;go_enter func46,ntmps46;go_wp2_with fail;refine CP.out.mono ?_;rintro e w1 ⟨rfl,hb⟩;have HB:=af hb;have CI:=tT ((T.length:Nat):Int) w1;rw[hpi]at CI;have Aa:=af CI;clear CP hb CI hpi;go_wp2_with fail;refine Aa.out.mono ?_;rintro e w2 ⟨rfl,hb⟩;have HB2:=(hTr HB hb);clear Aa hb HB;go_wp2;try rw[HS.out]
   go_loopw [10,11] (fun vi ai wr=>∃i:Nat,i≤need F.length sz∧ai=.int .i64 ((i*sz:Nat):Int)∧Hid (qp wr w.heap.size vi (sw F sz i))∧Below w.heap.size w wr) (fun _ ai _=>F.length+sz-(intOf ai).toNat)
   case atStart=>exact⟨0,by omega,by simp,qp.nil _ _,HB2.out⟩
   case round =>
    clear HB2 HS;obtain⟨i,hi,rfl,HO,hbw⟩:=hrel;have HW:=af hbw;have hsz:=hbw.size;have hL:=NK F sz i;by_cases hlt:i*sz<F.length
    ·have hni:=Xb hs1 hlt;have hI:i≤F.length:=aS (Nat.le_mul_of_pos_right i fZ ) (Nat.le_of_lt hlt);have hsucc:(i+1)*sz=i*sz+sz:=Nat.succ_mul i sz;have HX:=af (fun(m:Nat) (hm:m=min (i*sz+sz) F.length)=>Xd hm);have hlt':((i*sz:Nat):Int)<(F.length:Int):=by omega
     have CP:∀m:Nat,m=min (i*sz+sz) F.length→Hid (Calls prog 40 #[.string ((fu F).extract (i*sz) m),.int .i64 sz] wr fun e w'=>e=.returned (.string (Gv F sz i))∧Below wr.heap.size wr w'):=fun m hm=>by
      have:=Lg ((fu F).extract (i*sz) m) sz (by rw[bJ,gL];omega) hs2 wr;rw[HX.out m hm]at this;exact af this
     generalize hj:i*sz=j at *;have HS2:=af (Lh F sz i);generalize Gv F sz i=X at *;clear HX hbw;have C:=CP ((min ((j:Int)+sz) (F.length:Int)).toNat) fZ ;clear CP;go_wp2_with fail;refine C.out.mono ?_;rintro e w3 ⟨rfl,hb3⟩;have HB3:=af (HW.out.trans (hb3.mono hsz));have M9:=af (HO.out.keep hb3);clear C hb3 HO HW;have Qf:=HB3.out.size;go_wp2_with (at_builtin;go_must (refine iE _ rfl (.tmp 45) (.tmp 57) _ rfl w.heap.size 9 i1 _ 1 16 underlying53 hi1 hy0 hy1 hy2 rfl fZ u10 (sw F sz i).length _ rfl (M9.out.alloc _) _ 1 1 [.string X] rfl rfl (gY _ _ _ _) (by simp[Value.oneCell']) fZ fZ (by simp;omega) ?_;intro v4 w4 iU jl rT))
     have Fv:Hid (qp w4 w.heap.size v4 (sw F sz (i+1))):=by
      show World.ownsRow _ _ _ _ _ _ _;rw[HS2.out,aj,aQ,eG];exact iU
     have kY:=af ((HB3.out.alloc Qf (.cells #[.string X] 9)).grown jl (by simp;omega) (fun g h=>(World.ownsRow.lt M9.out g h).1));clear iU jl rT M9 HB3;go_wp2;go_roundw
     case rel=>exact⟨i+1,hni,by rw[hsucc];go_num,Fv,kY.out⟩
     case measure=>simp[intOf];omega
    ·have hin:i=need F.length sz:=by
      have:=rZ (c:=F.length) (m:=i) hs1 fZ ;omega
     have hlt':¬((i*sz:Nat):Int)<(F.length:Int):=by omega
     subst hin;clear hbw hL;go_wp2;go_ret2;exact⟨_,rfl,HO.out,HW.out⟩
 ·have HE:∀w',Below w.heap.size w w'→Hid (IU l sz w (.returned (.tuple #[.slice none 0 0,.int .i64 (nW l).2])) w'):=fun w' hb=>IU.mk rfl (fun h0=>absurd h0 he) hb
  generalize (nW l).2=k at *;generalize (nW l).1=S at *;have hne:(k != 0)=true:=by simpa using he
  go_enter func46,ntmps46;go_wp2_with fail;refine CP.out.mono ?_;rintro e w1 ⟨rfl,hb⟩;have qB:=HE w1 hb;clear CP hb HE;go_wp2;go_ret2;exact qB.out
end Go.Proofs.YtichfhpgdhdiaaaGreat
namespace Go.Proofs.YtichfhpgdhdiaaaGreat
open Go.RowKit
abbrev TL:=Option Addr×Nat×Nat×Int
def O9(b:TL):Value×Value:=(.slice b.1 b.2.1 b.2.2.1,.int .i64 b.2.2.2)
def Zp(x:List iX×Nat)(b:TL)(W:World):Prop:=b.2.1=x.1.length∧b.2.2.2=(x.2:Int)∧vY W (.slice b.1 x.1.length b.2.2.1) x.1
def Zq(b:TL):Prop:=b=(none,0,0,-1)
theorem Ey(n l:Nat)(hn:1≤n)(M:Nat→Prop)(h:Nat)(Ba Bz:Nat)(area:ByteArray)(sz H:Nat)(hs1:1≤sz)(hs2:sz≤1000)(hH:H≤10000)(ha:area.size=H*sz)(hMa:¬M Ba)(hMz:¬M Bz)(hBa:Ba<h)(hBz:Bz<h)(J:List (List iX×Nat)→World→Prop)(Jx:World→Prop)(hJb:∀pre W W',Below W.heap.size W W'→J pre W→J pre W')(Vy:∀W W',Below W.heap.size W W'→Jx W→Jx W')(hY:∀pre x b W,J pre W→pre++[x] <+: (mX (kH area) sz H).1→Zp x b W→YieldAt Fence.wide (n-1) prog l #[(O9 b).1,(O9 b).2] W fun e W'=>e=.returned (.bool true)∧J (pre++[x]) W'∧iZ M h W W')(hZ:∀b W,J (mX (kH area) sz H).1 W→(mX (kH area) sz H).2=true→Zq b→YieldAt Fence.wide (n-1) prog l #[(O9 b).1,(O9 b).2] W fun e W'=>e=.returned (.bool false)∧Jx W'∧iZ M h W W')(W:World)(x1:gV W Ba 9 #[.string area])(x2:gV W Bz 3 #[.int .i64 sz])(h0:J [] W):
  CallsIn Fence.wide n prog 134 #[.func (.yield l) #[] #[],.pointer (some ⟨Ba,0,none⟩),.pointer (some ⟨Bz,0,none⟩)] W fun e W'=>(∃v,e=.returned v)∧AQ (mX (kH area) sz H).2 (Jx W') (J (mX (kH area) sz H).1 W'):=by
 have HX0:Hid (mX (kH area) sz H=frX (kH area) sz H (H+1) 0):=rfl;generalize mX (kH area) sz H=X at *;obtain⟨xs,stop⟩:=X;simp only at hY hZ ⊢;have HJB:=af hJb;have HXB:=af Vy;have HY:=af hY;have HZ:=af hZ;have hal:(kH area).length=H*sz:=ha;have Rl:=af hal;have hHs:H*sz≤10000*1000:=Nat.mul_le_mul hH hs2;have HA:=af ha;clear hJb Vy hY hZ hal ha;refine callsIn_of_wp func134 rfl trivial ?_ rfl;simp only[ntmps134,di,aI,aM,Nat.reduceAdd,Nat.reduceSub,dm,dB,dL,dH,aO,cB];gi_wp2;gi_loopw [4] (fun at_ wr=>∃(k f:Nat) (pre:List (List iX×Nat)),at_=.int .i64 ((k*sz:Nat):Int)∧k≤H∧H<k+f∧Hid (xs=pre++(frX (kH area) sz H f k).1)∧Hid (stop=(frX (kH area) sz H f k).2)∧J pre wr∧gV wr Ba 9 #[.string area]∧gV wr Bz 3 #[.int .i64 sz]) (fun at_ _=>H*sz-(intOf at_).toNat)
 case atStart=>exact⟨0,H+1,[],by simp,by omega,by omega,by show _=_;rw[←HX0.out];rfl,by show _=_;rw[←HX0.out],h0,x1,x2⟩
 case round =>
  clear h0 x1 x2 HX0;obtain⟨k,f,pre,rfl,hk,hf,HX,HS,hj,y1,y2⟩:=hrel;have q1:wr.cell? ⟨Ba,0,none⟩=some (.string area):=y1.cl 0;have q2:wr.cell? ⟨Bz,0,none⟩=some (.int .i64 sz):=y2.cl 0;have hkm:k*sz≤H*sz:=bT _ hk;obtain⟨f,rfl⟩:∃f',f=f'+1:=⟨f-1,by omega⟩;by_cases hlt:k<H
  ·have hlt1:k*sz<H*sz:=Nat.mul_lt_mul_of_pos_right hlt fZ ;have hlt2:k*sz<area.size:=by rw[HA.out];exact hlt1
   have hlt3:((k*sz:Nat):Int)<(area.size:Int):=by omega
   have hd:=area[k*sz].toNat_lt;have hget:(kH area)[k*sz]?=some area[k*sz]:=by
    unfold kH;rw[au (by simpa using hlt2)];rfl
   by_cases hz:area[k*sz]=0
   ·have HE:Hid (frX (kH area) sz H (f+1) k=([],false)):=Dc (fun e=>e.2 (by rw[hget,hz]));have HR:Hid (AQ stop (Jx wr) (J xs wr)):=by
     have e1:stop=false:=by rw[HS.out,HE.out]
     have e2:xs=pre:=by rw[HX.out,HE.out,aU]
     show AQ _ _ _;unfold AQ;rw[e1,if_neg gu ,e2];exact hj
    have hb:((area[k*sz].toNat:Int) != 0)=false:=by rw[hz];rfl
    clear HX HS HE hj y1 y2 hget hz;gi_wp2;go_end0;exact⟨⟨_,rfl⟩,HR.out⟩
   ·have hgo:k<H∧(kH area)[k*sz]?≠some 0:=⟨hlt,by rw[hget];intro e;exact hz (aB e)⟩;have hb:((area[k*sz].toNat:Int) != 0)=true:=by
     have:area[k*sz].toNat≠0:=fun e=>hz (UInt8.toNat_inj.1 e)
     simp;omega
    have CD:=Cm (area.extract (k*sz) area.size) wr (by rw[bJ];omega) (by rw[bJ];have:=HA.out;omega);rw[pV]at CD;have CD':=af CD;have hdl:∀l c,kD ((kH area).drop (k*sz))=(l,c,true)→1≤c∧c≤H*sz-k*sz:=fun l c e=>by
     have:=sQ e;rwa [aC,Rl.out]at this
    have HGO:Hid (∀l c,kD ((kH area).drop (k*sz))=(l,c,true)→frX (kH area) sz H (f+1) k=((l,k+need c sz)::(frX (kH area) sz H f (k+need c sz)).1,(frX (kH area) sz H f (k+need c sz)).2)):=fun l c hd=>NE hgo hd
    have Yu:Hid ((kD ((kH area).drop (k*sz))).2.2=false→frX (kH area) sz H (f+1) k=([],true)):=fun hd=>IC hgo hd
    have hq:kD ((kH area).drop (k*sz))=kD (area.data.toList.drop (k*sz)):=rfl;rw[hq]at hdl HGO Yu;clear CD hq hget hz hgo;generalize kD (area.data.toList.drop (k*sz))=r at *;obtain⟨rl,c,ok⟩:=r;simp only at Yu;have HJ:=af hj;have MF:=af y1;have Zr:=af y2;clear hj y1 y2;cases ok with
    |false =>
     have HE:=af (Yu.out rfl);have HS2:Hid (stop=true):=by show _=_;rw[HS.out,HE.out]
     have mZ:Hid (xs=pre):=by show _=_;rw[HX.out,HE.out,aU]
     clear HGO Yu hdl HX HS HE;gi_wp2_with fail;refine⟨trivial,?_⟩;refine(callsIn_wide.2 CD'.out).mono ?_;rintro e w3 ⟨v3,c3,rfl,_,hb3⟩;simp only;obtain⟨fn,tmps,assign,body,hy,hR⟩:=HZ.out (none,0,0,-1) w3 (by rw[mZ.out];exact HJB.out _ _ _ hb3 HJ.out) HS2.out rfl;have HR:=af hR;unfold O9 at hy;simp only at hy;clear hR CD' hb3 HJ MF Zr;gi_wp2_with fail;refine HR.out.mono ?_;rintro e w4 ⟨rfl,hjx,_⟩;have HFin:Hid (AQ stop (Jx w4) (J xs w4)):=by
      show AQ _ _ _;unfold AQ;rw[if_pos HS2.out];exact hjx
     clear hjx HR;gi_wp2;exact bodyPost_ret (v:=.tuple #[]) (results_none rfl _ _ _) rfl ⟨⟨_,rfl⟩,HFin.out⟩
    |true =>
     obtain⟨hc1,hc2⟩:=hdl _ _ rfl;have HE:=af (HGO.out _ _ rfl);have hnp:=sP hc1 hs1;have hnl:need c sz≤H-k:=rZ hs1 (by rw[Nat.sub_mul];exact hc2);have HS2:Hid (stop=(frX (kH area) sz H f (k+need c sz)).2):=by show _=_;rw[HS.out,HE.out]
     have mZ:Hid (xs=(pre++[(rl,k+need c sz)])++(frX (kH area) sz H f (k+need c sz)).1):=by show _=_;rw[HX.out,HE.out];simp
     have CS0:=Ew c sz hs1 fZ ;generalize need c sz=m at *;have CS:∀w:World,∀nq,Calls prog 136 #[.int .i64 c,.int .i64 sz] (w.drewN nq) fun e w'=>e=.returned (.int .i64 m)∧w'=w.drewN nq:=fun w nq=>(CS0 (w.drewN nq)).mono fun _ _ ⟨a,b⟩=>⟨a,b.symm⟩
     have Nf:=af CS;clear HGO Yu hdl HX HS HE CS CS0;gi_wp2_with fail;refine⟨trivial,?_⟩;refine(callsIn_wide.2 CD'.out).mono ?_;rintro e w3 ⟨v3,c3,rfl,hT,hb3⟩;obtain⟨hT2,rfl⟩:=hT rfl;clear hT;obtain⟨A3,cc,rfl,_,_⟩:=vY.form hT2;simp only;have z1:=MF.out.keep hb3;have z2:=Zr.out.keep hb3;have p1:w3.cell? ⟨Ba,0,none⟩=some (.string area):=z1.cl 0;have p2:w3.cell? ⟨Bz,0,none⟩=some (.int .i64 sz):=z2.cl 0;have HT:=af hT2;have HB3:=af hb3;have HZ1:=af z1;have HZ2:=af z2;clear CD' hT2 hb3 z1 z2 MF Zr;have hz0:((sz:Int)==0)=false:=by simp;omega
     have hz1:¬(sz:Int)=0:=by omega
     have afJ:((k:Int)*(sz:Int)).tdiv (sz:Int)=(k:Int):=Int.mul_tdiv_cancel _ hz1;have afK:((k:Int)*(sz:Int))/(sz:Int)=(k:Int):=Int.mul_ediv_cancel _ hz1;gi_wp2_with fail;refine wpIn_wide.2 ?_;go_quiet ((exact Calls.quiet_of_same (Nf.out _ _)));have qY:Below w3.heap.size w3 (w3.drewN nq):=((jZ.refl w3).drewN nq).below _;obtain⟨fn,tmps,assign,body,hy,hR⟩:=HY.out pre (rl,k+m) (A3,rl.length,cc,((k+m:Nat):Int)) (w3.drewN nq) (HJB.out _ _ _ (HB3.out.trans (qY.mono HB3.out.size)) HJ.out) ⟨_,mZ.out.symm⟩ ⟨rfl,rfl,HT.out.keep (dO qY)⟩;have HR:=af hR;have HZ3:=af (HZ1.out.keep qY)
     have YW:=af (HZ2.out.keep qY);have ab5:((k+m:Nat):Int)=(k:Int)+(m:Int):=by omega
     unfold O9 at hy;simp only at hy;rw[ab5]at hy;clear hR p1 p2 q1 q2 qY HB3 HJ HT HZ1 HZ2 Nf afJ afK;gi_wp2_with fail;refine HR.out.mono ?_;rintro e w4 ⟨rfl,hj4,hk4⟩;have HJ4:=af hj4;have HZ5:=af (hk4.blk HZ3.out hBa hMa);have HZ6:=af (hk4.blk YW.out hBz hMz);have q2:w4.cell? ⟨Bz,0,none⟩=some (.int .i64 sz):=HZ6.out.cl 0;have hmul:((k+m)*sz:Nat)=k*sz+m*sz:=dx _ _ _;have alu:(k+m)*sz≤H*sz:=bT _ fZ ;have hms:1*sz≤m*sz:=bT _ hnp;have hci:((k:Int)+(m:Int))*(sz:Int)=(((k+m)*sz:Nat):Int):=by rw[eH,ab5]
     have hwz:IntKind.i64.wrap (((k:Int)+(m:Int))*(sz:Int))=(((k+m)*sz:Nat):Int):=by rw[hci,jo fZ fZ ]
     clear hj4 hk4 HR hy HZ3 YW hci;gi_wp2;go_roundw
     case rel=>exact⟨k+m,f,pre++[(rl,k+m)],by first|rfl|go_num,by omega,by omega,mZ,HS2,HJ4.out,HZ5.out,HZ6.out⟩
     case measure=>simp[intOf];omega
  ·have hkH:k=H:=by omega
   have HE:Hid (frX (kH area) sz H (f+1) k=([],false)):=Dc (fun e=>hlt e.1);have HR:Hid (AQ stop (Jx wr) (J xs wr)):=by
    have e1:stop=false:=by rw[HS.out,HE.out]
    have e2:xs=pre:=by rw[HX.out,HE.out,aU]
    show AQ _ _ _;unfold AQ;rw[e1,if_neg gu ,e2];exact hj
   have hge:¬((k*sz:Nat):Int)<(area.size:Int):=by rw[HA.out,hkH];omega
   clear HX HS HE hj y1 y2;gi_wp2;go_end0;exact⟨⟨_,rfl⟩,HR.out⟩
end Go.Proofs.YtichfhpgdhdiaaaGreat
namespace Go.Proofs.YtichfhpgdhdiaaaGreat
open Go.RowKit
theorem IV:∀r:List iX,Lib.joinTail [] r=r.flatten
 |[]=>rfl
 |x::r=>by simp[Lib.joinTail]
theorem QE(l:List ByteArray):Lib.join (l.map (·.data.toList)) []=l.flatMap kH:=by
 cases l with
 |nil=>rfl
 |cons x l =>
  rw[dJ,Lib.join_cons,IV];simp[List.flatMap,Function.comp_def];rfl
theorem Zt{w:World}{b o:Nat}{v:Value}(h:w.cell? ⟨b,o,none⟩=some v):b<w.heap.size:=by
 rcases aP b w.heap.size with h1|h1
 ·exact h1
 ·simp[World.cell?,eu h1]at h
theorem Gw(W:World)(A:Option Addr)(c:Nat)(xs:List ByteArray)(h:Strs W (.slice A xs.length c) xs)(h2:xs.length≤1000)(hl:(xs.flatMap kH).length≤140737488355328):
  Calls prog 93 #[.slice A xs.length c,.string ⟨#[]⟩] W fun e w'=>e=.returned (.string (fu (xs.flatMap kH)))∧Below W.heap.size W w':=by
 rcases aP xs.length 2 with hlt|hge
 ·match xs,h with
  |[],h=>exact(strings_Join_none A c ⟨#[]⟩ W).mono fun e w' ⟨h1,h2⟩=>⟨h1,by rw[h2];exact ah _ _⟩
  |[x],h =>
   obtain⟨b,off,rfl,hc⟩:=h.get (i:=0) gu ;refine(strings_Join_one b off c x ⟨#[]⟩ W (by simpa using hc)).mono fun e w' ⟨h1,h2⟩=>⟨?_,by rw[h2];exact ah _ _⟩
   rw[h1];have:fu ([x].flatMap kH)=x:=by simp only[aG,dQ,aU];exact tX x
   rw[this]
  |x::y::l,h=>simp at hlt;omega
 ·obtain⟨b,off,rfl,hc⟩:=h.get (i:=0) fZ ;have hj:=QE xs;obtain⟨A',c',e0,hcap,_⟩:=h.form;cases e0;refine(strings_Join_many b off c xs ⟨#[]⟩ W (fun j x hx=>?_) (Zt hc) hge fZ hcap (by rw[show (⟨#[]⟩:ByteArray).data.toList = []from rfl,hj];exact hl)).mono fun e w' ⟨h1,h2⟩=>⟨?_,h2⟩
  ·obtain⟨hlt,rfl⟩:=ay.1 hx;obtain⟨b',off',e,hc'⟩:=h.get hlt;cases e;exact hc'
  ·rw[h1,show (⟨#[]⟩:ByteArray).data.toList = []from rfl,hj];rfl
theorem Ez(s:ByteArray)(z:Int)(w:World):Calls prog 94 #[.string s,.int .i64 z] w fun e w' =>
  e=.returned (.func (.func 134) #[] #[.pointer (some ⟨w.heap.size,0,none⟩),.pointer (some ⟨w.heap.size+1,0,none⟩)])∧w'=(w.alloc (.cells #[.string s] 9)).alloc (.cells #[.int .i64 z] 3):=by
 go_enter func94,ntmps94;go_wp2;go_ret;exact⟨by simp,rfl⟩
def xg(d:Dk):Nat:=(jY ((cur d).getD 0 ⟨#[]⟩)).toNat
def xN(d:Dk):List (List iX×Nat)×Bool:=mX (lI (cur d) (gN d.secs.length (xg d)) (gZ d.secs.length)) d.size.toNat (gZ d.secs.length)
theorem Bf{d:Dk}(h:mF d≠0):jk d=((0,[],0),mF d):=if_pos h
theorem yC{d:Dk}(h:mF d=0)(ha:¬(xg d=1∨xg d=2)):jk d=((0,[],0),13):=by
 unfold jk;rw[if_neg (by simp[h])];have:xL (cur d) d.size.toNat=none:=if_neg ha;rw[this]
theorem yD{d:Dk}(h:mF d=0)(ha:xg d=1∨xg d=2):jk d=if (xN d).2=true then((0,[],0),13)else((xg d,(xN d).1.flatMap (·.1),oJ (xN d).1 0),0):=by
 unfold jk;rw[if_neg (by simp[h])];have:xL (cur d) d.size.toNat=(oZ (lI (cur d) (gN d.secs.length (xg d)) (gZ d.secs.length)) d.size.toNat (gZ d.secs.length)).map fun x=>(xg d,x.1,x.2):=by
  unfold xL;rw[jT];exact if_pos ha
 rw[this,W9];by_cases hb:(xN d).2=true
 ·rw[if_pos hb,if_pos (show (mX _ _ _).2=true from hb)];rfl
 ·rw[if_neg hb,if_neg (show ¬(mX _ _ _).2=true from hb)];rfl
end Go.Proofs.YtichfhpgdhdiaaaGreat
