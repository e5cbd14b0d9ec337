/- Digests -/
import Derived.Test.YtichfhpgdhdiaaaGreatProg
import Derived.Test.YtichfhpgdhdiaaaGreatJ1
import Derived.Test.YtichfhpgdhdiaaaGreatJ2
import Derived.Test.YtichfhpgdhdiaaaGreatJ15
import Derived.BigRegion
import Derived.Deep.QuietTactic
import Derived.Deep.DeepMust
import Derived.Deep.RegionLaw
import Derived.Laws.Closers25b
import Derived.Test.YtichfhpgdhdiaaaGreatJ3
set_option maxRecDepth 100000
set_option maxHeartbeats 8000000
set_option linter.unusedVariables false
set_option linter.unusedSimpArgs false
open Go.Proofs.Tryz
namespace Go.Proofs.YtichfhpgdhdiaaaGreat
open Go.RowKit
abbrev Dg:=UInt64×UInt64
def lS(d:Dg):Value:=.agg #[.int .u64 (d.1.toNat:Int),.int .u64 (d.2.toNat:Int)]
def rq(d:Dg):List Value:=[.int .u64 (d.1.toNat:Int),.int .u64 (d.2.toNat:Int)]
def Cg(x:Int):UInt64:=UInt64.ofNat x.toNat
theorem rY{x:Int}(h0:0≤x)(h1:x≤18446744073709551615):((Cg x).toNat:Int)=x:=by
 unfold Cg;rw[UInt64.toNat_ofNat'];omega
theorem p8(x:Int):0≤IntKind.u64.wrap x∧IntKind.u64.wrap x≤18446744073709551615:=by
 exact wrap_within .u64 x
theorem Kl(op:BinOp)(a b:Int):0≤bits op .u64 a b∧bits op .u64 a b≤18446744073709551615:=bits_within op .u64 a b
def hs1(h:UInt64)(b:UInt8):UInt64:=Cg (IntKind.u64.wrap (bits .xor .u64 (h.toNat:Int) (b.toNat:Int)*1099511628211))
def hs2(h:UInt64)(b:UInt8):UInt64:=Cg (bits .xor .u64 (IntKind.u64.wrap ((h.toNat:Int)*1099511628211)) (b.toNat:Int))
theorem Sy(h:UInt64)(b:UInt8):((hs1 h b).toNat:Int)=IntKind.u64.wrap (bits .xor .u64 (h.toNat:Int) (b.toNat:Int)*1099511628211):=rY (p8 _).1 (p8 _).2
theorem Sz(h:UInt64)(b:UInt8):((hs2 h b).toNat:Int)=bits .xor .u64 (IntKind.u64.wrap ((h.toNat:Int)*1099511628211)) (b.toNat:Int):=rY (Kl _ _ _).1 (Kl _ _ _).2
def jQ:UInt64:=14695981039346656037
theorem WA(h:UInt64)(b:UInt8)(w:World):Calls prog 74 #[.int .u64 (h.toNat:Int),.int .u64 (b.toNat:Int)] w fun e w'=>e=.returned (.int .u64 ((hs1 h b).toNat:Int))∧w'=w:=by
 have H:=af (Sy h b);go_enter func74,ntmps74;go_wp2;go_ret;exact⟨jK H.out.symm,rfl⟩
theorem WB(h:UInt64)(b:UInt8)(w:World):Calls prog 75 #[.int .u64 (h.toNat:Int),.int .u64 (b.toNat:Int)] w fun e w'=>e=.returned (.int .u64 ((hs2 h b).toNat:Int))∧w'=w:=by
 have H:=af (Sz h b);go_enter func75,ntmps75;go_wp2;go_ret;exact⟨jK H.out.symm,rfl⟩
theorem wG{α : Type}(k : α→UInt8→α)(x : α)(s:ByteArray){i:Nat}(hi:i<s.size):((s.data.toList.take (i+1)).foldl k x)=k ((s.data.toList.take i).foldl k x) s[i]:=by
 have h:i<s.data.toList.length:=hi;rw[aN h,List.foldl_append];rfl
def Au(k:UInt64→UInt8→UInt64)(s:ByteArray)(i:Nat)(h:UInt64):Prop:=h=(s.data.toList.take i).foldl k jQ
def hF1(l:List UInt8):UInt64:=l.foldl hs1 jQ
def hF2(l:List UInt8):UInt64:=l.foldl hs2 jQ
theorem Qh(s:ByteArray)(hs:s.size≤9000000000000000000)(w:World):Calls prog 73 #[.string s,OD 74] w fun e w'=>e=.returned (.int .u64 ((hF1 s.data.toList).toNat:Int))∧w'=w:=by
 have H0:Hid (Au hs1 s 0 jQ):=rfl;have HL:Hid (hF1 s.data.toList=(s.data.toList.take s.size).foldl hs1 jQ):=by
  show _=_;unfold hF1;rw[aF (by exact ak _)]
 have HF:=af WA;unfold OD;go_enter func73,ntmps73;go_wp2;go_loopw [5,9] (fun hv iv wr=>∃(i:Nat) (h:UInt64),i≤s.size∧hv=.int .u64 (h.toNat:Int)∧iv=.int .i64 i∧Hid (Au hs1 s i h)∧wr=w) (fun _ iv _=>s.size-(intOf iv).toNat)
 case atStart=>exact⟨0,jQ,by omega,rfl,rfl,H0,rfl⟩
 case round =>
  clear H0;obtain⟨i,h,hi,rfl,rfl,HR,rfl⟩:=hrel;by_cases hlt:i<s.size
  ·have HR2:Hid (Au hs1 s (i+1) (hs1 h s[i])):=by
    show _=_;rw[wG hs1 jQ s hlt,show h=_ from HR.out]
   have hb:=s[i].toNat_lt;have hwb:IntKind.u64.wrap (s[i].toNat:Int)=(s[i].toNat:Int):=IntWalk.u64_in _ ⟨by omega,by omega⟩;go_wp2_with fail;refine(HF.out h s[i] _).mono ?_;rintro e w1 ⟨rfl,rfl⟩;go_wp2;go_roundw
   case rel=>exact⟨i+1,_,by omega,rfl,by go_num,HR2,trivial⟩
   case measure=>simp[intOf];omega
  ·have hlt':¬(i:Int)<(s.size:Int):=by omega
   have HE:Hid (h=hF1 s.data.toList):=by
    show _=_;rw[HL.out,show s.size=i by omega];exact HR.out
   go_wp2;go_ret;exact⟨jK (by rw[HE.out]),rfl⟩
theorem Qi(s:ByteArray)(hs:s.size≤9000000000000000000)(w:World):Calls prog 73 #[.string s,OD 75] w fun e w'=>e=.returned (.int .u64 ((hF2 s.data.toList).toNat:Int))∧w'=w:=by
 have H0:Hid (Au hs2 s 0 jQ):=rfl;have HL:Hid (hF2 s.data.toList=(s.data.toList.take s.size).foldl hs2 jQ):=by
  show _=_;unfold hF2;rw[aF (by exact ak _)]
 have HF:=af WB;unfold OD;go_enter func73,ntmps73;go_wp2;go_loopw [5,9] (fun hv iv wr=>∃(i:Nat) (h:UInt64),i≤s.size∧hv=.int .u64 (h.toNat:Int)∧iv=.int .i64 i∧Hid (Au hs2 s i h)∧wr=w) (fun _ iv _=>s.size-(intOf iv).toNat)
 case atStart=>exact⟨0,jQ,by omega,rfl,rfl,H0,rfl⟩
 case round =>
  clear H0;obtain⟨i,h,hi,rfl,rfl,HR,rfl⟩:=hrel;by_cases hlt:i<s.size
  ·have HR2:Hid (Au hs2 s (i+1) (hs2 h s[i])):=by
    show _=_;rw[wG hs2 jQ s hlt,show h=_ from HR.out]
   have hb:=s[i].toNat_lt;have hwb:IntKind.u64.wrap (s[i].toNat:Int)=(s[i].toNat:Int):=IntWalk.u64_in _ ⟨by omega,by omega⟩;go_wp2_with fail;refine(HF.out h s[i] _).mono ?_;rintro e w1 ⟨rfl,rfl⟩;go_wp2;go_roundw
   case rel=>exact⟨i+1,_,by omega,rfl,by go_num,HR2,trivial⟩
   case measure=>simp[intOf];omega
  ·have hlt':¬(i:Int)<(s.size:Int):=by omega
   have HE:Hid (h=hF2 s.data.toList):=by
    show _=_;rw[HL.out,show s.size=i by omega];exact HR.out
   go_wp2;go_ret;exact⟨jK (by rw[HE.out]),rfl⟩
end Go.Proofs.YtichfhpgdhdiaaaGreat
namespace Go.Proofs.YtichfhpgdhdiaaaGreat
open Go.RowKit
@[go_sem] theorem eqDg (a b c d:Int) (w:World):(Op.equalIn 10000 39 (.agg #[.int .u64 a,.int .u64 b]) (.agg #[.int .u64 c,.int .u64 d])).run prog w=.ok (a==c&&b==d) w:=by
 have u3:=underlying37;have a3:=isAgg37;have z3:=sizeOf37;rw[show (10000:Nat)=9999+1 from rfl,Op.equalIn];simp only[Sem.run_bind,run_underlying underlying39,Result.andThen_ok];simp only[Std.Legacy.Range.forIn_eq_forIn_range',Std.Legacy.Range.size,eP,fP,Nat.div_one,List.range'_succ,List.range'_zero,List.forIn_cons,List.forIn_nil];go_simp;by_cases h1:a=c<;>by_cases h2:b=d<;>simp[h1,h2]
theorem xG(x y:Dg):((x.1.toNat:Int)==(y.1.toNat:Int)&&(x.2.toNat:Int)==(y.2.toNat:Int))=decide (x=y):=by
 rw[fC];simp only[aK,beq_iff_eq,decide_eq_true_eq,Prod.ext_iff,←eD];omega
def jJ(s:List UInt8):Dg:=if hF1 s=0∧hF2 s=0 then(0,1)else(hF1 s,hF2 s)
def DgE(d:Dg)(w0:World)(e:Ending)(w:World):Prop:=e=.returned (.agg #[.int .u64 (d.1.toNat:Int),.int .u64 (d.2.toNat:Int)])∧Below w0.heap.size w0 w
theorem mo{x:UInt64}:(x.toNat:Int)=0↔x=0:=by
 constructor
 ·intro h;apply eD.1;simpa using h
 ·rintro rfl;rfl
theorem zq(s:ByteArray)(hs:s.size≤9000000000000000000)(w:World):Calls prog 33 #[.string s] w (DgE (jJ s.data.toList) w):=by
 have C1:=af (fun w=>Qh s hs w);have C2:=af (fun w=>Qi s hs w);unfold OD at C1 C2;have HD:Hid (jJ s.data.toList=if hF1 s.data.toList=0∧hF2 s.data.toList=0 then(0,1)else(hF1 s.data.toList,hF2 s.data.toList)):=rfl;generalize hF1 s.data.toList=a at *;generalize hF2 s.data.toList=b at *;generalize jJ s.data.toList=d at *;by_cases hz:a=0∧b=0
 ·obtain⟨rfl,rfl⟩:=hz;have HE:Hid (d=(0,1)):=by show _=_;rw[HD.out,if_pos ⟨rfl,rfl⟩]
  clear HD;have z:((0:UInt64).toNat:Int)=0:=rfl;rw[z]at C1 C2;go_enter func33,ntmps33;go_wp2_with fail;refine(C1.out _).mono ?_;rintro e w1 ⟨rfl,rfl⟩;go_wp2_with fail;refine(C2.out _).mono ?_;rintro e w1 ⟨rfl,rfl⟩;go_wp2;have kb:=(gV.new w #[.int .u64 0,.int .u64 1] 39).alloc (.cells #[.int .u64 0,.int .u64 1] 39);have kd:Below w.heap.size w ((w.alloc (.cells #[.int .u64 0,.int .u64 1] 39)).alloc (.cells #[.int .u64 0,.int .u64 1] 39)):=((ah _ _).alloc (ak _) _).alloc gu _
  have k0:=kb.cl 0;have k1:=kb.cl 1;exact bodyPost_ret (v:=.agg #[.int .u64 0,.int .u64 1]) (by simp[results,results33,go_sem,k0,k1]) rfl ⟨by rw[HE.out];rfl,kd⟩
 ·have hz2:((a.toNat:Int)==0&&(b.toNat:Int)==0)=false:=by
   rw[Bool.eq_false_iff];simp only[ne_eq,aK,beq_iff_eq];exact fun h=>hz ⟨mo.1 h.1,mo.1 h.2⟩
  have HE:Hid (d=(a,b)):=by show _=_;rw[HD.out,if_neg hz]
  clear HD hz;go_enter func33,ntmps33;go_wp2_with fail;refine(C1.out _).mono ?_;rintro e w1 ⟨rfl,rfl⟩;go_wp2_with fail;refine(C2.out _).mono ?_;rintro e w1 ⟨rfl,rfl⟩;go_wp2;have kb:=(gV.new w #[.int .u64 (a.toNat:Int),.int .u64 (b.toNat:Int)] 39).alloc (.cells #[.int .u64 (a.toNat:Int),.int .u64 (b.toNat:Int)] 39);have kd:Below w.heap.size w ((w.alloc (.cells #[.int .u64 (a.toNat:Int),.int .u64 (b.toNat:Int)] 39)).alloc (.cells #[.int .u64 (a.toNat:Int),.int .u64 (b.toNat:Int)] 39)):=((ah _ _).alloc (ak _) _).alloc gu _
  have k0:=kb.cl 0;have k1:=kb.cl 1;exact bodyPost_ret (v:=.agg #[.int .u64 (a.toNat:Int),.int .u64 (b.toNat:Int)]) (by simp[results,results33,go_sem,k0,k1]) rfl ⟨by rw[HE.out],kd⟩
def WC(s:ByteArray)(i:Nat)(a b:UInt64):Prop:=a=(s.data.toList.take i).foldl hs1 jQ∧b=(s.data.toList.take i).foldl hs2 jQ
theorem WE(s:ByteArray)(hs:s.size≤9000000000000000000)(w:World):Calls prog 53 #[.string s] w (DgE (jJ s.data.toList) w):=by
 have H0:Hid (WC s 0 jQ jQ):=⟨rfl,rfl⟩;have HL:Hid (∀a b,WC s s.size a b→(if a=0∧b=0 then((0:UInt64),(1:UInt64))else(a,b))=jJ s.data.toList):=by
  rintro a b ⟨h1,h2⟩;rw[aF (by exact ak _)]at h1 h2;subst h1 h2;rfl
 generalize jJ s.data.toList=d at *;go_enter func53,ntmps53;go_wp2;go_loopw [3,4,5] (fun av bv iv wr=>∃(i:Nat) (a b:UInt64),i≤s.size∧av=.int .u64 (a.toNat:Int)∧bv=.int .u64 (b.toNat:Int)∧iv=.int .i64 i∧Hid (WC s i a b)∧wr=w.alloc (.cells #[.int .u64 0,.int .u64 0] 39)) (fun _ _ iv _=>s.size-(intOf iv).toNat)
 case atStart=>exact⟨0,jQ,jQ,by omega,rfl,rfl,rfl,H0,rfl⟩
 case round =>
  clear H0;obtain⟨i,a,b,hi,rfl,rfl,rfl,HR,rfl⟩:=hrel;by_cases hlt:i<s.size
  ·have HR2:Hid (WC s (i+1) (hs1 a s[i]) (hs2 b s[i])):=by
    obtain⟨h1,h2⟩:=HR.out;exact⟨by rw[wG hs1 jQ s hlt,←h1],by rw[wG hs2 jQ s hlt,←h2]⟩
   have hb:=s[i].toNat_lt;have hwb:IntKind.u64.wrap (s[i].toNat:Int)=(s[i].toNat:Int):=IntWalk.u64_in _ ⟨by omega,by omega⟩;have e1:=Sy a s[i];have e2:=Sz b s[i];have E1:=af e1;have E2:=af e2;clear e1 e2;go_wp2;go_roundw
   case rel=>exact⟨i+1,hs1 a s[i],hs2 b s[i],by omega,by rw[E1.out],by rw[E2.out],by go_num,HR2,trivial⟩
   case measure=>simp[intOf];omega
  ·have hlt':¬(i:Int)<(s.size:Int):=by omega
   obtain rfl:i=s.size:=by omega
   have HE:=af (HL.out a b HR.out);clear HR HL;by_cases ha:a=0
   ·subst ha;by_cases hb:b=0
    ·subst hb;have qB:Hid (d=(0,1)):=by show _=_;rw[←HE.out,if_pos ⟨rfl,rfl⟩]
     have z:((0:UInt64).toNat:Int)=0:=rfl;rw[z];go_wp2;have kb:=gV.new w #[.int .u64 0,.int .u64 1] 39;have kd:Below w.heap.size w (w.alloc (.cells #[.int .u64 0,.int .u64 1] 39)):=(ah _ _).alloc (ak _) _;have k0:=kb.cl 0;have k1:=kb.cl 1;exact bodyPost_ret (v:=.agg #[.int .u64 0,.int .u64 1]) (by simp[results,results53,go_sem,k0,k1]) rfl ⟨by rw[qB.out];rfl,kd⟩
    ·have qB:Hid (d=(0,b)):=by show _=_;rw[←HE.out,if_neg (fun h=>hb h.2)]
     have z:((0:UInt64).toNat:Int)=0:=rfl;have zb:((b.toNat:Int)==0)=false:=by
      rw[beq_eq_false_iff_ne];exact fun h=>hb (mo.1 h)
     rw[z];go_wp2;have kb:=gV.new w #[.int .u64 0,.int .u64 (b.toNat:Int)] 39;have kd:Below w.heap.size w (w.alloc (.cells #[.int .u64 0,.int .u64 (b.toNat:Int)] 39)):=(ah _ _).alloc (ak _) _;have k0:=kb.cl 0;have k1:=kb.cl 1;exact bodyPost_ret (v:=.agg #[.int .u64 0,.int .u64 (b.toNat:Int)]) (by simp[results,results53,go_sem,k0,k1]) rfl ⟨by rw[qB.out];rfl,kd⟩
   ·have qB:Hid (d=(a,b)):=by show _=_;rw[←HE.out,if_neg (fun h=>ha h.1)]
    have za:((a.toNat:Int)==0)=false:=by
     rw[beq_eq_false_iff_ne];exact fun h=>ha (mo.1 h)
    go_wp2;have kb:=gV.new w #[.int .u64 (a.toNat:Int),.int .u64 (b.toNat:Int)] 39;have kd:Below w.heap.size w (w.alloc (.cells #[.int .u64 (a.toNat:Int),.int .u64 (b.toNat:Int)] 39)):=(ah _ _).alloc (ak _) _;have k0:=kb.cl 0;have k1:=kb.cl 1;exact bodyPost_ret (v:=.agg #[.int .u64 (a.toNat:Int),.int .u64 (b.toNat:Int)]) (by simp[results,results53,go_sem,k0,k1]) rfl ⟨by rw[qB.out],kd⟩
end Go.Proofs.YtichfhpgdhdiaaaGreat
namespace Go.Proofs.YtichfhpgdhdiaaaGreat
open Go.RowKit
def qD(a b:UInt64):Int:=if a.toNat<b.toNat then -1 else if b.toNat<a.toNat then 1 else 0
def kV(x y:Dg):Prop:=x.1.toNat<y.1.toNat∨x.1.toNat=y.1.toNat∧x.2.toNat<y.2.toNat
instance (x y:Dg):Decidable (kV x y):=by unfold kV;infer_instance
def kM(x y:Dg):Int:=if kV x y then -1 else if kV y x then 1 else 0
theorem Km{x y:Dg}(h:kV x y):kM x y=-1:=if_pos h
theorem mO(x:Dg):¬kV x x:=by unfold kV;omega
theorem uj{x y z:Dg}(h:kV x y)(k:kV y z):kV x z:=by unfold kV at *;omega
theorem Gh{x y:Dg}(h:kV x y):¬kV y x:=by unfold kV at *;omega
theorem DY{x y:Dg}(h:¬kV x y)(k:¬kV y x):x=y:=by
 unfold kV at h k;exact dP (eD.1 fZ ) (eD.1 fZ )
theorem Kn{x y:Dg}(h:kV y x):kM x y=1:=by unfold kM;rw[if_neg (Gh h),if_pos h]
theorem Nn(x:Dg):kM x x=0:=by unfold kM;rw[if_neg (mO x),if_neg (mO x)]
theorem xZ{x y:Dg}:kM x y=0↔x=y:=by
 constructor
 ·intro h;unfold kM at h;split at h
  ·simp at h
  ·split at h
   ·simp at h
   ·exact DY ‹_› ‹_›
 ·rintro rfl;exact Nn x
theorem Av{x y:Dg}:kM x y<0↔kV x y:=by
 unfold kM;split
 ·simp[*]
 ·split<;>simp[*]
theorem zu{x y:Dg}:0≤kM x y↔¬kV x y:=by
 rw[←Av];omega
theorem Qj(a:Int)(w:World):Calls prog 152 #[.int .u64 a] w fun e w'=>e=.returned (.bool false)∧w'=w:=by
 go_enter func152,ntmps152;go_wp2;go_ret;exact⟨kS gu ,rfl⟩
theorem SB(a b:UInt64)(w:World):Calls prog 127 #[.int .u64 (a.toNat:Int),.int .u64 (b.toNat:Int)] w fun e w'=>e=.returned (.int .i64 (qD a b))∧w'=w:=by
 have CN:=af Qj;have HC:Hid (qD a b=if a.toNat<b.toNat then -1 else if b.toNat<a.toNat then 1 else 0):=rfl;generalize qD a b=r at *;by_cases h1:a.toNat<b.toNat
 ·have HE:Hid (r=-1):=by show _=_;rw[HC.out,if_pos h1]
  go_enter func127,ntmps127;go_wp2_with fail;refine(CN.out _ _).mono ?_;rintro e w1 ⟨rfl,rfl⟩;go_wp2_with fail;refine(CN.out _ _).mono ?_;rintro e w1 ⟨rfl,rfl⟩;go_wp2;go_ret;exact⟨jK HE.out.symm,rfl⟩
 ·by_cases h2:b.toNat<a.toNat
  ·have HE:Hid (r=1):=by show _=_;rw[HC.out,if_neg h1,if_pos h2]
   go_enter func127,ntmps127;go_wp2_with fail;refine(CN.out _ _).mono ?_;rintro e w1 ⟨rfl,rfl⟩;go_wp2_with fail;refine(CN.out _ _).mono ?_;rintro e w1 ⟨rfl,rfl⟩;go_wp2;go_ret;exact⟨jK HE.out.symm,rfl⟩
  ·have HE:Hid (r=0):=by show _=_;rw[HC.out,if_neg h1,if_neg h2]
   go_enter func127,ntmps127;go_wp2_with fail;refine(CN.out _ _).mono ?_;rintro e w1 ⟨rfl,rfl⟩;go_wp2_with fail;refine(CN.out _ _).mono ?_;rintro e w1 ⟨rfl,rfl⟩;go_wp2;go_ret;exact⟨jK HE.out.symm,rfl⟩
def Zc(x y:Int):Int:=if x≠0 then x else y
theorem Qk(x y:Int)(g o c:Nat)(w:World)(h0:w.cell? ⟨g,o,none⟩=some (.int .i64 x))(h1:w.cell? ⟨g,o+1,none⟩=some (.int .i64 y))(hc:2≤c):
  Calls prog 126 #[.slice (some ⟨g,o,none⟩) 2 c] w fun e w'=>e=.returned (.int .i64 (Zc x y))∧w'=w:=by
 have HC:Hid (Zc x y=if x≠0 then x else y):=rfl;generalize Zc x y=r at *;go_enter func126,ntmps126;go_wp2;by_cases hx:x=0
 ·subst hx;have HE:Hid (r=y):=by show _=_;rw[HC.out,if_neg gu ]
  by_cases hy:y=0
  ·subst hy;refine wp_loop_rounds 3 ?_;rw[rounds_succ];go_wp2;rw[rounds_succ];go_wp2;rw[rounds_succ];go_wp2;go_ret;exact⟨jK HE.out.symm,rfl⟩
  ·have hyb:(y != 0)=true:=by simpa using hy
   refine wp_loop_rounds 2 ?_;rw[rounds_succ];go_wp2;rw[rounds_succ];go_wp2;go_ret;exact⟨jK HE.out.symm,rfl⟩
 ·have HE:Hid (r=x):=by show _=_;rw[HC.out,if_pos hx]
  have hxb:(x != 0)=true:=by simpa using hx
  refine wp_loop_rounds 1 ?_;rw[rounds_succ];go_wp2;go_ret;exact⟨jK HE.out.symm,rfl⟩
end Go.Proofs.YtichfhpgdhdiaaaGreat
