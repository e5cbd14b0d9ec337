/- Objects and packs -/
import Derived.Test.YtichfhpgdhdiaaaGreatJ39
import Derived.Test.YtichfhpgdhdiaaaGreatJ2
import Derived.Test.YtichfhpgdhdiaaaGreatJ3
set_option maxRecDepth 100000
set_option maxHeartbeats 8000000
set_option linter.unusedVariables false
set_option linter.unusedSimpArgs false
open Go.Proofs.Tryz
namespace Go.Proofs.YtichfhpgdhdiaaaGreat
open Go.RowKit
def aW(n m:Nat):Nat:=n/2^(64-8*m)
theorem Cs(x:UInt64):aW x.toNat 0=0:=Nat.div_eq_of_lt (by have:=x.toNat_lt;simpa using this)
theorem Ct(n:Nat):aW n 8=n:=by simp[aW]
theorem JP(b:UInt8):IntKind.u64.wrap (b.toNat:Int)=(b.toNat:Int):=by
 rw[IntKind.wrap_u64];have:=b.toNat_lt;omega
theorem bits_or_u64_nat(a b:Nat)(ha:a<18446744073709551616)(hb:b<18446744073709551616):bits .or .u64 (a:Int) (b:Int)=((a ||| b:Nat):Int):=by
 have hx:a ||| b<2^64:=Nat.or_lt_two_pow fZ fZ
 have h1:(BitVec.ofInt 64 (a:Int)).toNat=a:=by
  rw[BitVec.ofInt_natCast,BitVec.toNat_ofNat];exact Nat.mod_eq_of_lt fZ
 have h2:(BitVec.ofInt 64 (b:Int)).toNat=b:=by
  rw[BitVec.ofInt_natCast,BitVec.toNat_ofNat];exact Nat.mod_eq_of_lt fZ
 show IntKind.u64.wrap ((BitVec.ofInt 64 (a:Int) ||| BitVec.ofInt 64 (b:Int)).toNat:Int)=_;rw[BitVec.toNat_or,h1,h2,IntKind.wrap_u64];omega
theorem JQ{n m:Nat}(hn:n<18446744073709551616)(hm:m<8):bits .or .u64 (IntKind.u64.wrap ((aW n m:Int)*256)) ((UInt8.ofNat (n/2^(56-8*m))).toNat:Int)=((aW n (m+1):Nat):Int):=by
 have hp:2^(64-8*m)=2^(56-8*m)*256:=by
  rw[show 64-8*m=(56-8*m)+8 by omega,Nat.pow_add]
 have h1:aW n m=n/2^(56-8*m)/256:=by
  unfold aW;rw[hp,Nat.div_div_eq_div_mul]
 have h2:aW n (m+1)=n/2^(56-8*m):=by
  unfold aW;rw[show 64-8*(m+1)=56-8*m by omega]
 rw[h1,h2,ofNat_mod];have hk:n/2^(56-8*m)<18446744073709551616:=Nat.lt_of_le_of_lt (Nat.div_le_self _ _) hn;generalize n/2^(56-8*m)=k at *;rw[show IntKind.u64.wrap (((k/256:Nat):Int)*256)=((256*(k/256):Nat):Int) by rw[IntKind.wrap_u64];omega];rw[bits_or_u64_nat _ _ fZ fZ ];have h3:=Nat.two_pow_add_eq_or_of_lt (i:=8) (b:=k%256) fZ (k/256);rw[show 2^8=256 from rfl]at h3;rw[←h3];omega
theorem JR(l:List UInt8)(i:Nat):(fu l)[i]?=l[i]?:=by
 by_cases h:i<l.length
 ·have h':i<(fu l).size:=by rw[gL];exact h
  rw[getElem?_pos (fu l) i h',au h];rfl
 ·rw[getElem?_neg (fu l) i (by rw[gL];exact h),fE fZ ]
theorem qG(W:World)(d:Dg)(l:List UInt8):
  Calls prog 117 #[.string (fu (jb d++l))] W (DgE d W):=by
 have hsz:(fu (jb d++l)).size=16+l.length:=by rw[gL,aj,jh]
 have hex:(fu (jb d++l)).extract 16 (fu (jb d++l)).size=fu l:=y8 (jb d) l;have HG8:Hid (∀i j:Nat,i<2→j<8→(fu (jb d++l))[8*i+j]?=some (UInt8.ofNat (wd d i/2^(56-8*j)))):=fun i j hi hj=>by
  rw[JR,aY (by rw[jh];omega)];exact Ia d i j hi hj
 rw[hsz]at hex;generalize hS:fu (jb d++l)=s at *;clear hS;have hz:=(gV.new W #[.int .u64 0,.int .u64 0] 39).alloc (.cells #[.int .u64 0,.int .u64 0] 39);have hd:=gV.new (W.alloc (.cells #[.int .u64 0,.int .u64 0] 39)) #[.int .u64 0,.int .u64 0] 39;rw[aJ]at hd;have HZ:=af hz;have HD:=af hd;have o8:Hid (Below W.heap.size W ((W.alloc (.cells #[.int .u64 0,.int .u64 0] 39)).alloc (.cells #[.int .u64 0,.int .u64 0] 39))):=((ah W.heap.size W).alloc (ak _) _).alloc gu _
 clear hz hd;go_enter func117,ntmps117;go_upto_region 2 with (fail);generalize (W.alloc (.cells #[.int .u64 0,.int .u64 0] 39)).alloc (.cells #[.int .u64 0,.int .u64 0] 39)=u1 at *;go_wp2;go_loopw [5] (fun iv wr=>∃io:Nat,io≤16∧iv=.int .i64 io∧gV wr (W.heap.size+1) 39 #[.int .u64 (aW (wd d 0) (min io 8):Int),.int .u64 (aW (wd d 1) (io-8):Int)]∧u1.grownBy wr (some (W.heap.size+1))) (fun iv _=>16-(intOf iv).toNat)
 case atStart=>exact⟨0,by omega,rfl,by have h0:=Cs d.1;have h1:=Cs d.2;show gV _ _ _ #[.int .u64 (aW d.1.toNat 0:Int),.int .u64 (aW d.2.toNat 0:Int)];rw[h0,h1];exact HD.out,World.grownBy.refl _ _⟩
 case round =>
  obtain⟨io,hio,rfl,hdb,hgr⟩:=hrel;have qY:=af hdb;have RV:=af (HZ.out.grown hgr (by intro h;injection h with h;omega));have Jt:=af hgr;clear hgr hdb;by_cases hlt2:io<16
  ·obtain⟨gd,hgd⟩:∃gd,gd=W.heap.size+1:=⟨_,rfl⟩;rw[←hgd]at qY Jt ⊢;have HGD:=af hgd;clear hgd;obtain⟨q,m,hqm,RX⟩:∃q m,io=8*q+m∧m<8:=⟨io/8,io%8,by omega,by omega⟩;have YV:q<2:=by omega
   have hq1:(io:Int)/8=(q:Int):=by omega
   have hq2:(io:Int).tdiv 8=(q:Int):=by rw[fF fZ ];exact hq1
   have HQ:=af (fT hq1 hq2);have hq3:(q:Int)<2:=by omega
   have hs3:(io:Int)<(s.size:Int):=by omega
   have hs4:(io:Int)<16+(l.length:Int):=by omega
   have hlt3:(io:Int)<16:=by omega
   obtain⟨MR,MS⟩:∃MR,MR=UInt8.ofNat (wd d q/2^(56-8*m)):=⟨_,rfl⟩;have RY:io<s.size:=by omega
   have HBY:Hid (s[io]'RY=MR):=by
    show _=_;have h:=HG8.out q m YV RX;rw[←hqm,←MS,getElem?_pos s io RY]at h;exact aB h
   obtain⟨cur,hcur⟩:∃cur,cur=aW (wd d q) m:=⟨_,rfl⟩;obtain⟨MU,MV⟩:∃MU,MU=aW (wd d q) (m+1):=⟨_,rfl⟩;have PX:Hid (bits .or .u64 (IntKind.u64.wrap ((cur:Int)*256)) (MR.toNat:Int)=(MU:Int)):=by
    show _=_;rw[hcur,MV,MS];exact JQ (RZ d q) RX
   have HC:Hid ((#[Value.int .u64 (aW (wd d 0) (min io 8):Int),.int .u64 (aW (wd d 1) (io-8):Int)]:Array Value)[q]?=some (.int .u64 (cur:Int))):=by
    show _=_;rw[hcur];have:q=0∨q=1:=by omega
    rcases this with rfl|rfl
    ·rw[show min io 8=m by omega];rfl
    ·rw[show io-8=m by omega];rfl
   have HNS:Hid ((#[Value.int .u64 (aW (wd d 0) (min io 8):Int),.int .u64 (aW (wd d 1) (io-8):Int)]:Array Value).setIfInBounds q (.int .u64 (MU:Int))=#[Value.int .u64 (aW (wd d 0) (min (io+1) 8):Int),.int .u64 (aW (wd d 1) (io+1-8):Int)]):=by
    show _=_;rw[MV];have:q=0∨q=1:=by omega
    rcases this with rfl|rfl
    ·rw[show min (io+1) 8=m+1 by omega,show io+1-8=io-8 by omega];rfl
    ·rw[show io+1-8=m+1 by omega,show min (io+1) 8=min io 8 by omega];rfl
   have HQM:=af (fT hqm RX);clear hqm RX hq1 hq2 hcur MV MS;go_upto_region 5 with (fail);refine iN gB 12 (fun i v w=>match i with
    |0=>v=.int .i64 (io:Int)
    |1=>v=.int .i64 (q:Int)
    |2=>v=.int .i64 (io:Int)
    |3=>v=.int .i64 (q:Int)
    |4=>v=.pointer (some ⟨gd,q,none⟩)
    |5=>v=.int .u64 (cur:Int)
    |6=>v=.int .u64 (IntKind.u64.wrap ((cur:Int)*256))
    |7=>v=.string s
    |8=>v=.int .i64 (io:Int)
    |9=>v=.int .u8 (MR.toNat:Int)
    |10=>v=.int .u64 (MR.toNat:Int)
    |_=>v=.int .u64 (MU:Int)) 0 gB (fun i v w w' h hb=>?_) ?_ ?_
   ·exact PH
   ·rintro i o hi ho a w1 hdf hlen hold hbel gK K hK;clear hdf;have hD:=(qY.out.keep (gH _)).keep hbel;have d0:=hD.cell (j:=q) HC.out;clear hD;have s0:=kZ hold 0 (.string s);have s3:=kZ hold 3 (.pointer (some ⟨gd,0,none⟩));have s4:=kZ hold 4 (.int .i64 (io:Int));have hi':i=0∨i=1∨i=2∨i=3∨i=4∨i=5∨i=6∨i=7∨i=8∨i=9∨i=10∨i=11:=by omega
    rcases hi' with rfl|rfl|rfl|rfl|rfl|rfl|rfl|rfl|rfl|rfl|rfl|rfl<;>obtain rfl:=aB ho
    ·exact iJ s4
    ·refine qM (iq gK 0 8) ?_;have hq1:(io:Int)/8=(q:Int):=HQ.out.1;have hq2:(io:Int).tdiv 8=(q:Int):=HQ.out.2;first|exact hK _ w1 rfl gD|exact hK _ w1 (by simp only[hq1];exact congrArg (Value.int IntKind.i64) (jo fZ fZ )) gD
    ·exact iJ s4
    ·refine qM (iq gK 2 10) ?_;have hq1:(io:Int)/8=(q:Int):=HQ.out.1;have hq2:(io:Int).tdiv 8=(q:Int):=HQ.out.2;first|exact hK _ w1 rfl gD|exact hK _ w1 (by simp only[hq1];exact congrArg (Value.int IntKind.i64) (jo fZ fZ )) gD
    ·exact yM s3 (iq gK 3 11)
    ·exact iJ (iq gK 4 12)
    ·exact iJ (iq gK 5 13)
    ·exact iJ s0
    ·exact iJ s4
    ·refine sM (iq gK 7 15) (iq gK 8 16) ?_;exact hK _ w1 (congrArg (fun b:UInt8=>Value.int IntKind.u8 (b.toNat:Int)) HBY.out) gD
    ·refine qM (iq gK 9 17) ?_;exact hK _ w1 (by first|rfl|exact congrArg (Value.int IntKind.u64) (JP MR)) gD
    ·refine sM (iq gK 6 14) (iq gK 10 18) ?_;exact hK _ w1 (congrArg (Value.int IntKind.u64) PX.out) gD
   ·rintro a w1 hdf hlen hold hbel hnew;have e19:=qH hnew 11 19;simp only at e19;have e9:=qH hnew 1 9;simp only at e9;obtain⟨uq,hu,hact⟩:=kL [8,9,10,11,12,13,14,15,16,17,18,19] hdf hlen hold;simp only[hu]at e9 e19;simp only[List.foldl,e9,e19,SA]at hact;clear hdf hlen hold hnew e9 e19 hu;subst hact;have HDn:=af ((qY.out.keep (gH _)).keep hbel);have hwr:=iF ((gH wr).trans hbel);have Yc:=af (Jt.out.trans (tY hwr));clear hbel hwr;have c0:=HDn.out.cell (j:=q) HC.out;have f0:=HDn.out.frozen q;refine kF.lt 12 ?_;intro K hK;go_simp;refine hK _ _ ?_;clear hK K
    refine kF.lt 13 ?_;intro K hK;go_simp;refine hK _ _ (iP ?_);clear hK K;have hset:=HDn.out.set q (.int .u64 (MU:Int));rw[HNS.out]at hset;have HS:=af hset;have HG2:=af (Yc.out.trans (gG w1 gd q (.int .u64 (MU:Int))));clear hset c0 f0 HDn Yc qY Jt RV;go_wp2;go_roundw
    case rel=>exact⟨io+1,by omega,by go_num,HS.out,HG2.out⟩
    case measure=>simp[intOf];omega
  ·obtain rfl:io=16:=by omega
   have hz:=RV.out;have z0:=hz.cl 0;have z1:=hz.cl 1;obtain⟨g0,g1⟩:=JO hz;have Ib:=qY.out;rw[show min 16 8=8 from rfl,show 16-8=8 from rfl,Ct,Ct]at Ib;have y0:wr.cell? ⟨W.heap.size+1,0,none⟩=some (.int .u64 (d.1.toNat:Int)):=Ib.cl 0;have y1:wr.cell? ⟨W.heap.size+1,1,none⟩=some (.int .u64 (d.2.toNat:Int)):=Ib.cl 1;clear Ib;have hlt3:¬((16:Nat):Int)<16:=by omega
   have B2:=((hz.set 0 (.int .u64 (d.1.toNat:Int)))).set 1 (.int .u64 (d.2.toNat:Int));have hbw:Below W.heap.size W wr:=o8.out.grown Jt.out o8.out.size (fun q e=>by cases e;omega);have B3:Below W.heap.size W ((wr.setCell ⟨W.heap.size,0,none⟩ (.int .u64 (d.1.toNat:Int))).setCell ⟨W.heap.size,1,none⟩ (.int .u64 (d.2.toNat:Int))):=(hbw.grown (gG wr W.heap.size 0 _) hbw.size (fun q e=>by cases e;omega)).grown (gG _ W.heap.size 1 _) (by simpa using hbw.size) (fun q e=>by cases e;omega);have B2':=af B2;have B3':=af B3;clear B2 B3 hbw hz RV qY Jt;go_wp2;have B2:=B2'.out
   have B3:=B3'.out;generalize (wr.setCell ⟨W.heap.size,0,none⟩ (.int .u64 (d.1.toNat:Int))).setCell ⟨W.heap.size,1,none⟩ (.int .u64 (d.2.toNat:Int))=w9 at *;have k0:=B2.cl 0;have k1:=B2.cl 1;exact bodyPost_ret (v:=.agg #[.int .u64 (d.1.toNat:Int),.int .u64 (d.2.toNat:Int)]) (by simp[results,results117,go_sem,k0,k1]) rfl ⟨rfl,B3⟩
theorem Dw(W:World)(g:Nat)(d:Dg)(l:List UInt8)(h:gV W g 164 #[.string (fu (jb d++l)),.bool false]):
  Calls prog 84 #[.pointer (some ⟨g,0,none⟩)] W (Wm g (lS d) l W):=by
 have hlt:=h.lt;have hk1:=(h.alloc (.cells #[.int .u64 0,.int .u64 0] 39)).alloc (.cells #[.int .u64 0,.int .u64 0] 39);have hsz:(fu (jb d++l)).size=16+l.length:=by rw[gL,aj,jh]
 have hex:(fu (jb d++l)).extract 16 (fu (jb d++l)).size=fu l:=y8 (jb d) l;have HG8:Hid (∀i j:Nat,i<2→j<8→(fu (jb d++l))[8*i+j]?=some (UInt8.ofNat (wd d i/2^(56-8*j)))):=fun i j hi hj=>by
  rw[JR,aY (by rw[jh];omega)];exact Ia d i j hi hj
 rw[hsz]at hex;generalize hS:fu (jb d++l)=s at *;clear hS;have hz:=(gV.new W #[.int .u64 0,.int .u64 0] 39).alloc (.cells #[.int .u64 0,.int .u64 0] 39);have hd:=gV.new (W.alloc (.cells #[.int .u64 0,.int .u64 0] 39)) #[.int .u64 0,.int .u64 0] 39;rw[aJ]at hd;have HZ:=af hz;have HD:=af hd;have HR:=af hk1;have o8:Hid (Below W.heap.size W ((W.alloc (.cells #[.int .u64 0,.int .u64 0] 39)).alloc (.cells #[.int .u64 0,.int .u64 0] 39))):=((ah W.heap.size W).alloc (ak _) _).alloc gu _
 clear hk1 h hz hd;go_enter func84,ntmps84;go_upto_region 2 with (fail);generalize (W.alloc (.cells #[.int .u64 0,.int .u64 0] 39)).alloc (.cells #[.int .u64 0,.int .u64 0] 39)=u1 at *;have q0:=HR.out.cl 0;have h16:¬(s.size:Int)<16:=by omega
 go_wp2;clear q0 h16;go_loopw [15] (fun iv wr=>∃io:Nat,io≤16∧iv=.int .i64 io∧gV wr (W.heap.size+1) 39 #[.int .u64 (aW (wd d 0) (min io 8):Int),.int .u64 (aW (wd d 1) (io-8):Int)]∧u1.grownBy wr (some (W.heap.size+1))) (fun iv _=>16-(intOf iv).toNat)
 case atStart=>exact⟨0,by omega,rfl,by have h0:=Cs d.1;have h1:=Cs d.2;show gV _ _ _ #[.int .u64 (aW d.1.toNat 0:Int),.int .u64 (aW d.2.toNat 0:Int)];rw[h0,h1];exact HD.out,World.grownBy.refl _ _⟩
 case round =>
  obtain⟨io,hio,rfl,hdb,hgr⟩:=hrel;have qY:=af hdb;have MW:=af (HR.out.grown hgr (by intro h;injection h with h;omega));have RV:=af (HZ.out.grown hgr (by intro h;injection h with h;omega));have Jt:=af hgr;clear hgr hdb;by_cases hlt2:io<16
  ·obtain⟨gd,hgd⟩:∃gd,gd=W.heap.size+1:=⟨_,rfl⟩;rw[←hgd]at qY Jt ⊢;have HGD:=af hgd;clear hgd;obtain⟨q,m,hqm,RX⟩:∃q m,io=8*q+m∧m<8:=⟨io/8,io%8,by omega,by omega⟩;have YV:q<2:=by omega
   have hq1:(io:Int)/8=(q:Int):=by omega
   have hq2:(io:Int).tdiv 8=(q:Int):=by rw[fF fZ ];exact hq1
   have HQ:=af (fT hq1 hq2);have hq3:(q:Int)<2:=by omega
   have hs3:(io:Int)<(s.size:Int):=by omega
   have hs4:(io:Int)<16+(l.length:Int):=by omega
   have hlt3:(io:Int)<16:=by omega
   obtain⟨MR,MS⟩:∃MR,MR=UInt8.ofNat (wd d q/2^(56-8*m)):=⟨_,rfl⟩;have RY:io<s.size:=by omega
   have HBY:Hid (s[io]'RY=MR):=by
    show _=_;have h:=HG8.out q m YV RX;rw[←hqm,←MS,getElem?_pos s io RY]at h;exact aB h
   obtain⟨cur,hcur⟩:∃cur,cur=aW (wd d q) m:=⟨_,rfl⟩;obtain⟨MU,MV⟩:∃MU,MU=aW (wd d q) (m+1):=⟨_,rfl⟩;have PX:Hid (bits .or .u64 (IntKind.u64.wrap ((cur:Int)*256)) (MR.toNat:Int)=(MU:Int)):=by
    show _=_;rw[hcur,MV,MS];exact JQ (RZ d q) RX
   have HC:Hid ((#[Value.int .u64 (aW (wd d 0) (min io 8):Int),.int .u64 (aW (wd d 1) (io-8):Int)]:Array Value)[q]?=some (.int .u64 (cur:Int))):=by
    show _=_;rw[hcur];have:q=0∨q=1:=by omega
    rcases this with rfl|rfl
    ·rw[show min io 8=m by omega];rfl
    ·rw[show io-8=m by omega];rfl
   have HNS:Hid ((#[Value.int .u64 (aW (wd d 0) (min io 8):Int),.int .u64 (aW (wd d 1) (io-8):Int)]:Array Value).setIfInBounds q (.int .u64 (MU:Int))=#[Value.int .u64 (aW (wd d 0) (min (io+1) 8):Int),.int .u64 (aW (wd d 1) (io+1-8):Int)]):=by
    show _=_;rw[MV];have:q=0∨q=1:=by omega
    rcases this with rfl|rfl
    ·rw[show min (io+1) 8=m+1 by omega,show io+1-8=io-8 by omega];rfl
    ·rw[show io+1-8=m+1 by omega,show min (io+1) 8=min io 8 by omega];rfl
   have HQM:=af (fT hqm RX);clear hqm RX hq1 hq2 hcur MV MS;go_upto_region 8 with (fail);refine iN gB 15 (fun i v w=>match i with
    |0=>v=.int .i64 (io:Int)
    |1=>v=.int .i64 (q:Int)
    |2=>v=.int .i64 (io:Int)
    |3=>v=.int .i64 (q:Int)
    |4=>v=.pointer (some ⟨gd,q,none⟩)
    |5=>v=.int .u64 (cur:Int)
    |6=>v=.int .u64 (IntKind.u64.wrap ((cur:Int)*256))
    |7=>v=.pointer (some ⟨g,0,none⟩)
    |8=>v=.pointer (some ⟨g,0,none⟩)
    |9=>v=.pointer (some ⟨g,0,none⟩)
    |10=>v=.string s
    |11=>v=.int .i64 (io:Int)
    |12=>v=.int .u8 (MR.toNat:Int)
    |13=>v=.int .u64 (MR.toNat:Int)
    |_=>v=.int .u64 (MU:Int)) 0 gB (fun i v w w' h hb=>?_) ?_ ?_
   ·exact PH
   ·rintro i o hi ho a w1 hdf hlen hold hbel gK K hK;clear hdf;have hR:=(MW.out.keep (gH _)).keep hbel;have q0:=hR.cl 0;clear hR;have hD:=(qY.out.keep (gH _)).keep hbel;have d0:=hD.cell (j:=q) HC.out;clear hD;have s0:=kZ hold 0 (.pointer (some ⟨g,0,none⟩));have s3:=kZ hold 3 (.pointer (some ⟨gd,0,none⟩));have s4:=kZ hold 4 (.int .i64 (io:Int));have hi':i=0∨i=1∨i=2∨i=3∨i=4∨i=5∨i=6∨i=7∨i=8∨i=9∨i=10∨i=11∨i=12∨i=13∨i=14:=by omega
    rcases hi' with rfl|rfl|rfl|rfl|rfl|rfl|rfl|rfl|rfl|rfl|rfl|rfl|rfl|rfl|rfl<;>obtain rfl:=aB ho
    ·exact iJ s4
    ·refine qM (iq gK 0 18) ?_;have hq1:(io:Int)/8=(q:Int):=HQ.out.1;have hq2:(io:Int).tdiv 8=(q:Int):=HQ.out.2;first|exact hK _ w1 rfl gD|exact hK _ w1 (by simp only[hq1];exact congrArg (Value.int IntKind.i64) (jo fZ fZ )) gD
    ·exact iJ s4
    ·refine qM (iq gK 2 20) ?_;have hq1:(io:Int)/8=(q:Int):=HQ.out.1;have hq2:(io:Int).tdiv 8=(q:Int):=HQ.out.2;first|exact hK _ w1 rfl gD|exact hK _ w1 (by simp only[hq1];exact congrArg (Value.int IntKind.i64) (jo fZ fZ )) gD
    ·exact yM s3 (iq gK 3 21)
    ·exact iJ (iq gK 4 22)
    ·exact iJ (iq gK 5 23)
    ·exact iJ s0
    ·exact iJ (iq gK 7 25)
    ·exact iJ (iq gK 8 26)
    ·exact iJ (iq gK 9 27)
    ·exact iJ s4
    ·refine sM (iq gK 10 28) (iq gK 11 29) ?_;exact hK _ w1 (congrArg (fun b:UInt8=>Value.int IntKind.u8 (b.toNat:Int)) HBY.out) gD
    ·refine qM (iq gK 12 30) ?_;exact hK _ w1 (by first|rfl|exact congrArg (Value.int IntKind.u64) (JP MR)) gD
    ·refine sM (iq gK 6 24) (iq gK 13 31) ?_;exact hK _ w1 (congrArg (Value.int IntKind.u64) PX.out) gD
   ·rintro a w1 hdf hlen hold hbel hnew;have e32:=qH hnew 14 32;simp only at e32;have e19:=qH hnew 1 19;simp only at e19;obtain⟨uq,hu,hact⟩:=kL [18,19,20,21,22,23,24,25,26,27,28,29,30,31,32] hdf hlen hold;simp only[hu]at e19 e32;simp only[List.foldl,e19,e32,SA]at hact;clear hdf hlen hold hnew e19 e32 hu;subst hact;have HDn:=af ((qY.out.keep (gH _)).keep hbel);have hwr:=iF ((gH wr).trans hbel);have Yc:=af (Jt.out.trans (tY hwr));clear hbel hwr;have c0:=HDn.out.cell (j:=q) HC.out;have f0:=HDn.out.frozen q;refine kF.lt 15 ?_;intro K hK;go_simp;refine hK _ _ ?_
    clear hK K;refine kF.lt 16 ?_;intro K hK;go_simp;refine hK _ _ (iP ?_);clear hK K;have hset:=HDn.out.set q (.int .u64 (MU:Int));rw[HNS.out]at hset;have HS:=af hset;have HG2:=af (Yc.out.trans (gG w1 gd q (.int .u64 (MU:Int))));clear hset c0 f0 HDn Yc qY Jt MW RV;go_wp2;go_roundw
    case rel=>exact⟨io+1,by omega,by go_num,HS.out,HG2.out⟩
    case measure=>simp[intOf];omega
  ·obtain rfl:io=16:=by omega
   have hz:=RV.out;have q0:=MW.out.cl 0;have q1:=MW.out.cl 1;have f0:=MW.out.frozen 0;have z0:=hz.cl 0;have z1:=hz.cl 1;obtain⟨g0,g1⟩:=JO hz;have Ib:=qY.out;rw[show min 16 8=8 from rfl,show 16-8=8 from rfl,Ct,Ct]at Ib;have y0:wr.cell? ⟨W.heap.size+1,0,none⟩=some (.int .u64 (d.1.toNat:Int)):=Ib.cl 0;have y1:wr.cell? ⟨W.heap.size+1,1,none⟩=some (.int .u64 (d.2.toNat:Int)):=Ib.cl 1;clear Ib;have hlt3:¬((16:Nat):Int)<16:=by omega
   have aeS:(16:Int)≤(s.size:Int):=by omega
   have B1:=((MW.out.set 0 (.string (fu l))).far (p:=⟨W.heap.size,0,none⟩) (by show g≠W.heap.size;omega) (.int .u64 (d.1.toNat:Int))).far (p:=⟨W.heap.size,1,none⟩) (by show g≠W.heap.size;omega) (.int .u64 (d.2.toNat:Int));have B2:=(((hz.far (p:=⟨g,0,none⟩) (by show W.heap.size≠g;omega) (.string (fu l))).set 0 (.int .u64 (d.1.toNat:Int)))).set 1 (.int .u64 (d.2.toNat:Int));have R5:W.grownBy wr (some g):=by
    have h1:=iF o8.out;have h2:=Jt.out;exact⟨h2.os.trans h1.os,h2.tape.trans h1.tape,h2.output.trans h1.output,aS h1.size h2.size,fun k hk hne=>(h2.block k (bM hk h1.size) (by intro h;injection h with h;omega)).trans (h1.block k hk gu )⟩
   have B3:=iO (iO (R5.trans (gG _ g 0 (.string (fu l)))) (ak _) 0 (.int .u64 (d.1.toNat:Int))) (ak _) 1 (.int .u64 (d.2.toNat:Int));have B1':=af B1;have B2':=af B2;have B3':=af B3;clear B1 B2 B3 hz R5 MW RV qY Jt;go_wp2;have B1:=B1'.out;have B2:=B2'.out;have B3:=B3'.out;generalize ((wr.setCell ⟨g,0,none⟩ (.string (fu l))).setCell ⟨W.heap.size,0,none⟩ (.int .u64 (d.1.toNat:Int))).setCell ⟨W.heap.size,1,none⟩ (.int .u64 (d.2.toNat:Int))=w9 at *;have k0:=B2.cl 0;have k1:=B2.cl 1;exact bodyPost_ret (v:=.agg #[.int .u64 (d.1.toNat:Int),.int .u64 (d.2.toNat:Int)]) (by simp[results,results84,go_sem,k0,k1]) rfl ⟨rfl,B1,B3⟩
end Go.Proofs.YtichfhpgdhdiaaaGreat
namespace Go.Proofs.YtichfhpgdhdiaaaGreat
open Go.RowKit
theorem rV{w w':World}{r:Option Nat}(h:w.grownBy w' r)(o:Obj):w.grownBy (w'.alloc o) r :=
 ⟨h.os,h.tape,h.output,by simp;exact Nat.le_succ_of_le h.size,fun k hk hne=>(dK w' o k (bM hk h.size)).trans (h.block k hk hne)⟩
theorem MX(W:World)(g:Nat)(nm:List UInt8)(dir:Bool)(dg:Dg)(l:List UInt8)(hn:nm.length≤65536)(hl:l.length≤900000)(h:gV W g 164 #[.string (fu (qI ⟨nm,dir,dg⟩++l)),.bool false]):
  Calls prog 83 #[.pointer (some ⟨g,0,none⟩)] W (Wm g (.agg #[.string (fu nm),.bool dir,.int .u64 (dg.1.toNat:Int),.int .u64 (dg.2.toNat:Int)]) l W):=by
 have hgl:=h.lt;rw[Dx,aA,aA]at h;obtain⟨dn,hdn⟩:∃dn:Nat,dn=if dir then 1 else 0:=⟨_,rfl⟩;have hdl:(if dir then gJ 1 else gJ 0)=gJ dn:=by rw[hdn];cases dir<;>rfl
 have hd2:gJ (if dir then 1 else 0)=gJ dn:=by rw[hdn]
 rw[hd2]at h;have hd1:dn≤1:=by rw[hdn];cases dir<;>simp
 have hdb:((dn:Int)==1)=dir:=by rw[hdn];cases dir<;>rfl
 have aeU:¬(1:Int)<(dn:Int):=by omega
 have hdc:decide ((1:Int)<(dn:Int))=false:=decide_eq_false aeU;clear hdl hd2 hdn;have HA:=af (h.alloc (.cells #[.string ⟨#[]⟩,.bool false,.int .u64 0,.int .u64 0] 155));have HZ:=af (gV.new W #[.string ⟨#[]⟩,.bool false,.int .u64 0,.int .u64 0] 155);have hG0:=af (rV (World.grownBy.refl W (some g)) (.cells #[.string ⟨#[]⟩,.bool false,.int .u64 0,.int .u64 0] 155));have hdl0:=ja dn 5 fZ ;clear h;go_enter func83,ntmps83;go_upto_region 1 with (fail)
 generalize W.alloc (.cells #[.string ⟨#[]⟩,.bool false,.int .u64 0,.int .u64 0] 155)=w1 at *;go_wp2_with fail;refine(uW w1 g nm (gJ dn++(jb dg++l)) hn (by simp only[aj,jh];omega) HA.out).mono ?_;rintro e w2 ⟨rfl,hB,hG⟩;have hZ:=HZ.out.grown hG (by intro e;injection e with e;omega);have HB2:=af (hB.alloc (.cells #[.string (fu nm),.bool false,.int .u64 0,.int .u64 0] 155));have mZ:=af (gV.new w2 #[.string (fu nm),.bool false,.int .u64 0,.int .u64 0] 155);have HZ2:=af (hZ.alloc (.cells #[.string (fu nm),.bool false,.int .u64 0,.int .u64 0] 155))
 have HG2:=af (rV (hG0.out.trans hG) (.cells #[.string (fu nm),.bool false,.int .u64 0,.int .u64 0] 155));have hgs:W.heap.size<w2.heap.size:=by have:=hZ.lt;omega
 clear hB hG hZ hG0 HA HZ;go_upto_region 2 with (fail);generalize w2.alloc (.cells #[.string (fu nm),.bool false,.int .u64 0,.int .u64 0] 155)=w3 at *;obtain⟨xb,hxb⟩:∃xb,xb=w2.heap.size:=⟨_,rfl⟩;rw[←hxb]at mZ hgs ⊢;clear hxb;go_wp2_with fail;refine(pX w3 g dn (jb dg++l) fZ HB2.out).mono ?_;rintro e w4 ⟨rfl,hB,hG⟩;have hX:=mZ.out.grown hG (by intro e;injection e with e;omega);have hZ:=HZ2.out.grown hG (by intro e;injection e with e;omega);have q1:=hB.cl 1;have f1:=hB.frozen 1;have hB3:=(hB.set 1 (.bool false)).far (p:=⟨xb,1,none⟩) (by show g≠xb;omega) (.bool dir)
 have hX3:=((hX.far (p:=⟨g,1,none⟩) (by show xb≠g;omega) (.bool false))).set 1 (.bool dir);have hZ3:=(hZ.far (p:=⟨g,1,none⟩) (by show W.heap.size≠g;omega) (.bool false)).far (p:=⟨xb,1,none⟩) (by show W.heap.size≠xb;omega) (.bool dir);have x1:=(hX.far (p:=⟨g,1,none⟩) (by show xb≠g;omega) (.bool false)).cl 1;have y1:=(hX.far (p:=⟨g,1,none⟩) (by show xb≠g;omega) (.bool false)).frozen 1;have HG3:=af (iO ((HG2.out.trans hG).trans (gG w4 g 1 (.bool false))) (by omega:W.heap.size≤xb) 1 (.bool dir));have HB3:=af hB3;have Cu:=af hX3;have HZ3:=af hZ3;clear hB hG hX hZ hB3 hX3 hZ3 HB2 mZ HZ2 HG2
 go_upto_region 5 with (fail);clear q1 f1 x1 y1;generalize (w4.setCell ⟨g,1,none⟩ (.bool false)).setCell ⟨xb,1,none⟩ (.bool dir)=w5 at *;go_wp2_with fail;have CD:=Dw w5 g dg l HB3.out;unfold lS at CD;refine CD.mono ?_;clear CD;rintro e w6 ⟨rfl,hB,hG⟩;have hX:=Cu.out.grown hG (by intro e;injection e with e;omega);have hZ:=HZ3.out.grown hG (by intro e;injection e with e;omega);have x0:=hX.cl 0;have x1:=hX.cl 1;have x2:=hX.cl 2;have x3:=hX.cl 3;have y2:=hX.frozen 2;have y3:=hX.frozen 3;have z0:=hZ.cl 0;have z1:=hZ.cl 1;have z2:=hZ.cl 2;have z3:=hZ.cl 3;obtain⟨g0,g1,g2,g3⟩:=fz4 hZ
 have hB4:=(((((hB.far (p:=⟨xb,2,none⟩) (by show g≠xb;omega) (.int .u64 (dg.1.toNat:Int))).far (p:=⟨xb,3,none⟩) (by show g≠xb;omega) (.int .u64 (dg.2.toNat:Int))).far (p:=⟨W.heap.size,0,none⟩) (by show g≠W.heap.size;omega) (.string (fu nm))).far (p:=⟨W.heap.size,1,none⟩) (by show g≠W.heap.size;omega) (.bool dir)).far (p:=⟨W.heap.size,2,none⟩) (by show g≠W.heap.size;omega) (.int .u64 (dg.1.toNat:Int))).far (p:=⟨W.heap.size,3,none⟩) (by show g≠W.heap.size;omega) (.int .u64 (dg.2.toNat:Int));have hZ4:=(((((hZ.far (p:=⟨xb,2,none⟩) (by show W.heap.size≠xb;omega) (.int .u64 (dg.1.toNat:Int))).far (p:=⟨xb,3,none⟩) (by show W.heap.size≠xb;omega) (.int .u64 (dg.2.toNat:Int))).set 0 (.string (fu nm))).set 1 (.bool dir)).set 2 (.int .u64 (dg.1.toNat:Int))).set 3 (.int .u64 (dg.2.toNat:Int))
 have hG4:=iO (iO (iO (iO (iO (iO (HG3.out.trans hG) (by omega:W.heap.size≤xb) 2 (.int .u64 (dg.1.toNat:Int))) (by omega:W.heap.size≤xb) 3 (.int .u64 (dg.2.toNat:Int))) (ak _) 0 (.string (fu nm))) (ak _) 1 (.bool dir)) (ak _) 2 (.int .u64 (dg.1.toNat:Int))) (ak _) 3 (.int .u64 (dg.2.toNat:Int));have kY:=af hB4;have YW:=af hZ4;have HG4:=af hG4;clear hB hG hX hZ hB4 hZ4 hG4 HB3 Cu HZ3 HG3;go_wp2;clear x0 x1 x2 x3 y2 y3 z0 z1 z2 z3 g0 g1 g2 g3;have k0:=YW.out.cl 0;have k1:=YW.out.cl 1;have k2:=YW.out.cl 2;have k3:=YW.out.cl 3;generalize (((((w6.setCell ⟨xb,2,none⟩ (.int .u64 (dg.1.toNat:Int))).setCell ⟨xb,3,none⟩ (.int .u64 (dg.2.toNat:Int))).setCell ⟨W.heap.size,0,none⟩ (.string (fu nm))).setCell ⟨W.heap.size,1,none⟩ (.bool dir)).setCell ⟨W.heap.size,2,none⟩ (.int .u64 (dg.1.toNat:Int))).setCell ⟨W.heap.size,3,none⟩ (.int .u64 (dg.2.toNat:Int))=w9 at *
 exact bodyPost_ret (v:=.agg #[.string (fu nm),.bool dir,.int .u64 (dg.1.toNat:Int),.int .u64 (dg.2.toNat:Int)]) (by simp[results,results83,go_sem,k0,k1,k2,k3]) rfl ⟨rfl,kY.out,HG4.out⟩
end Go.Proofs.YtichfhpgdhdiaaaGreat
namespace Go.Proofs.YtichfhpgdhdiaaaGreat
open Go.RowKit
theorem MZ(w:World)(g:Nat)(m:Nat)(xs:List En)(l:List UInt8)(hm:xs.length≤m)(hm2:m≤1000)(hn:∀x∈xs,x.name.length≤65536)(hl:(xs.flatMap qI).length+l.length≤900000)(h:gV w g 164 #[.string (fu (gJ xs.length++(xs.flatMap qI++l))),.bool false]):
  Calls prog 82 #[.pointer (some ⟨g,0,none⟩),.int .i64 (m:Int),.func (.func 83) #[.pointer (some ⟨g,0,none⟩)] #[]] w (fun e w'=>∃A c,Wm g (.slice A xs.length c) l w e w'∧w'.ownsRow w.heap.size 155 4 (.slice A xs.length c) xs.length (xs.flatMap Ic)):=by
 obtain⟨i1,hi1,hy0,hy1,hy2⟩:=info_parts Tryz.OG;have hgl:=h.lt;have HB0:=af h;clear h;have hmn:¬(m:Int)<(xs.length:Int):=by omega
 have hmd:decide ((m:Int)<(xs.length:Int))=false:=decide_eq_false hmn;have YX:decide (m<xs.length)=false:=decide_eq_false fZ ;go_enter func82,ntmps82;go_wp2_with fail;refine(pX w g xs.length _ fZ HB0.out).mono ?_;rintro e w1 ⟨rfl,hB,hG⟩;have q1:=hB.cl 1;have f1:=hB.frozen 1;have HB1:=af (hB.set 1 (.bool false));have HG1:=af (hG.trans (gG w1 g 1 (.bool false)));clear hB hG HB0;go_upto_region 4 with (fail);clear q1 f1;generalize w1.setCell ⟨g,1,none⟩ (.bool false)=w2 at *
 go_wp2;clear hmd hmn YX;go_loopw [8,9] (fun lv iv wr=>∃(k:Nat) (A:Option Addr) (c:Nat),k≤xs.length∧iv=.int .i64 k∧lv=.slice A k c∧Hid (gV wr g 164 #[.string (fu ((xs.drop k).flatMap qI++l)),.bool false])∧Hid (w.grownBy wr (some g))∧Hid (wr.ownsRow w.heap.size 155 4 (.slice A k c) k ((xs.take k).flatMap Ic))) (fun _ iv _=>xs.length-(intOf iv).toNat)
 case atStart=>exact⟨0,none,0,by omega,rfl,rfl,HB1.out,HG1.out,World.ownsRow_nil _ _ _ _⟩
 case round =>
  clear HB1 HG1;obtain⟨k,A,c,hk,rfl,rfl,HB,HG,HR⟩:=hrel;have q1:=HB.out.cl 1;by_cases hlt:k<xs.length
  ·have hlt':(k:Int)<(xs.length:Int):=by omega
   obtain⟨x,hx⟩:∃x,xs[k]?=some x:=⟨_,au hlt⟩;have hdrop:xs.drop k=x::xs.drop (k+1):=by
    obtain⟨hh,rfl⟩:=ay.1 hx;exact aR hh
   have hbl:((xs.drop (k+1)).flatMap qI++l).length≤900000:=by
    have h1:(xs.take (k+1)).flatMap qI++(xs.drop (k+1)).flatMap qI=xs.flatMap qI:=by rw[←aZ,bQ]
    rw[←h1,aj]at hl;rw[aj];omega
   have oU:Hid (gV wr g 164 #[.string (fu (qI x++((xs.drop (k+1)).flatMap qI++l))),.bool false]):=by
    have:=HB.out;rw[hdrop,aG,aA]at this;exact this
   obtain⟨nm,dir,dg⟩:=x;have CX:=af (MX wr g nm dir dg _ (by have:=hn _ (aV hx);simpa using this) hbl oU.out);have HX:=af hx;clear hdrop hbl hx oU HB;go_wp2_with fail;refine CX.out.mono ?_;rintro e w3 ⟨rfl,hB,hG⟩;have hgs:=HG.out.size;have hR:=HR.out.kept hG (.inr (fun e=>by have:=(HR.out.lt _ e).1;omega));have hal:=(ah w3.heap.size w3).alloc (ak _) (.cells #[.string (fu nm),.bool dir,.int .u64 (dg.1.toNat:Int),.int .u64 (dg.2.toNat:Int)] 155);have HBa:=af (hB.keep hal);have HGa:=af (rV (HG.out.trans hG) (.cells #[.string (fu nm),.bool dir,.int .u64 (dg.1.toNat:Int),.int .u64 (dg.2.toNat:Int)] 155))
   have YZ:=af (hR.kept (iF hal) (by cases Value.ownBlock (.slice A k c)<;>simp));have aeW:=hG.size;have abd:=hal.size;clear hB hG hR hal HR HG CX q1;go_wp2_with (at_builtin;go_must (refine iE _ rfl _ _ 42 rfl w.heap.size 155 i1 _ 4 40 underlying42 hi1 hy0 hy1 hy2 rfl fZ (.slice A k c) k _ rfl YZ.out _ 1 1 [.string (fu nm),.bool dir,.int .u64 (dg.1.toNat:Int),.int .u64 (dg.2.toNat:Int)] rfl rfl (gY _ _ _ _) (by simp[Value.oneCell']) fZ fZ fZ ?_;intro v4 w4 iU jl _;obtain⟨A4,c4,rfl⟩:=iw iU))
   have hne:∀q,Value.ownBlock (.slice A k c)=some q→w.heap.size≤q:=fun q e=>(YZ.out.lt q e).1
   have kY:=af (HBa.out.grown jl (fun e=>by have:=hne g e.symm;omega));have HG4:Hid (w.grownBy w4 (some g)):=by
    have h1:=HGa.out;exact⟨jl.os.trans h1.os,jl.tape.trans h1.tape,jl.output.trans h1.output,aS h1.size jl.size,fun j hj hjn=>(jl.block j (bM hj h1.size) (fun e=>by have:=hne j e.symm;omega)).trans (h1.block j hj hjn)⟩
   have HR4:Hid (w4.ownsRow w.heap.size 155 4 (.slice A4 (k+1) c4) (k+1) ((xs.take (k+1)).flatMap Ic)):=by
    rw[←nX HX.out];exact iU
   clear iU jl HBa HGa YZ;go_roundw
   case rel=>exact⟨k+1,A4,c4,by omega,by go_num,rfl,kY.out,HG4.out,HR4.out⟩
   case measure=>simp[intOf];omega
  ·obtain rfl:k=xs.length:=by omega
   have hlt':¬(xs.length:Int)<(xs.length:Int):=by omega
   have HBn:Hid (gV wr g 164 #[.string (fu l),.bool false]):=by
    have:=HB.out;rw[List.drop_length,dQ,aO]at this;exact this
   have HRn:Hid (wr.ownsRow w.heap.size 155 4 (.slice A xs.length c) xs.length (xs.flatMap Ic)):=by
    have:=HR.out;rw[bG]at this;exact this
   clear HB HR;go_wp2;go_ret;exact⟨A,c,⟨rfl,HBn.out,HG.out⟩,HRn.out⟩
theorem M0(w:World)(g:Nat)(m:Nat)(xs:List Dg)(l:List UInt8)(hm:xs.length≤m)(hm2:m≤1000)(hl:(xs.flatMap jb).length+l.length≤900000)(h:gV w g 164 #[.string (fu (gJ xs.length++(xs.flatMap jb++l))),.bool false]):
  Calls prog 85 #[.pointer (some ⟨g,0,none⟩),.int .i64 (m:Int),.func (.func 84) #[.pointer (some ⟨g,0,none⟩)] #[]] w (fun e w'=>∃A c,Wm g (.slice A xs.length c) l w e w'∧w'.ownsRow w.heap.size 39 2 (.slice A xs.length c) xs.length (xs.flatMap rq)):=by
 obtain⟨i1,hi1,hy0,hy1,hy2⟩:=info_parts Tryz.Cv;have hgl:=h.lt;have HB0:=af h;clear h;have hmn:¬(m:Int)<(xs.length:Int):=by omega
 have hmd:decide ((m:Int)<(xs.length:Int))=false:=decide_eq_false hmn;have YX:decide (m<xs.length)=false:=decide_eq_false fZ ;go_enter func85,ntmps85;go_wp2_with fail;refine(pX w g xs.length _ fZ HB0.out).mono ?_;rintro e w1 ⟨rfl,hB,hG⟩;have q1:=hB.cl 1;have f1:=hB.frozen 1;have HB1:=af (hB.set 1 (.bool false));have HG1:=af (hG.trans (gG w1 g 1 (.bool false)));clear hB hG HB0;go_upto_region 4 with (fail);clear q1 f1;generalize w1.setCell ⟨g,1,none⟩ (.bool false)=w2 at *
 go_wp2;clear hmd hmn YX;go_loopw [8,9] (fun lv iv wr=>∃(k:Nat) (A:Option Addr) (c:Nat),k≤xs.length∧iv=.int .i64 k∧lv=.slice A k c∧Hid (gV wr g 164 #[.string (fu ((xs.drop k).flatMap jb++l)),.bool false])∧Hid (w.grownBy wr (some g))∧Hid (wr.ownsRow w.heap.size 39 2 (.slice A k c) k ((xs.take k).flatMap rq))) (fun _ iv _=>xs.length-(intOf iv).toNat)
 case atStart=>exact⟨0,none,0,by omega,rfl,rfl,HB1.out,HG1.out,World.ownsRow_nil _ _ _ _⟩
 case round =>
  clear HB1 HG1;obtain⟨k,A,c,hk,rfl,rfl,HB,HG,HR⟩:=hrel;have q1:=HB.out.cl 1;by_cases hlt:k<xs.length
  ·have hlt':(k:Int)<(xs.length:Int):=by omega
   obtain⟨x,hx⟩:∃x,xs[k]?=some x:=⟨_,au hlt⟩;have hdrop:xs.drop k=x::xs.drop (k+1):=by
    obtain⟨hh,rfl⟩:=ay.1 hx;exact aR hh
   have hbl:((xs.drop (k+1)).flatMap jb++l).length≤900000:=by
    have h1:(xs.take (k+1)).flatMap jb++(xs.drop (k+1)).flatMap jb=xs.flatMap jb:=by rw[←aZ,bQ]
    rw[←h1,aj]at hl;rw[aj];omega
   have oU:Hid (gV wr g 164 #[.string (fu (jb x++((xs.drop (k+1)).flatMap jb++l))),.bool false]):=by
    have:=HB.out;rw[hdrop,aG,aA]at this;exact this
   have CX:=Dw wr g x _ oU.out;unfold lS at CX;have CX:=af CX;have HX:=af hx;clear hdrop hbl hx oU HB;go_wp2_with fail;refine CX.out.mono ?_;rintro e w3 ⟨rfl,hB,hG⟩;have hgs:=HG.out.size;have hR:=HR.out.kept hG (.inr (fun e=>by have:=(HR.out.lt _ e).1;omega));have hal:=(ah w3.heap.size w3).alloc (ak _) (.cells #[.int .u64 (x.1.toNat:Int),.int .u64 (x.2.toNat:Int)] 39);have HBa:=af (hB.keep hal);have HGa:=af (rV (HG.out.trans hG) (.cells #[.int .u64 (x.1.toNat:Int),.int .u64 (x.2.toNat:Int)] 39));have YZ:=af (hR.kept (iF hal) (by cases Value.ownBlock (.slice A k c)<;>simp))
   have aeW:=hG.size;have abd:=hal.size;clear hB hG hR hal HR HG CX q1;go_wp2_with (at_builtin;go_must (refine iE _ rfl _ _ 27 rfl w.heap.size 39 i1 _ 2 16 underlying27 hi1 hy0 hy1 hy2 rfl fZ (.slice A k c) k _ rfl YZ.out _ 1 1 [.int .u64 (x.1.toNat:Int),.int .u64 (x.2.toNat:Int)] rfl rfl (gY _ _ _ _) (by simp[Value.oneCell']) fZ fZ fZ ?_;intro v4 w4 iU jl _;obtain⟨A4,c4,rfl⟩:=iw iU));have hne:∀q,Value.ownBlock (.slice A k c)=some q→w.heap.size≤q:=fun q e=>(YZ.out.lt q e).1
   have kY:=af (HBa.out.grown jl (fun e=>by have:=hne g e.symm;omega));have HG4:Hid (w.grownBy w4 (some g)):=by
    have h1:=HGa.out;exact⟨jl.os.trans h1.os,jl.tape.trans h1.tape,jl.output.trans h1.output,aS h1.size jl.size,fun j hj hjn=>(jl.block j (bM hj h1.size) (fun e=>by have:=hne j e.symm;omega)).trans (h1.block j hj hjn)⟩
   have HR4:Hid (w4.ownsRow w.heap.size 39 2 (.slice A4 (k+1) c4) (k+1) ((xs.take (k+1)).flatMap rq)):=by
    rw[←nX HX.out];exact iU
   clear iU jl HBa HGa YZ;go_roundw
   case rel=>exact⟨k+1,A4,c4,by omega,by go_num,rfl,kY.out,HG4.out,HR4.out⟩
   case measure=>simp[intOf];omega
  ·obtain rfl:k=xs.length:=by omega
   have hlt':¬(xs.length:Int)<(xs.length:Int):=by omega
   have HBn:Hid (gV wr g 164 #[.string (fu l),.bool false]):=by
    have:=HB.out;rw[List.drop_length,dQ,aO]at this;exact this
   have HRn:Hid (wr.ownsRow w.heap.size 39 2 (.slice A xs.length c) xs.length (xs.flatMap rq)):=by
    have:=HR.out;rw[bG]at this;exact this
   clear HB HR;go_wp2;go_ret;exact⟨A,c,⟨rfl,HBn.out,HG.out⟩,HRn.out⟩
end Go.Proofs.YtichfhpgdhdiaaaGreat
