/- Plain -/
import Derived.Test.YtichfhpgdhdiaaaGreatJ31
import Derived.Test.YtichfhpgdhdiaaaGreatJ3
import Derived.Test.YtichfhpgdhdiaaaGreatJ26
set_option maxRecDepth 100000
set_option maxHeartbeats 8000000
set_option linter.unusedVariables false
set_option linter.unusedSimpArgs false
open Go.Proofs.Tryz
namespace Go.Proofs.YtichfhpgdhdiaaaGreat
def Ab(a:List UInt8)(x:jq):List UInt8:=if 0<x.len then(a.drop x.off.toNat).take x.len.toNat else x.data
def oh(a:List UInt8)(xs:List jq):List UInt8:=xs.flatMap (Ab a)
def xR(a:List UInt8)(xs:List jq):List UInt8×Int:=if jA xs a.length=0 then(oh a xs,0)else([],jA xs a.length)
def Val(n:Int)(x:jq):Prop:=(x.cp∨x.ins)∧(x.cp→0≤x.off∧x.off+x.len≤n)
def mH(n:Int)(xs:List jq):Prop:=∀x∈xs,Val n x
theorem mH.nil(n:Int):mH n []:=fun x hx=>by simp at hx
theorem mH.cons{n:Int}{x:jq}{xs:List jq}(h:Val n x)(k:mH n xs):mH n (x::xs):=fun y hy=>by
 rcases bC.1 hy with rfl|hy
 ·exact h
 ·exact k y hy
theorem mH.append{n:Int}{xs ys:List jq}(h:mH n xs)(k:mH n ys):mH n (xs++ys):=fun y hy=>by
 rcases bq.1 hy with hy|hy
 ·exact h y hy
 ·exact k y hy
theorem Val.Rw{n:Int}{x:jq}(h:Val n x):0≤x.len:=by
 rcases h.1 with h|h
 ·have:=h.1;omega
 ·rw[h.1];exact Int.le_refl _
theorem nR(a:List UInt8)(xs ys:List jq):oh a (xs++ys)=oh a xs++oh a ys:=aZ
theorem qQ(a:List UInt8)(x:jq):oh a [x]=Ab a x:=by simp[oh]
theorem vT(a:List UInt8)(x:jq)(xs:List jq):oh a (x::xs)=Ab a x++oh a xs:=aG
theorem Rx(a:List UInt8)(x:jq)(h:Val a.length x):((Ab a x).length:Int)=rR x:=by
 unfold Ab rR;split
 ·rename_i hl
  have hc:x.cp:=h.1.resolve_right fun hi=>by have:=hi.1;omega
  have:=h.2 hc;rw[aH,aC];omega
 ·rfl
theorem Dp(a:List UInt8):∀(xs:List jq),mH a.length xs→((oh a xs).length:Int)=kW xs
 |[],_=>rfl
 |x::xs,h=>by
  rw[vT,aj,Int.natCast_add,Rx a x (h x gu ),Dp a xs fun y hy=>h y (by simp[hy])];rfl
theorem Fq{a:List UInt8}{xs:List jq}{k:Nat}{x:jq}(hx:xs[k]?=some x):oh a (xs.take (k+1))=oh a (xs.take k)++Ab a x:=by
 obtain⟨h,rfl⟩:=ay.1 hx;rw[aN h,nR,qQ]
theorem vU(a:List UInt8){x:jq}(h:0<x.len):Ab a x=(a.drop x.off.toNat).take x.len.toNat:=if_pos h
theorem Ac(a:List UInt8){x:jq}(h:¬0<x.len):Ab a x=x.data:=if_neg h
theorem Ry(a:List UInt8){o l m:Int}(ho:0≤o)(hl:0≤l)(hm:0≤m):(a.drop o.toNat).take l.toNat++(a.drop (o+l).toNat).take m.toNat=(a.drop o.toNat).take (l+m).toNat:=by
 have e1:(o+l).toNat=o.toNat+l.toNat:=by omega
 have e2:(l+m).toNat=l.toNat+m.toNat:=by omega
 rw[e1,e2,←bP,List.take_add]
theorem Rz{n:Int}(l:List jq)(x:jq)(hl:mH n l)(hx:Val n x):mH n (tK l x)∧kW (tK l x)=kW l+rR x∧∀a:List UInt8,(a.length:Int)=n→oh a (tK l x)=oh a l++Ab a x:=by
 have one:kW [x]=rR x:=by simp[kW]
 rcases List.eq_nil_or_concat l with rfl|⟨ys,y,rfl⟩
 ·have e:tK [] x = [x]:=rfl;rw[e];exact⟨mH.cons hx (mH.nil n),by rw[one];simp[kW],fun a _=>by rw[qQ];rfl⟩
 ·rw[List.concat_eq_append]at *;have hy:Val n y:=hl y gu ;have hys:mH n ys:=fun z hz=>hl z (by simp[hz])
  have e1:kW (ys++[y])=kW ys+rR y:=by rw[nS];simp[kW]
  rw[PL];split
  ·rename_i h0
   have iy:y.ins:=hy.1.resolve_left fun h=>by have:=h.1;omega
   have ix:x.ins:=hx.1.resolve_left fun h=>by have:=h.1;omega
   have hz:Val n ⟨0,0,y.data++x.data⟩:=⟨.inr ⟨rfl,rfl,fun e=>iy.2.2 (List.append_eq_nil_iff.1 e).1⟩,fun h=>by have:=h.1;simp at this⟩;refine⟨hys.append (mH.cons hz (mH.nil n)),?_,fun a _=>?_⟩
   ·rw[nS,e1];have s1:rR x=x.data.length:=if_neg fZ ;have s2:rR y=y.data.length:=if_neg fZ ;have s3:rR ⟨0,0,y.data++x.data⟩=((y.data++x.data).length:Int):=if_neg gu ;rw[s1,s2];show kW ys+(rR ⟨0,0,y.data++x.data⟩+0)=_;rw[s3,aj];omega
   ·rw[nR,nR,qQ,qQ,Ac a (x:=x) fZ ,Ac a (x:=y) fZ ,aA];congr 1
  ·rename_i n0
   split
   ·rename_i hc
    obtain⟨c1,c2,c3⟩:=hc;have cy:y.cp:=hy.1.resolve_right fun h=>by have:=h.1;omega
    have cx:x.cp:=hx.1.resolve_right fun h=>by have:=h.1;omega
    have vy:=hy.2 cy;have vx:=hx.2 cx;have hz:Val n ⟨y.off,y.len+x.len,[]⟩:=⟨.inl ⟨by show 0<y.len+x.len;omega,rfl⟩,fun _=>by simp only;omega⟩;refine⟨hys.append (mH.cons hz (mH.nil n)),?_,fun a ha=>?_⟩
    ·rw[nS,e1];have s1:rR x=x.len:=if_pos c1;have s2:rR y=y.len:=if_pos c2;have s3:rR ⟨y.off,y.len+x.len,[]⟩=y.len+x.len:=if_pos (by simp only;omega);rw[s1,s2];show kW ys+(rR ⟨y.off,y.len+x.len,[]⟩+0)=_;rw[s3];omega
    ·rw[nR,nR,qQ,qQ,vU a c1,vU a c2,vU a (x:=⟨y.off,y.len+x.len,[]⟩) (by simp only;omega),←c3,aA,Ry a vy.1 fZ fZ ]
   ·refine⟨hl.append (mH.cons hx (mH.nil n)),by rw[nS,one],fun a _=>by rw[nR,qQ]⟩
theorem JC{n:Int}:∀(xs l:List jq),mH n l→mH n xs→mH n (xs.foldl tK l)∧kW (xs.foldl tK l)=kW l+kW xs∧∀a:List UInt8,(a.length:Int)=n→oh a (xs.foldl tK l)=oh a l++oh a xs
 |[],l,hl,_=>⟨hl,by simp[kW],fun a _=>by simp[oh]⟩
 |x::xs,l,hl,hx=>by
  obtain⟨h1,h2,h3⟩:=Rz l x hl (hx x gu );obtain⟨k1,k2,k3⟩:=JC xs (tK l x) h1 fun y hy=>hx y (by simp[hy])
  refine⟨k1,?_,fun a ha=>?_⟩
  ·rw[eU,k2,h2];show kW l+rR x+kW xs=kW l+(rR x+kW xs);omega
  ·rw[eU,k3 a ha,h3 a ha,vT,aA]
theorem RA{n:Int}{xs:List jq}(hx:mH n xs):mH n (xD xs)∧kW (xD xs)=kW xs∧∀a:List UInt8,(a.length:Int)=n→oh a (xD xs)=oh a xs:=by
 rw[RB fun x h=>(hx x h).1];obtain⟨h1,h2,h3⟩:=JC xs [] (mH.nil n) hx;exact⟨h1,by rw[h2];simp[kW],fun a ha=>by rw[h3 a ha];rfl⟩
theorem FT{n:Int}:∀(xs:List jq) (p:Int),0≤p→mH n xs→p+kW xs≤65536→mY n p xs=0
 |[],_,_,_,_=>rfl
 |x::xs,p,hp,h,hs=>by
  have hv:=h x gu ;have hs':p+(rR x+kW xs)≤65536:=hs;have h0:=Hl x;have h1:=yP xs;show (if ¬x.cp∧¬x.ins then(1:Int)else if x.cp∧(x.off<0∨n<x.len∨n-x.len<x.off)then 2 else if 65536-p<rR x then 4 else mY n (p+rR x) xs)=0;rw[if_neg fun e=>hv.1.elim e.1 e.2,if_neg fun e=>by have:=hv.2 e.1;omega,if_neg fZ ];exact FT xs _ fZ (fun y hy=>h y (by simp[hy])) fZ
theorem Ae{n:Int}{xs:List jq}(h0:0≤n)(h1:n≤65536)(h:mH n xs)(hs:kW xs≤65536):jA xs n=0:=by
 unfold jA;rw[if_neg fZ ];exact FT xs 0 fZ h fZ
theorem Dq{n:Int}{xs:List jq}:jA xs n=0↔(0≤n∧n≤65536)∧mH n xs∧kW xs≤65536 :=
 ⟨FU,fun⟨⟨h0,h1⟩,h2,h3⟩=>Ae h0 h1 h2 h3⟩
theorem FV(a s:List UInt8)(h:0<(jX a s).2):(jX a s).1+(jX a s).2≤a.length∧(a.drop (jX a s).1).take (jX a s).2=s.take (jX a s).2:=by
 obtain⟨_,_,h3⟩:=tL a s a.length;obtain⟨k1,k2,_⟩:=h3 h;have k2':(jX a s).2=MB (a.drop (jX a s).1) s:=k2.symm;obtain⟨q1,q2,q3⟩:=(sK (a.drop (jX a s).1) s (jX a s).2).1 (Nat.le_of_eq k2');rw[aC]at q1;have:(jX a s).1<a.length:=k1;exact⟨by omega,q3⟩
theorem Af(a b:List UInt8):∀f k,mH a.length (mg a b f k)
 |0,k=>fun x hx=>by simp[mg]at hx
 |f+1,k=>by
  by_cases hk:k<b.length
  ·by_cases h4:4≤(jX a (b.drop k)).2
   ·rw[tN hk h4];obtain⟨h1,_⟩:=FV a (b.drop k) fZ ;exact mH.cons ⟨.inl ⟨by simp only;omega,rfl⟩,fun _=>by simp only;omega⟩ (Af a b f _)
   ·rw[vV hk h4];refine mH.cons ⟨.inr ⟨rfl,rfl,fun e=>?_⟩,fun h=>by have:=h.1;simp at this⟩ (Af a b f _);have:=congrArg List.length e;simp at this;omega
  ·rw[vW hk];exact mH.nil _
theorem Ag(a b:List UInt8):∀f k,b.length-k<f→oh a (mg a b f k)=b.drop k
 |0,k,h=>by omega
 |f+1,k,h=>by
  by_cases hk:k<b.length
  ·by_cases h4:4≤(jX a (b.drop k)).2
   ·rw[tN hk h4,vT,Ag a b f _ fZ ,vU a (by simp only;omega)];obtain⟨_,h2⟩:=FV a (b.drop k) fZ ;simp only[aT];rw[h2,←bP,bQ]
   ·rw[vV hk h4,vT,Ag a b f _ fZ ,Ac a gu ];simp only;rw[←bP,bQ]
  ·rw[vW hk,cO fZ ];rfl
theorem MJ(a b:List UInt8)(ha:a.length≤65536)(hb:b.length≤65536):jA (nT a b) a.length=0∧jA (nT a b) 65536=0∧kW (nT a b)=b.length∧xR a (nT a b)=(b,0):=by
 have hv:=Af a b (b.length+1) 0;have ha':=Ag a b (b.length+1) 0 fZ ;obtain⟨h1,h2,h3⟩:=RA hv;have h4:=h3 a rfl;rw[ha',dY]at h4;have h4':oh a (nT a b)=b:=h4;have h1':mH a.length (nT a b):=h1;have hs:kW (nT a b)=b.length:=by rw[←Dp a _ h1',h4']
 have hc:jA (nT a b) a.length=0:=Ae fZ fZ h1' fZ ;refine⟨hc,Ae fZ fZ (fun x hx=>⟨(h1' x hx).1,fun h=>by have:=(h1' x hx).2 h;omega⟩) fZ ,hs,?_⟩;unfold xR;rw[if_pos hc,h4']
end Go.Proofs.YtichfhpgdhdiaaaGreat
namespace Go.Proofs.YtichfhpgdhdiaaaGreat
open Go.RowKit
theorem P6(w:World)(a:ByteArray){va:Value}{xs:List jq}(ha:R8 w va xs)(hi:∀x∈xs,Int64 x.off∧Int64 x.len∧x.data.length≤9000000000000000000)(hl:a.size≤1000000):
  Calls prog 122 #[.string a,va] w (F3 (xR a.data.toList xs) w):=by
 have hal:a.data.toList.length=a.size:=rfl;have CK:=af (xX w ha a.size hi);obtain⟨A,c,rfl,h1,h2⟩:=ha.form;by_cases hc:jA xs a.size=0
 ·have hr:xR a.data.toList xs=(oh a.data.toList xs,0):=if_pos hc;rw[hr];rw[hc]at CK;obtain⟨hn,hval,hs⟩:=FU hc;have HV:=af hval;have HA:=af ha;have HL:Hid (∀k,((oh a.data.toList (xs.take k)).length:Int)≤65536):=fun k=>by
   rw[Dp _ _ fun x hx=>hval x (dZ hx)];exact Int.le_trans (JU xs k) hs
  clear hr hc ha hi hval;go_enter func122,ntmps122;go_wp2_with fail;refine CK.out.mono ?_;rintro e w1 ⟨rfl,hb1⟩;have hs1:=hb1.size;have K1:=af hb1;have abf:=(ah w1.heap.size w1).alloc (ak _) (.cells #[.pointer none,.slice none 0 0] 122);have hbn:=sH.new w1 gF;have HB0:Hid (qW w1.heap.size w1.heap.size (oh a.data.toList (xs.take 0)) (w1.alloc (.cells #[.pointer none,.slice none 0 0] 122)) (w1.alloc (.cells #[.pointer none,.slice none 0 0] 122))):=⟨hbn,ah _ _,Lib.OthersKept.refl _ _ _⟩
  have o8:=af (hb1.trans (abf.mono hs1));have hg1:w1.heap.size<(w1.alloc (.cells #[.pointer none,.slice none 0 0] 122)).heap.size:=by simp
  clear CK hb1 abf hbn;go_upto_region 5 with (fail);generalize w1.alloc (.cells #[.pointer none,.slice none 0 0] 122)=W0 at *;generalize w1.heap.size=b at *;go_wp2;go_loopw [19] (fun i wr=>∃k:Nat,k≤xs.length∧i=.int .i64 k∧qW b b (oh a.data.toList (xs.take k)) W0 wr) (fun i _=>xs.length-(intOf i).toNat)
  case atStart=>exact⟨0,by omega,rfl,HB0.out⟩
  case round =>
   clear HB0;obtain⟨k,hk,rfl,hB⟩:=hrel;have hsr:=hB.jM.size;have hbw:Below w.heap.size w wr:=o8.out.trans (hB.jM.mono hs1);by_cases hlt:k<xs.length
   ·obtain⟨x,hx⟩:∃x,xs[k]?=some x:=⟨_,au hlt⟩;obtain⟨b1,o1,rfl,c0,c1,c2⟩:=(HA.out.keep (dO hbw)).get hx;have hv:=HV.out x (aV hx);have PX:Hid (oh a.data.toList (xs.take (k+1))=oh a.data.toList (xs.take k)++Ab a.data.toList x):=Fq hx;have hp:=HL.out k;have hp1:=HL.out (k+1);rw[PX.out,aj]at hp1;generalize oh a.data.toList (xs.take k)=P at *;have hal:=(ah wr.heap.size wr).alloc (ak _) (.cells #[.int .i64 x.off,.int .i64 x.len,.string (fu x.data)] 191);have hbx:=gV.new wr #[.int .i64 x.off,.int .i64 x.len,.string (fu x.data)] 191
    have HB3:=af (hB.below hal fZ hsr);have Cx:=af (fun w'=>uf x w');have hgb:b<wr.heap.size:=by have:=hB.rQ.lt;omega
    clear hx hB hbw;by_cases hcp:x.cp
    ·have hcb:P7 x=true:=decide_eq_true hcp;obtain⟨xo,xl,xd⟩:=x;obtain⟨g1,g2⟩:=hv.2 hcp;have hcl:=hcp.1;simp only at g1 g2 hcl c0 c1 c2 hbx HB3;obtain⟨o,rfl⟩:=fA g1;obtain⟨l,rfl⟩:=fA (Int.le_of_lt hcl);have hol:o+l≤a.size:=by omega
     have HXV:Hid (Ab a.data.toList ⟨o,l,xd⟩=(a.data.toList.drop o).take l):=by
      show _=_;unfold Ab;rw[if_pos (by simpa using hcl)];simp
     rw[HXV.out]at hp1;have hxl:(a.extract o (o+l)).size=l:=by rw[pU a hol,gL,aH,aC];omega
     have HX:Hid ((a.extract o (o+l)).data.toList=(a.data.toList.drop o).take l):=by show _=_;rw[pU a hol,iI]
     have hz1:IntKind.i64.wrap ((o:Int)+l)=((o+l:Nat):Int):=by rw[jo fZ fZ ];omega
     have HCP:=af hcb;clear hv hcp hcb g1 hcl;go_upto_region 8 with (fail);have hs3:W0.heap.size≤(wr.alloc (.cells #[.int .i64 o,.int .i64 l,.string (fu xd)] 191)).heap.size:=by simp;omega
     generalize wr.alloc (.cells #[.int .i64 o,.int .i64 l,.string (fu xd)] 191)=w3 at *;generalize wr.heap.size=gx at *;clear c0 c1 c2 hal hsr;have q0:w3.cell? ⟨gx,0,none⟩=some (.int .i64 o):=hbx.cl 0;have q1:w3.cell? ⟨gx,1,none⟩=some (.int .i64 l):=hbx.cl 1;have q2:w3.cell? ⟨gx,2,none⟩=some (.string (fu xd)):=hbx.cl 2;have CX:=Cx.out w3;unfold dV at CX;rw[HCP.out]at CX;have R9:=af CX;clear CX Cx HCP;go_wp2_with fail;refine R9.out.mono ?_;rintro e w5 ⟨rfl,hb5⟩;have Vl:=hbx.keep hb5;have hs5:=hb5.size;have r0:w5.cell? ⟨gx,0,none⟩=some (.int .i64 o):=Vl.cl 0
     have r1:w5.cell? ⟨gx,1,none⟩=some (.int .i64 l):=Vl.cl 1;have BK:=HB3.out.below hb5 fZ fZ ;have C6:=af (qV b b P (a.extract o (o+l)) w5 BK.rQ fZ fZ );have pq:=af BK;clear BK hb5 R9 HB3 q0 q1 q2 Vl hbx;go_wp2_with fail;refine C6.out.mono ?_;rintro e w6 ⟨rfl,hb6,Wo,ko6⟩;rw[HX.out]at hb6;have sI:=af (pq.out.trans ⟨hb6,Wo,ko6⟩);clear hb6 Wo ko6 pq C6 r0 r1;go_wp2;go_roundw
     case rel=>exact⟨k+1,by omega,by go_num,by rw[PX.out,HXV.out];exact sI.out⟩
     case measure=>simp[intOf];omega
    ·have hcb:P7 x=false:=decide_eq_false hcp;have hcl:¬0<x.len:=fun h=>hcp (hv.1.resolve_right fun e=>by have:=e.1;omega)
     have HXV:Hid (Ab a.data.toList x=x.data):=if_neg hcl;rw[HXV.out]at hp1;have HCP:=af hcb;clear hv hcp hcb hcl;go_upto_region 8 with (fail);have hs3:W0.heap.size≤(wr.alloc (.cells #[.int .i64 x.off,.int .i64 x.len,.string (fu x.data)] 191)).heap.size:=by simp;omega
     generalize wr.alloc (.cells #[.int .i64 x.off,.int .i64 x.len,.string (fu x.data)] 191)=w3 at *;generalize wr.heap.size=gx at *;clear c0 c1 c2 hal hsr;have q0:w3.cell? ⟨gx,0,none⟩=some (.int .i64 x.off):=hbx.cl 0;have q1:w3.cell? ⟨gx,1,none⟩=some (.int .i64 x.len):=hbx.cl 1;have q2:w3.cell? ⟨gx,2,none⟩=some (.string (fu x.data)):=hbx.cl 2;have CX:=Cx.out w3;unfold dV at CX;rw[HCP.out]at CX;have R9:=af CX;clear CX Cx HCP;go_wp2_with fail;refine R9.out.mono ?_;rintro e w5 ⟨rfl,hb5⟩;have Vl:=hbx.keep hb5;have hs5:=hb5.size;have r2:w5.cell? ⟨gx,2,none⟩=some (.string (fu x.data)):=Vl.cl 2
     have BK:=HB3.out.below hb5 fZ fZ ;have C6:=af (qV b b P (fu x.data) w5 BK.rQ (by rw[gL];omega) fZ );have pq:=af BK;clear BK hb5 R9 HB3 q0 q1 q2 Vl hbx;go_wp2_with fail;refine C6.out.mono ?_;rintro e w6 ⟨rfl,hb6,Wo,ko6⟩;rw[iI]at hb6;have sI:=af (pq.out.trans ⟨hb6,Wo,ko6⟩);clear hb6 Wo ko6 pq C6 r2;go_wp2;go_roundw
     case rel=>exact⟨k+1,by omega,by go_num,by rw[PX.out,HXV.out];exact sI.out⟩
     case measure=>simp[intOf];omega
   ·have hks:xs.take k=xs:=aF fZ ;rw[hks]at hB;have CS:=af (tQ b b _ wr hB.rQ fZ );have HBR:=af hbw;clear hB hks hbw;go_wp2_with fail;refine CS.out.mono ?_;rintro e w3 ⟨rfl,_,hb3,_⟩;have HE:F3 (oh a.data.toList xs,0) w (.returned (.tuple #[.string ⟨(oh a.data.toList xs).toArray⟩,.int .i64 0])) w3:=⟨rfl,HBR.out.trans (hb3.mono fZ )⟩;have qB:=af HE;clear HE hb3 HBR CS;go_wp2;go_ret2;exact qB.out
 ·have hr:xR a.data.toList xs=([],jA xs a.size):=if_neg hc;rw[hr];have hne:((jA xs a.size) != 0)=true:=by simpa using hc
  generalize jA xs a.size=q at *;clear hr ha hi hc;go_enter func122,ntmps122;go_wp2_with fail;refine CK.out.mono ?_;rintro e w1 ⟨rfl,hb1⟩;have HE:=af (show F3 ([],q) w (.returned (.tuple #[.string ⟨#[]⟩,.int .i64 q])) w1 from⟨rfl,hb1⟩);clear hb1 CK;go_wp2;go_ret2;exact HE.out
end Go.Proofs.YtichfhpgdhdiaaaGreat
namespace Go.Proofs.YtichfhpgdhdiaaaGreat
def ou(s:List UInt8):jq×Nat×Bool :=
 if (gX s).2.2≠0 then(⟨0,0,[]⟩,0,false)
 else if 0<(gX s).1 then(⟨(gX (s.drop (gX s).2.1)).1,(gX s).1,[]⟩,(gX s).2.1+(gX (s.drop (gX s).2.1)).2.1,decide ((gX (s.drop (gX s).2.1)).2.2=0))
 else(⟨0,0,(ji (s.drop (gX s).2.1)).1⟩,(gX s).2.1+(ji (s.drop (gX s).2.1)).2.1,decide ((ji (s.drop (gX s).2.1)).2.2=0))
structure Can(x:jq):Prop where
 o0:0≤x.off
 o1:x.off≤1099511627776
 l0:0≤x.len
 l1:x.len≤1099511627776
 d1:x.data.length≤65536
 cpy:0<x.len→x.data = []
 ins:x.len=0→x.off=0
theorem oC{n:Int}(h0:0≤n)(h1:n≤1099511627776):(jc n).1=gJ n.toNat:=by unfold jc;rw[if_pos ⟨h0,h1⟩]
theorem H8{d:List UInt8}(h:d.length≤65536):(jP d).1=gJ d.length++d:=by unfold jP;rw[if_pos h]
theorem Aj{x:jq}(h:Can x)(hl:0<x.len):mh x=gJ x.len.toNat++gJ x.off.toNat:=by
 unfold mh;rw[oC h.l0 h.l1,if_pos ⟨hl,h.cpy hl⟩,oC h.o0 h.o1]
theorem Ak{x:jq}(h:Can x)(hl:¬0<x.len):mh x=gJ 0++(gJ x.data.length++x.data):=by
 unfold mh;have:x.len=0:=by have:=h.l0;omega
 rw[oC h.l0 h.l1,if_neg fun e=>hl e.1,H8 h.d1,this];rfl
theorem RO{x:jq}(t:List UInt8)(h:Can x):ou (mh x++t)=(x,(mh x).length,true):=by
 have h1:=h.l0;have h2:=h.l1;have h3:=h.o0;have h4:=h.o1;by_cases hl:0<x.len
 ·rw[Aj h hl,aA];have e1:=mI (m:=x.len.toNat) (gJ x.off.toNat++t) fZ ;have e2:=mI (m:=x.off.toNat) t fZ ;unfold ou;rw[e1];simp only[ne_eq,not_true_eq_false,if_false,cK];rw[if_pos fZ ,e2];have hd:=h.cpy hl;obtain⟨o,l,d⟩:=x;simp only at hd h1 h3 hl;subst hd;refine dP ?_ (dP ?_ rfl)
  ·simp only[jq.mk.injEq,and_true];omega
  ·simp only[aj]
 ·rw[Ak h hl,aA];have e1:=mI (m:=0) ((gJ x.data.length++x.data)++t) fZ ;have e2:=uV t h.d1;unfold ou;rw[e1];simp only[ne_eq,not_true_eq_false,if_false,cK,Nat.lt_irrefl];rw[e2];have hz:x.len=0:=by omega
  have hd:=h.ins hz;obtain⟨o,l,d⟩:=x;simp only at hz hd;subst hz;subst hd;refine dP rfl (dP ?_ rfl);simp only[aj]
theorem RP{s:List UInt8}{x:jq}{k:Nat}(h:ou s=(x,k,true)):Can x∧k=(mh x).length∧s=mh x++s.drop k:=by
 unfold ou at h;split at h
 ·simp at h
 ·rename_i h0
  have h0':(gX s).2.2=0:=by
   rcases d9 ((gX s).2.2=0)with e|e
   ·exact e
   ·exact absurd e h0
  have e:gX s=((gX s).1,(gX s).2.1,0):=by rw[←h0']
  obtain⟨g1,g2,g3⟩:=rf e;split at h
  ·rename_i hl
   injection h with h1 h;injection h with h2 h3;have h3':(gX (s.drop (gX s).2.1)).2.2=0:=of_decide_eq_true h3;have e':gX (s.drop (gX s).2.1)=((gX (s.drop (gX s).2.1)).1,(gX (s.drop (gX s).2.1)).2.1,0):=by rw[←h3']
   obtain⟨k1,k2,k3⟩:=rf e';have hc:Can x:=by
    subst h1;exact⟨by simp only;omega,by simp only;omega,by simp only;omega,by simp only;omega,by simp,fun _=>rfl,fun h=>by simp only at h;omega⟩
   have hx:mh x=gJ (gX s).1++gJ (gX (s.drop (gX s).2.1)).1:=by
    rw[Aj hc (by subst h1;simp only;omega)];subst h1;simp
   refine⟨hc,by rw[hx,aj,←g2,←k2,h2],?_⟩;rw[hx,←h2,←bP,aA,←k3];exact g3
  ·rename_i hl
   injection h with h1 h;injection h with h2 h3;have h3':(ji (s.drop (gX s).2.1)).2.2=0:=of_decide_eq_true h3;have e':ji (s.drop (gX s).2.1)=((ji (s.drop (gX s).2.1)).1,(ji (s.drop (gX s).2.1)).2.1,0):=by rw[←h3']
   obtain⟨k1,k2,k3⟩:=qZ e';have hc:Can x:=by
    subst h1;exact⟨by simp,by simp,by simp,by simp,k1,fun h=>by simp at h,fun _=>rfl⟩
   have hz:(gX s).1=0:=by omega
   rw[hz]at g2 g3;have hx:mh x=gJ 0++(gJ (ji (s.drop (gX s).2.1)).1.length++(ji (s.drop (gX s).2.1)).1):=by
    rw[Ak hc (by subst h1;simp)];subst h1;rfl
   refine⟨hc,by rw[hx,aj,←k2,←h2,←g2],?_⟩;rw[hx,←h2,←bP,aA,←k3];exact g3
structure Sml(x:jq):Prop where
 o0:0≤x.off
 o1:x.off≤1099511627776
 l0:0≤x.len
 l1:x.len≤1099511627776
 d1:x.data.length≤65536
theorem RQ(s:List UInt8):Sml (ou s).1∧(ou s).2.1≤s.length:=by
 have b1:=pQ s;have b2:=pQ (s.drop (gX s).2.1);have hd:(s.drop (gX s).2.1).length=s.length-(gX s).2.1:=aC;have b3:(ji (s.drop (gX s).2.1)).1.length≤65536∧(ji (s.drop (gX s).2.1)).2.1≤(s.drop (gX s).2.1).length:=by
  generalize s.drop (gX s).2.1=t;rcases yY t with h|h|h
  ·have e:ji t=((ji t).1,(ji t).2.1,0):=by rw[←h]
   obtain⟨k1,k2,k3⟩:=qZ e;refine⟨k1,?_⟩;have:=congrArg List.length k3;rw[aj]at this;omega
  ·rw[h];simp
  ·rw[h];simp
 unfold ou;split
 ·exact⟨⟨by simp,by simp,by simp,by simp,by simp⟩,by simp⟩
 ·split
  ·exact⟨⟨by simp only;omega,by simp only;omega,by simp only;omega,by simp only;omega,by simp⟩,by simp only;omega⟩
  ·exact⟨⟨by simp,by simp,by simp,by simp,b3.1⟩,by simp only;omega⟩
theorem RS(x:jq)(h:Can x):2≤(mh x).length:=by
 by_cases hl:0<x.len
 ·rw[Aj h hl,aj];have:=nA x.len.toNat;have:=nA x.off.toNat;omega
 ·rw[Ak h hl,aj,aj];have:=nA 0;have:=nA x.data.length;omega
def xU(s:List UInt8):Nat→Nat→List jq→Option (List jq×Nat)
 |0,at_,l=>some (l,at_)
 |n+1,at_,l=>if (ou (s.drop at_)).2.2 then xU s n (at_+(ou (s.drop at_)).2.1) (l++[(ou (s.drop at_)).1])else none
def MQ(s:List UInt8):Option (List jq×Nat)→List jq×Int
 |none=>([],13)
 |some r=>if r.2=s.length∧jA r.1 65536=0 then(r.1,0)else([],13)
def vZ(s:List UInt8):List jq×Int:=if (gX s).2.2≠0 then([],13)else MQ s (xU s (gX s).1 (gX s).2.1 [])
theorem Wl{x:jq}(h:Val 65536 x)(hd:x.data.length≤65536):Can x:=by
 rcases h.1 with hc|hi
 ·have:=h.2 hc;have:=hc.1;exact⟨by omega,by omega,by omega,by omega,hd,fun _=>hc.2,fun h=>by omega⟩
 ·obtain⟨h1,h2,h3⟩:=hi;exact⟨by omega,by omega,by omega,by omega,hd,fun h=>by omega,fun _=>h2⟩
theorem JL:∀{l:List jq} {x:jq},x∈l→rR x≤kW l
 |y::l,x,h=>by
  have h1:=Hl y;have h2:=yP l;show rR x≤rR y+kW l;rcases bC.1 h with rfl|h
  ·omega
  ·have:=JL h;omega
theorem Al{l:List jq}(h:jA l 65536=0):∀x∈l,Can x:=fun x hx=>by
 obtain⟨_,h2,h3⟩:=Dq.1 h;refine Wl (h2 x hx) ?_;have h4:=JL hx;by_cases hl:0<x.len
 ·rcases(h2 x hx).1 with h|h
  ·rw[h.2];simp
  ·have:=h.1;omega
 ·have:rR x=x.data.length:=if_neg hl;omega
theorem RU{x:jq}(h:x.cp∨x.ins):1≤rR x:=by
 unfold rR;split
 ·omega
 ·have:x.ins:=h.resolve_left fun h=>by have:=h.1;omega
  have:=List.length_pos_iff.2 this.2.2;omega
theorem FX:∀{l:List jq} {n:Int},mH n l→(l.length:Int)≤kW l
 |[],n,_=>Int.le_refl _
 |x::l,n,h=>by
  have h1:=RU (h x gu ).1;have h2:=FX (l:=l) (n:=n) fun y hy=>h y (by simp[hy])
  show ((l.length+1:Nat):Int)≤rR x+kW l;omega
theorem JM{s:List UInt8}:∀(l pre:List jq) (at_:Nat) (t:List UInt8),(∀x∈l,Can x)→s.drop at_=l.flatMap mh++t→xU s l.length at_ pre=some (pre++l,at_+(l.flatMap mh).length)
 |[],pre,at_,t,_,_=>by simp[xU]
 |x::l,pre,at_,t,hc,hs=>by
  rw[aG,aA]at hs;have e:=RO (l.flatMap mh++t) (hc x gu );rw[←hs]at e;show (if (ou (s.drop at_)).2.2 then xU s l.length (at_+(ou (s.drop at_)).2.1) (pre++[(ou (s.drop at_)).1])else none)=_;rw[e];simp only[if_true];rw[JM l (pre++[x]) (at_+(mh x).length) t (fun y hy=>hc y (by simp[hy])) (by rw[←bP,hs,cK])];simp[aG,fM]
theorem tV{l:List jq}{s:List UInt8}(h:nK l=(s,0)):jA l 65536=0∧s=(jc l.length).1++l.flatMap mh:=by
 unfold nK at h;split at h
 ·rename_i hc
  injection h with h1 _;exact⟨hc,h1.symm⟩
 ·rename_i hc
  injection h with _ h2;exact absurd h2 hc
theorem wo{l:List jq}(h:jA l 65536=0):l.length≤65536:=by
 obtain⟨_,h2,h3⟩:=Dq.1 h;have:=FX h2;omega
theorem H9{l:List jq}{s:List UInt8}(h:nK l=(s,0)):jA l 65536=0∧s=gJ l.length++l.flatMap mh:=by
 obtain⟨h1,h2⟩:=tV h;have:=wo h1;rw[oC fZ fZ ,aT]at h2;exact⟨h1,h2⟩
theorem JN{l:List jq}{s:List UInt8}(h:nK l=(s,0)):vZ s=(l,0):=by
 obtain⟨h1,h2⟩:=H9 h;have hl:=wo h1;have e1:gX s=(l.length,(gJ l.length).length,0):=by rw[h2];exact mI _ fZ
 unfold vZ;rw[e1];simp only[ne_eq,not_true_eq_false,if_false];have hs:s.drop (gJ l.length).length=l.flatMap mh++[]:=by rw[h2,cK,aU]
 rw[JM l [] _ [] (Al h1) hs];show (if _=s.length∧jA ([]++l) 65536=0 then _ else _)=_;rw[if_pos ⟨by rw[h2,aj],h1⟩];rfl
end Go.Proofs.YtichfhpgdhdiaaaGreat
namespace Go.Proofs.YtichfhpgdhdiaaaGreat
open Go.RowKit
end Go.Proofs.YtichfhpgdhdiaaaGreat
namespace Go.Proofs.YtichfhpgdhdiaaaGreat
open Go.RowKit
def abl(r:jq×Nat×Bool)(w0:World)(e:Ending)(w:World):Prop:=e=.returned (.tuple #[dV r.1,.int .i64 (r.2.1:Int),.bool r.2.2])∧Below w0.heap.size w0 w
theorem Ih(s:ByteArray)(w:World)(hs:s.size≤4000000000000000000):Calls prog 149 #[.string s] w (abl (ou s.data.toList) w):=by
 have CI:=af (fun w=>lH s w);have HL:s.data.toList.length=s.size:=rfl;obtain⟨b1,b2⟩:=pQ s.data.toList;have CJ:=af (fun w=>lH (s.extract (gX s.data.toList).2.1 s.size) w);have CT:=af (fun w=>pW (s.extract (gX s.data.toList).2.1 s.size) w (by rw[bJ];omega));rw[pV]at CJ CT;obtain⟨d1,d2⟩:=pQ (s.data.toList.drop (gX s.data.toList).2.1);have d3:(ji (s.data.toList.drop (gX s.data.toList).2.1)).2.1≤s.size:=by
  rcases yY (s.data.toList.drop (gX s.data.toList).2.1)with h|h|h
  ·have e:ji (s.data.toList.drop (gX s.data.toList).2.1)=((ji (s.data.toList.drop (gX s.data.toList).2.1)).1,(ji (s.data.toList.drop (gX s.data.toList).2.1)).2.1,0):=by rw[←h]
   obtain⟨k1,k2,k3⟩:=qZ e;have:=congrArg List.length k3;rw[aj,aC]at this;omega
  ·rw[h];simp
  ·rw[h];simp
 rw[aC,HL]at d2;rw[HL]at b2;have HX:Hid (ou s.data.toList=if (gX s.data.toList).2.2≠0 then(⟨0,0,[]⟩,0,false)
  else if 0<(gX s.data.toList).1 then(⟨(gX (s.data.toList.drop (gX s.data.toList).2.1)).1,(gX s.data.toList).1,[]⟩,(gX s.data.toList).2.1+(gX (s.data.toList.drop (gX s.data.toList).2.1)).2.1,decide ((gX (s.data.toList.drop (gX s.data.toList).2.1)).2.2=0))
  else(⟨0,0,(ji (s.data.toList.drop (gX s.data.toList).2.1)).1⟩,(gX s.data.toList).2.1+(ji (s.data.toList.drop (gX s.data.toList).2.1)).2.1,decide ((ji (s.data.toList.drop (gX s.data.toList).2.1)).2.2=0))):=rfl
 generalize ou s.data.toList=r at *;generalize gX (s.data.toList.drop (gX s.data.toList).2.1)=q2 at *;generalize ji (s.data.toList.drop (gX s.data.toList).2.1)=q3 at *;generalize gX s.data.toList=q at *;obtain⟨n,k,e0⟩:=q;obtain⟨n2,k2,e2⟩:=q2;obtain⟨t3,k3,e3⟩:=q3;simp only at HX b1 b2 CJ CT d1 d2 d3;unfold gI at CI CJ;unfold gT at CT;simp only at CI CJ CT;by_cases he:e0=0
 ·subst he;by_cases hn:0<n
  ·have HR:Hid (r=(⟨n2,n,[]⟩,k+k2,(e2==0))):=by show _=_;rw[HX.out,if_neg gu ,if_pos hn];rfl
   have hn1:(0:Int)<(n:Int):=by omega
   have hz1:IntKind.i64.wrap ((k:Int)+k2)=(k:Int)+k2:=jo fZ fZ ;clear HX CT;go_enter func149,ntmps149;go_wp2_with fail;refine(CI.out _).mono ?_;rintro e w1 ⟨rfl,rfl⟩;go_wp2_with fail;refine(CJ.out _).mono ?_;rintro e w1 ⟨rfl,rfl⟩;go_wp2;have kb:=(gV.new w #[.int .i64 n2,.int .i64 n,.string ⟨#[]⟩] 191).alloc (.cells #[.int .i64 n2,.int .i64 n,.string ⟨#[]⟩] 191);have kd:Below w.heap.size w ((w.alloc (.cells #[.int .i64 n2,.int .i64 n,.string ⟨#[]⟩] 191)).alloc (.cells #[.int .i64 n2,.int .i64 n,.string ⟨#[]⟩] 191)):=((ah _ _).alloc (ak _) _).alloc gu _
   have k0:=kb.cl 0;have k1:=kb.cl 1;have k2':=kb.cl 2;exact bodyPost_ret (v:=.tuple #[.agg #[.int .i64 n2,.int .i64 n,.string ⟨#[]⟩],.int .i64 ((k:Int)+k2),.bool (e2==0)]) (by simp[results,results149,go_sem,k0,k1,k2']) rfl ⟨by rw[HR.out];rfl,kd⟩
  ·have HR:Hid (r=(⟨0,0,t3⟩,k+k3,(e3==0))):=by show _=_;rw[HX.out,if_neg gu ,if_neg hn];rfl
   have hn0:n=0:=by omega
   subst hn0;have hz1:IntKind.i64.wrap ((k:Int)+k3)=(k:Int)+k3:=jo fZ fZ ;clear HX CJ;go_enter func149,ntmps149;go_wp2_with fail;refine(CI.out _).mono ?_;rintro e w1 ⟨rfl,rfl⟩;go_wp2_with fail;refine(CT.out _).mono ?_;rintro e w1 ⟨rfl,rfl⟩;go_wp2;have kb:=(gV.new w #[.int .i64 0,.int .i64 0,.string (fu t3)] 191).alloc (.cells #[.int .i64 0,.int .i64 0,.string (fu t3)] 191);have kd:Below w.heap.size w ((w.alloc (.cells #[.int .i64 0,.int .i64 0,.string (fu t3)] 191)).alloc (.cells #[.int .i64 0,.int .i64 0,.string (fu t3)] 191)):=((ah _ _).alloc (ak _) _).alloc gu _
   have k0:=kb.cl 0;have k1:=kb.cl 1;have k2':=kb.cl 2;exact bodyPost_ret (v:=.tuple #[.agg #[.int .i64 0,.int .i64 0,.string (fu t3)],.int .i64 ((k:Int)+k3),.bool (e3==0)]) (by simp[results,results149,go_sem,k0,k1,k2']) rfl ⟨by rw[HR.out];rfl,kd⟩
 ·have HR:Hid (r=(⟨0,0,[]⟩,0,false)):=by show _=_;rw[HX.out,if_pos he]
  have hne:(e0 != 0)=true:=by simpa using he
  clear HX CT CJ;go_enter func149,ntmps149;go_wp2_with fail;refine(CI.out _).mono ?_;rintro e w1 ⟨rfl,rfl⟩;go_wp2;have kb:=(gV.new w #[.int .i64 0,.int .i64 0,.string ⟨#[]⟩] 191).alloc (.cells #[.int .i64 0,.int .i64 0,.string ⟨#[]⟩] 191);have kd:Below w.heap.size w ((w.alloc (.cells #[.int .i64 0,.int .i64 0,.string ⟨#[]⟩] 191)).alloc (.cells #[.int .i64 0,.int .i64 0,.string ⟨#[]⟩] 191)):=((ah _ _).alloc (ak _) _).alloc gu _;have k0:=kb.cl 0
  have k1:=kb.cl 1;have k2':=kb.cl 2;exact bodyPost_ret (v:=.tuple #[.agg #[.int .i64 0,.int .i64 0,.string ⟨#[]⟩],.int .i64 0,.bool false]) (by simp[results,results149,go_sem,k0,k1,k2']) rfl ⟨by rw[HR.out];rfl,kd⟩
def qC(r:List jq×Int)(w0:World)(e:Ending)(w:World):Prop:=∃v,e=.returned (.tuple #[v,.int .i64 r.2])∧R8 w v r.1∧Below w0.heap.size w0 w
theorem qC.nil{k:Int}{w0 w:World}(h:Below w0.heap.size w0 w):qC ([],k) w0 (.returned (.tuple #[.slice none 0 0,.int .i64 k])) w:=⟨_,rfl,Sl.nil _ _ _,h⟩
def Y2(s:List UInt8)(n at_:Nat)(l:List jq)(R:Option (List jq×Nat)):Prop:=xU s n at_ l=R
theorem P8{s:List UInt8}{n at_:Nat}{l:List jq}:xU s (n+1) at_ l=if (ou (s.drop at_)).2.2 then xU s n (at_+(ou (s.drop at_)).2.1) (l++[(ou (s.drop at_)).1])else none:=rfl
theorem abm{l:List jq}(h:∀x∈l,Sml x):∀x∈l,Int64 x.off∧Int64 x.len∧x.data.length≤9000000000000000000:=fun x hx=>by
 obtain⟨a,b,c,d,e⟩:=h x hx;exact⟨⟨by omega,by omega⟩,⟨by omega,by omega⟩,by omega⟩
theorem P9(l:List jq)(x:jq):(l++[x]).flatMap dC=l.flatMap dC++dC x:=by simp
theorem M8(s:ByteArray)(w:World)(hs:s.size≤100000000):Calls prog 121 #[.string s] w (qC (vZ s.data.toList) w):=by
 obtain⟨i1,hi1,hy0,hy1,hy2⟩:=info_parts Tryz.DF;have CI:=af (lH s w);have HL:Hid (s.data.toList.length=s.size):=rfl;obtain⟨b1,b2⟩:=pQ s.data.toList;rw[HL.out]at b2;have HX:Hid (vZ s.data.toList=if (gX s.data.toList).2.2≠0 then([],13)else MQ s.data.toList (xU s.data.toList (gX s.data.toList).1 (gX s.data.toList).2.1 [])):=rfl;generalize vZ s.data.toList=r at *;generalize gX s.data.toList=q at *;obtain⟨n,k0,e0⟩:=q;unfold gI at CI;simp only at HX b1 b2 CI;by_cases he:e0=0
 ·subst he;have HR:Hid (r=MQ s.data.toList (xU s.data.toList n k0 [])):=by show _=_;rw[HX.out,if_neg gu ]
  clear HX;have HC0:Hid (Y2 s.data.toList (n-0) k0 [] (xU s.data.toList n k0 [])):=rfl;generalize xU s.data.toList n k0 []=R at *;go_enter func121,ntmps121;go_wp2_with fail;refine CI.out.mono ?_;rintro e w1 ⟨rfl,rfl⟩;clear CI;go_wp2;go_loopw [5,7,20] (fun ai vl ii wr=>∃(k at_:Nat) (l:List jq),k≤n∧at_≤s.size∧l.length≤at_∧ii=.int .i64 k∧ai=.int .i64 at_∧wr.ownsRow w1.heap.size 191 3 vl l.length (l.flatMap dC)∧Hid (Y2 s.data.toList (n-k) at_ l R)∧Hid (∀x∈l,Sml x)∧Below w1.heap.size w1 wr) (fun _ _ ii _=>n-(intOf ii).toNat)
  case atStart=>exact⟨0,k0,[],by omega,b2,by simp,rfl,rfl,World.ownsRow_nil _ _ _ _,HC0,fun x hx=>by simp at hx,ah _ _⟩
  case round =>
   clear HC0 b2;obtain⟨k,at_,l,hk,hat,hll,rfl,rfl,hown,HC,HS,hbw⟩:=hrel;have hsz:=hbw.size;by_cases hlt:k<n
   ·have CO:=Ih (s.extract at_ s.size) wr (by rw[bJ];omega);rw[pV]at CO;have HD:Hid ((if (ou (s.data.toList.drop at_)).2.2 then xU s.data.toList (n-(k+1)) (at_+(ou (s.data.toList.drop at_)).2.1) (l++[(ou (s.data.toList.drop at_)).1])else none)=R):=by
     show _=_;rw[←show xU s.data.toList (n-k) at_ l=R from HC.out,show n-k=(n-(k+1))+1 by omega,P8]
    obtain⟨x1,x2⟩:=RQ (s.data.toList.drop at_);rw[aC,HL.out]at x2;have x3:(ou (s.data.toList.drop at_)).2.2=true→2≤(ou (s.data.toList.drop at_)).2.1:=fun h=>by
     have ex:ou (s.data.toList.drop at_)=((ou (s.data.toList.drop at_)).1,(ou (s.data.toList.drop at_)).2.1,true):=by rw[←h]
     obtain⟨g1,g2,_⟩:=RP ex;have:=RS _ g1;omega
    generalize ou (s.data.toList.drop at_)=q at *;obtain⟨x,c,ok⟩:=q;simp only at HD x1 x2 x3;have Wj:=af CO;have X1:=af x1;have HO:=af hown;have HB:=af hbw;have akG:(0:Int)≤(at_:Int):=by omega
    have akH:(at_:Int)≤(s.size:Int):=by omega
    unfold abl dV at Wj;clear CO x1 HC hbw hown;go_wp2_with fail;refine Wj.out.mono ?_;rintro e w2 ⟨rfl,hb2⟩;simp only;have hs2:=hb2.size;have hal:=(ah w2.heap.size w2).alloc (ak _) (.cells #[.int .i64 x.off,.int .i64 x.len,.string (fu x.data)] 191);have hbx:=gV.new w2 #[.int .i64 x.off,.int .i64 x.len,.string (fu x.data)] 191;have HB2:=af (HB.out.trans (hb2.mono hsz));have Wq:=af (HO.out.kept (iF hb2) (by cases u7.ownBlock<;>simp));clear Wj HB HO hb2;cases ok with
    |false =>
     have HR2:Hid (r=([],13)):=by show _=_;rw[HR.out,←HD.out];rfl
     have HE:Hid (qC r w1 (.returned (.tuple #[.slice none 0 0,.int .i64 13])) (w2.alloc (.cells #[.int .i64 x.off,.int .i64 x.len,.string (fu x.data)] 191))):=by rw[HR2.out];exact qC.nil (HB2.out.trans (hal.mono HB2.out.size))
     clear HD HR HR2 HB2 Wq hal hbx x3;go_wp2;go_ret2;exact HE.out
    |true =>
     have hc2:=x3 rfl;have HD2:Hid (Y2 s.data.toList (n-(k+1)) (at_+c) (l++[x]) R):=by show _=_;rw[←HD.out,if_pos rfl]
     have HB3:=(hTr HB2 hal);have HS2:Hid (∀y∈l++[x],Sml y):=fun y hy=>by
      rcases bq.1 hy with hy|hy
      ·exact HS.out y hy
      ·obtain rfl:y=x:=by simpa using hy
       exact X1.out
     have M9:=af (Wq.out.alloc (.cells #[.int .i64 x.off,.int .i64 x.len,.string (fu x.data)] 191));have hs3:w1.heap.size≤(w2.alloc (.cells #[.int .i64 x.off,.int .i64 x.len,.string (fu x.data)] 191)).heap.size:=HB3.out.size;have hac:at_+c≤s.size:=by omega
     clear HD HB2 Wq x3 HS HR;go_upto_region 10 with (fail);generalize w2.alloc (.cells #[.int .i64 x.off,.int .i64 x.len,.string (fu x.data)] 191)=w3 at *;generalize w2.heap.size=gx at *;have q0:w3.cell? ⟨gx,0,none⟩=some (.int .i64 x.off):=hbx.cl 0;have q1:w3.cell? ⟨gx,1,none⟩=some (.int .i64 x.len):=hbx.cl 1;have q2:w3.cell? ⟨gx,2,none⟩=some (.string (fu x.data)):=hbx.cl 2;clear hal hbx;go_wp2_with (at_builtin;go_must (refine iE _ rfl (.tmp 32) (.tmp 34) _ rfl w1.heap.size 191 i1 _ 3 32 underlying144 hi1 hy0 hy1 hy2 rfl fZ u7 l.length _ rfl (M9.out.alloc _) _ 1 1 [.int .i64 x.off,.int .i64 x.len,.string (fu x.data)] rfl rfl (gY _ _ _ _) (by simp[Value.oneCell']) fZ fZ (by simp;omega) ?_;intro v4 w4 iU jl rT))
     have Fv:Hid (w4.ownsRow w1.heap.size 191 3 v4 (l++[x]).length ((l++[x]).flatMap dC)):=by
      show World.ownsRow _ _ _ _ _ _ _;rw[P9,aj,aQ];exact iU
     have kY:=af ((HB3.out.alloc hs3 (.cells #[.int .i64 x.off,.int .i64 x.len,.string (fu x.data)] 191)).grown jl (by simp;omega) (fun g h=>(M9.out.lt g h).1));clear iU jl rT M9 HB3 q0 q1 q2;go_wp2;go_roundw
     case rel=>exact⟨k+1,at_+c,l++[x],by omega,hac,by rw[aj,aQ];omega,by go_num,by go_num,Fv.out,HD2,HS2,kY.out⟩
     case measure=>simp[intOf];omega
   ·have hkn:k=n:=by omega
    subst hkn;rw[Nat.sub_self]at HC;have HR1:Hid (r=if at_=s.size∧jA l 65536=0 then(l,0)else([],13)):=by
     show _=_;rw[HR.out,←show xU s.data.toList 0 at_ l=R from HC.out];show (if at_=s.data.toList.length∧jA l 65536=0 then(l,(0:Int))else([],13))=_;rw[HL.out]
    have HDl:=af (OJ hown);have CK:=af (xX wr HDl.out 65536 (abm HS.out));obtain⟨A,cc,rfl⟩:=iw hown;have HB:=af hbw;clear HR HC hbw hown HS;by_cases ha:at_=s.size
    ·have hab:((at_:Int) != (s.size:Int))=false:=by simp;omega
     have ae3:((at_:Int)==(s.size:Int))=true:=by simp;omega
     go_wp2_with fail;refine CK.out.mono ?_;rintro e w2 ⟨rfl,hb2⟩;by_cases hc:jA l 65536=0
     ·have hc1:(jA l 65536 != 0)=false:=by simpa using hc
      have hc2:(jA l 65536==0)=true:=by simpa using hc
      have HE:Hid (qC r w1 (.returned (.tuple #[.slice A l.length cc,.int .i64 0])) w2):=by
       show qC _ _ _ _;rw[HR1.out,if_pos ⟨ha,hc⟩];exact⟨_,rfl,HDl.out.keep (dO hb2),HB.out.trans (hb2.mono hsz)⟩
      generalize jA l 65536=z at *;clear HR1 HDl CK HB hb2 hc;go_wp2;go_ret2;exact HE.out
     ·have hc1:(jA l 65536 != 0)=true:=by simpa using hc
      have hc2:(jA l 65536==0)=false:=by simpa using hc
      have HE:Hid (qC r w1 (.returned (.tuple #[.slice none 0 0,.int .i64 13])) w2):=by
       show qC _ _ _ _;rw[HR1.out,if_neg (fun h=>hc h.2)];exact qC.nil (HB.out.trans (hb2.mono hsz))
      generalize jA l 65536=z at *;clear HR1 HDl CK HB hb2 hc;go_wp2;go_ret2;exact HE.out
    ·have hab:((at_:Int) != (s.size:Int))=true:=by simp;omega
     have ae3:((at_:Int)==(s.size:Int))=false:=by simp;omega
     have HE:Hid (qC r w1 (.returned (.tuple #[.slice none 0 0,.int .i64 13])) wr):=by
      show qC _ _ _ _;rw[HR1.out,if_neg (fun h=>ha h.1)];exact qC.nil HB.out
     clear HR1 HDl CK HB;go_wp2;go_ret2;exact HE.out
 ·have HR:Hid (qC r w (.returned (.tuple #[.slice none 0 0,.int .i64 13])) w):=by
   show qC _ _ _ _;rw[HX.out,if_pos he];exact qC.nil gD
  have hne:(e0 != 0)=true:=by simpa using he
  clear HX;go_enter func121,ntmps121;go_wp2_with fail;refine CI.out.mono ?_;rintro e w1 ⟨rfl,rfl⟩;go_wp2;go_ret2;exact HR.out
end Go.Proofs.YtichfhpgdhdiaaaGreat
namespace Go.Proofs.YtichfhpgdhdiaaaGreat
open Go.RowKit
theorem zT(w:World)(B b:Nat)(l:List UInt8)(n:Int)(h:sH B b l w)(hBw:B≤w.heap.size)(hl:l.length≤70368744177664):
  Calls prog 55 #[.int .i64 n,.pointer (some ⟨b,0,none⟩)] w fun e w'=>e=.returned (.tuple #[])∧qW B b (l++(jc n).1) w w':=by
 have CP:=af (tT n w);have hp:=kX n;generalize jc n=r at *;obtain⟨s,er⟩:=r;simp only at CP hp;have H:=af h;clear h;go_enter func55,ntmps55;go_wp2_with fail;refine CP.out.mono ?_;rintro e w1 ⟨rfl,hb1⟩;have hs1:=hb1.size;have CW:=af (qV B b l (fu s) w1 (H.out.below hb1) (by rw[gL];omega) fZ );have K1:=af hb1;clear CP hb1;go_wp2_with fail;refine CW.out.mono ?_;rintro e w2 ⟨rfl,hb2,hB2,Sg⟩;rw[iI]at hb2;have HE:qW B b (l++s) w w2:=⟨hb2,(K1.out.mono hBw).trans hB2,(oq (Lib.OthersKept.refl _ _ w) (ak _) K1.out).trans Sg⟩
 have qB:=af HE;clear HE hb2 hB2 Sg K1 CW H;go_wp2;exact bodyPost_end (results_none rfl _ _ _) rfl ⟨rfl,qB.out⟩
theorem LZ(w:World)(B b nb:Nat)(l:List UInt8)(s:List UInt8)(h:sH B b l w)(hBw:B≤w.heap.size)(hl:l.length≤70368744177660)(hs:s.length≤1099511627776)(hn:gV w nb 128 #[.func (.func 55) #[] #[.pointer (some ⟨b,0,none⟩)]]):
  Calls prog 58 #[.string (fu s),.pointer (some ⟨nb,0,none⟩),.pointer (some ⟨b,0,none⟩)] w fun e w'=>e=.returned (.tuple #[])∧qW B b (l++(gJ s.length++s)) w w':=by
 have CP:=zT w B b l (s.length:Int) h hBw fZ ;rw[oC fZ fZ ,aT]at CP;have CP:=af CP;have hdl:=ja s.length 5 fZ ;have hzs:(fu s).size=s.length:=gL s;have k0:=hn.cl 0;clear h hn;go_enter func58,ntmps58;go_wp2_with fail;refine CP.out.mono ?_;rintro e w1 ⟨rfl,he⟩;have HE1:=af he;have hs1:=he.jM.size;clear CP k0 he;have CW:=af (qV B b (l++gJ s.length) (fu s) w1 HE1.out.rQ (by rw[gL,aj];omega) fZ );go_wp2_with fail;refine CW.out.mono ?_;rintro e w2 ⟨rfl,hb2,hB2,Sg⟩;rw[iI,aA]at hb2
 have qB:Hid (qW B b (l++(gJ s.length++s)) w w2):=⟨hb2,HE1.out.jM.trans hB2,HE1.out.wT.trans Sg⟩;clear hb2 hB2 Sg CW HE1;go_wp2;exact bodyPost_end (results_none rfl _ _ _) rfl ⟨rfl,qB.out⟩
end Go.Proofs.YtichfhpgdhdiaaaGreat
