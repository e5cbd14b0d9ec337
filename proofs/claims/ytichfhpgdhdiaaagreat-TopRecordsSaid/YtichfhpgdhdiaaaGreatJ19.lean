/- journal -/
import Derived.Test.YtichfhpgdhdiaaaGreatJ18
import Derived.Test.YtichfhpgdhdiaaaGreatJ5
import Derived.Test.YtichfhpgdhdiaaaGreatJ3
import Derived.Test.YtichfhpgdhdiaaaGreatJ11
import Derived.Test.YtichfhpgdhdiaaaGreatJ7
set_option maxRecDepth 100000
set_option maxHeartbeats 8000000
set_option linter.unusedVariables false
set_option linter.unusedSimpArgs false
open Go.Proofs.Tryz
namespace Go.Proofs.YtichfhpgdhdiaaaGreat
open Go.RowKit
end Go.Proofs.YtichfhpgdhdiaaaGreat
namespace Go.Proofs.YtichfhpgdhdiaaaGreat
open Go.RowKit
theorem ZF{d:Dk}(h:(jk d).2=0):Valid d∧3≤d.secs.length∧((jk d).1.1=1∨(jk d).1.1=2)∧(jk d).1.2.2≤gZ d.secs.length:=by
 have hu:=(Xh h).1;by_cases hk:mF d=0
 ·obtain⟨hv,Jy⟩:=wP hk;refine⟨hv,Jy,?_,hu⟩;by_cases ha:xg d=1∨xg d=2
  ·rw[yD hk ha]at h ⊢;by_cases hb:(xN d).2=true
   ·rw[if_pos hb]at h;simp at h
   ·rw[if_neg hb];exact ha
  ·rw[yC hk ha]at h;simp at h
 ·rw[Bf hk]at h;exact absurd h hk
theorem Gy(l:List iX):(nW l).2=if rU l then 0 else 4:=by
 by_cases h:rU l
 ·rw[if_pos h];unfold nW;rw[if_neg (by rintro(h1|h1);have:=h.1;omega;exact h1 h.2)]
 ·rw[if_neg h];unfold nW;rw[if_pos];rcases aP 1000 l.length with h1|h1
  ·exact .inl h1
  ·exact .inr fun h2=>h ⟨h1,h2⟩
theorem QH(s:ByteArray):(⟨#[0]⟩:ByteArray)++s.extract 1 s.size=lJ s:=by
 apply OV;unfold lJ;rw[oI];show kH (fu [0]++_)=_;unfold kH;rw[ByteArray.data_append,Array.toList_append];show [0]++kH (s.extract 1 s.size)=_;rw[BS,aF (by rw[aC,Da];omega)];rfl
section
variable {P:Program}{ops:Array Oper}{Q:Exit→Go.Act→World→Prop}{md:Region.Mode}{S:World→Prop}{z:Nat}
theorem qN{i:Nat}{oi:Oper}{f:Nat}{listed:Array Bool}{a:Go.Act}{w:World}(hi:ops[i]?=some oi)(hr:Region.ready md ops listed = [i])(h:if Region.wanted oi (yielded ops a.tmps)=true then Oper.wp P oi a w (fun a' w'=>S w'∧kF P md ops Q S z f (listed.setIfInBounds i true) a' w') Q else False):kF P md ops Q S z (f+1) listed a w:=by
 by_cases hw:Region.wanted oi (yielded ops a.tmps)=true
 ·rw[if_pos hw]at h;exact kF.only hi hr hw fun K hK=>Oper.wp_mono (fun a' w' h'=>hK a' w' h'.1 h'.2) h
 ·rw[if_neg hw]at h;exact h.elim
end
theorem yE.SQ{w:World}{B b:Nat}{v:Value}{ops:List (Option ny)}(h:yE w B v ops)(hb:b≤B):yE w b v ops:=by
 obtain⟨vals,h1,h2,h3⟩:=h;refine⟨vals,⟨h1.1,?_⟩,h2,h3⟩;rcases h1.2 with h1|⟨g,cap,cur,h1,h2,h3⟩
 ·exact .inl h1
 ·exact .inr ⟨g,cap,cur,h1,by omega,h3⟩
theorem TV(w:World)(A:Option Addr)(c:Nat)(S:List ByteArray)(h:Strs w (.slice A S.length c) S)(a e sz B:Nat)(hB:B≤w.heap.size)(ha:a+S.length≤10000)(he:e≤10000)(hz:sz≤1000):
  Calls prog 48 #[.int .i64 a,.slice A S.length c,.int .i64 e,.int .i64 sz] w fun en w'=>∃v,en=.returned v∧yE w' B v ((o5 a S e sz).map some)∧Below w.heap.size w w' :=
 (TS w A c S h a e sz ha he hz).mono fun en w' ⟨v,e1,e2,e3⟩=>⟨v,e1,e2.SQ hB,e3⟩
theorem NT(a:Nat)(S:List ByteArray)(e sz:Nat):(o5 a S e sz).length≤S.length+1:=by
 unfold o5;rw[aj,IY];split<;>simp
end Go.Proofs.YtichfhpgdhdiaaaGreat
namespace Go.Proofs.YtichfhpgdhdiaaaGreat
open Go.RowKit
end Go.Proofs.YtichfhpgdhdiaaaGreat
namespace Go.Proofs.YtichfhpgdhdiaaaGreat
open Go.RowKit
theorem vY.agj{w:World}{l:List iX}{A:Option Addr}{c n:Nat}(h:vY w (.slice A n c) l){i:Nat}(hi:i<l.length):∃b off,A=some ⟨b,off,none⟩∧w.cell? ⟨b,off+i,none⟩=some (.string (fu l[i])):=by
 obtain⟨b,off,e,h1⟩:=Strs.get h (i:=i) (by rw[cZ];exact hi);rw[List.getElem_map]at h1;exact⟨b,off,e,h1⟩
theorem QL(n:Nat):qo n=jN n:=by
 unfold qo jN fu;simp
theorem Xp(n z:Nat):KG n z=zD n z:=by unfold KG zD;rw[QL]
end Go.Proofs.YtichfhpgdhdiaaaGreat
namespace Go.Proofs.YtichfhpgdhdiaaaGreat
open Go.RowKit
def Xq(w:World)(us:List Value)(x:uw):Prop:=∃vr vp,us = [.int .i64 x.kind,vr,.int .i64 x.left,vp]∧vY w vr x.recs∧Ints w vp x.ps∧(-9223372036854775808≤x.kind∧x.kind≤9223372036854775807)∧(-9223372036854775808≤x.left∧x.left≤9223372036854775807)
theorem Xq.keep{w w':World}{us:List Value}{x:uw}(h:Xq w us x)(k:Keeps w w'):Xq w' us x:=by
 obtain⟨vr,vp,e,h1,h2,h3⟩:=h;exact⟨vr,vp,e,h1.keep k,h2.keep k,h3⟩
def NW(w:World)(v:Value)(l:List uw):Prop:=Sl w 4 (Xq w) v l
theorem NW.keep{w w':World}{v:Value}{l:List uw}(h:NW w v l)(k:Keeps w w'):NW w' v l:=Sl.keep h k fun _ _ h=>h.keep k
theorem NW.form{w:World}{v:Value}{xs:List uw}(h:NW w v xs):∃A c,v=.slice A xs.length c∧xs.length≤c∧c≤9223372036854775807:=Sl.form h
structure Xr(w:World)(rA:Option Addr)(rc:Nat)(iA:Option Addr)(ic:Nat)(a:uw):Prop where
 recs:vY w (.slice rA a.recs.length rc) a.recs
 ps:Ints w (.slice iA a.ps.length ic) a.ps
 k0 : -9223372036854775808≤a.kind
 k1:a.kind≤9223372036854775807
 l0 : -9223372036854775808≤a.left
 l1:a.left≤9223372036854775807
theorem Xr.keep{w w':World}{rA iA:Option Addr}{rc ic:Nat}{a:uw}(h:Xr w rA rc iA ic a)(k:Keeps w w'):Xr w' rA rc iA ic a:=⟨h.recs.keep k,h.ps.keep k,h.k0,h.k1,h.l0,h.l1⟩
theorem NW.get{w:World}{l:List uw}{A:Option Addr}{c n:Nat}(h:NW w (.slice A n c) l){i:Nat}(hi:i<l.length):
  ∃b off rA rc iA ic,A=some ⟨b,off,none⟩∧w.cell? ⟨b,off+i*4,none⟩=some (.int .i64 l[i].kind)∧w.cell? ⟨b,off+i*4+1,none⟩=some (.slice rA l[i].recs.length rc)∧w.cell? ⟨b,off+i*4+2,none⟩=some (.int .i64 l[i].left)∧w.cell? ⟨b,off+i*4+3,none⟩=some (.slice iA l[i].ps.length ic)∧Xr w rA rc iA ic l[i]:=by
 obtain⟨b,off,us,e,⟨vr,vp,rfl,h1,h2,⟨h3,h4⟩,h5,h6⟩,_,hc⟩:=Sl.get h (au hi) fZ ;obtain⟨rA,rc,rfl,_,_⟩:=vY.form h1;obtain⟨iA,ic,rfl,_,_⟩:=h2.form;exact⟨b,off,rA,rc,iA,ic,e,hc 0 _ rfl,hc 1 _ rfl,hc 2 _ rfl,hc 3 _ rfl,h1,h2,h3,h4,h5,h6⟩
theorem Var.zero(w:World):Var (w.alloc (.cells #[.int .i64 0,.slice none 0 0,.slice none 0 0,.int .i64 0] 56)) w.heap.size none 0 none 0 iL:=Var.new (A:=none) (c:=0) (P:=none) (cp:=0) (d:=iL) (kU w)
end Go.Proofs.YtichfhpgdhdiaaaGreat
namespace Go.Proofs.YtichfhpgdhdiaaaGreat
open Go.RowKit
end Go.Proofs.YtichfhpgdhdiaaaGreat
namespace Go.Proofs.YtichfhpgdhdiaaaGreat
open Go.RowKit
end Go.Proofs.YtichfhpgdhdiaaaGreat
namespace Go.Proofs.YtichfhpgdhdiaaaGreat
open Go.RowKit
end Go.Proofs.YtichfhpgdhdiaaaGreat
namespace Go.Proofs.YtichfhpgdhdiaaaGreat
open Go.RowKit
theorem Bj(w:World)(t:TypeId)(sz:Nat):(w.alloc (.cells #[] t)).ownsRow w.heap.size t sz (.slice (some ⟨w.heap.size,0,none⟩) 0 0) 0 [] :=
 ⟨by simp,.inr ⟨w.heap.size,0,#[],rfl,ak _,gV.new w #[] t,ak _,by unfold maxLen;omega,by simp,by simp⟩⟩
end Go.Proofs.YtichfhpgdhdiaaaGreat
