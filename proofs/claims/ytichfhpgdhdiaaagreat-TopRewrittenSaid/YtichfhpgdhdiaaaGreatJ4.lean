/- Plain -/
import Derived.Test.YtichfhpgdhdiaaaGreatJ3
import Derived.Test.YtichfhpgdhdiaaaGreatJ2
set_option maxRecDepth 100000
set_option maxHeartbeats 8000000
set_option linter.unusedVariables false
set_option linter.unusedSimpArgs false
namespace Go.Proofs.YtichfhpgdhdiaaaGreat
theorem BG:∀(m n:Nat) (f:Nat→Nat),(∀i,i<n→f i<m)→(∀i j,i<n→j<n→f i=f j→i=j)→n≤m
 |0,n,f,h,_=>by
  rcases fQ n with h1|h1
  ·omega
  ·have:=h 0 h1;omega
 |m+1,n,f,h,hi=>by
  by_cases hx:∃i0,i0<n∧f i0=m
  ·obtain⟨i0,h0,he⟩:=hx;have:=BG m (n-1) (fun j=>if j<i0 then f j else f (j+1)) (fun i h1=>by
    show (if i<i0 then f i else f (i+1))<m;split
    ·rename_i h2
     have h3:=h i fZ ;have h4:f i≠m:=fun e=>by have:=hi i i0 fZ h0 (e.trans he.symm);omega
     omega
    ·rename_i h2
     have h3:=h (i+1) fZ ;have h4:f (i+1)≠m:=fun e=>by have:=hi (i+1) i0 fZ h0 (e.trans he.symm);omega
     omega) (fun i j h1 h2 e=>by
    have e:(if i<i0 then f i else f (i+1))=(if j<i0 then f j else f (j+1)):=e;split at e<;>split at e
    ·exact hi i j fZ fZ e
    ·have:=hi i (j+1) fZ fZ e;omega
    ·have:=hi (i+1) j fZ fZ e;omega
    ·have:=hi (i+1) (j+1) fZ fZ e;omega)
   omega
  ·have:=BG m n f (fun i h1=>by
    have h2:=h i h1;have h3:f i≠m:=fun e=>hx ⟨i,h1,e⟩
    omega) hi
   omega
theorem tH.few{ns:List Nd}{es:List Ed}{own:Nat→Nat}{A:lu}(h:tH ns es own A):es.length≤ns.length*256:=by
 refine BG _ _ (fun e=>own e*256+((es[e]?.map fun x=>x.letter.toNat).getD 0)) (fun e he=>?_) (fun e e' he he' hh=>?_)
 ·have hx:=au he;have h1:=(h.next e _ hx).1;have h2:(es[e]).letter.toNat<256:=(es[e]).letter.toNat_lt;simp only[hx,Option.map_some,dh];omega
 ·have hx:=au he;have hx':=au he';have h2:(es[e]).letter.toNat<256:=(es[e]).letter.toNat_lt;have h3:(es[e']).letter.toNat<256:=(es[e']).letter.toNat_lt;simp only[hx,hx',Option.map_some,dh]at hh;exact h.one e e' _ _ hx hx' fZ (UInt8.toNat_inj.1 fZ )
end Go.Proofs.YtichfhpgdhdiaaaGreat
namespace Go.Proofs.YtichfhpgdhdiaaaGreat
section
variable {A:lu}{L:Nat→List UInt8}{t:List UInt8}{last whole:Nat}{c:UInt8}
theorem lu.Inv.same(h:A.Inv L t last){v u:Nat}{T:List UInt8}(hv:A.V v)(hu:A.V u)(h1:L v <:+ T)(h2:L u <:+ T)(hl:A.len v=A.len u):v=u:=by
 have e:L v=L u:=RD (l8 h1 h2 (by rw[h.len v hv,h.len u hu];omega)) (by rw[h.len v hv,h.len u hu];omega);have:=h.self hv;rw[e]at this;exact h.one v u _ this (h.self hu)
theorem lu.Inv.Rw(h:A.Inv L t last):A.len 0=0:=by rw[←h.len 0 h.pos,h.root.1];rfl
theorem lu.Inv.Ik(h:A.Inv L t last){v:Nat}(hv:A.V v):A.len v≤t.length:=by
 obtain⟨e,he,hs⟩:=h.Rh (h.self hv);have:=hs.length_le;rw[h.len v hv,aH]at this;omega
theorem lu.Inv.Zn(h:A.Inv L t last){v u:Nat}(hv:A.V v)(hu:A.link v=some u):A.V u∧A.len u<A.len v∧L u <:+ L v:=by
 by_cases h0:v=0
 ·subst h0;rw[h.root.2]at hu;cases hu
 ·obtain⟨u',h5,h6⟩:=h.link v hv h0;rw[h5]at hu;cases hu;exact h6
theorem lu.Inv.Qx(h:A.Inv L t last){v:Nat}(hv:A.V v)(hu:A.link v=none):v=0:=by
 by_cases h0:v=0
 ·exact h0
 ·obtain⟨u',h5,h6⟩:=h.link v hv h0;rw[hu]at h5;cases h5
def OQ(A:lu)(L:Nat→List UInt8)(T:List UInt8)(p:Option Nat)(b:Nat):Prop :=
 match p with
 |none=>b=0
 |some p=>A.V p∧L p <:+ T∧b=A.len p+1
theorem lu.Inv.chain(h:A.Inv L t last){T:List UInt8}{p b:Nat}(hp:OQ A L T (some p) b):∃b',OQ A L T (A.link p) b'∧b'≤A.len p∧b=A.len p+1∧∀v,A.V v→L v <:+ T→b'≤A.len v→A.len v<b→v=p:=by
 obtain⟨vp,hT,rfl⟩:=hp;cases hl:A.link p with
 |none =>
  have:=h.Qx vp hl;subst this;refine⟨0,rfl,by omega,rfl,fun v hv h1 _ h2=>?_⟩;exact h.same hv vp h1 hT (by rw[h.Rw]at h2 ⊢;omega)
 |some u =>
  obtain⟨vu,hlt,hs⟩:=h.Zn vp hl;refine⟨A.len u+1,⟨vu,hs.trans hT,rfl⟩,by omega,rfl,fun v hv h1 h2 h3=>?_⟩;rcases aP (A.len v) (A.len p)with h4|h4
  ·have:=h.gap vp hl hv hT h1 h4;omega
  ·exact h.same hv vp h1 hT fZ
structure Path(A:lu)(L:Nat→List UInt8)(t:List UInt8)(c:UInt8)(whole:Nat)(p:Option Nat)(b:Nat)(B:lu):Prop where
 pos:OQ A L t p b
 V:∀v,B.V v↔A.V v∨v=whole
 len:B.len=upd A.len whole (t.length+1)
 link:B.link=upd A.link whole (some 0)
 fin:B.fin=upd A.fin whole (t.length+1)
 go0:∀x,B.go whole x=none
 go1:∀v,A.V v→L v <:+ t→b≤A.len v→A.go v c=none∧B.go v c=some whole
 Nz:∀v x,A.V v→¬(x=c∧L v <:+ t∧b≤A.len v)→B.go v x=A.go v x
theorem JX(h:A.Inv L t last)(hf:¬A.V whole):Path A L t c whole (some last) (t.length+1) (A.node whole (t.length+1) (some 0) (t.length+1)):=by
 have hll:A.len last=t.length:=by rw[←h.len last h.last.1,h.last.2]
 refine⟨⟨h.last.1,by rw[h.last.2];exact List.suffix_refl _,by rw[hll]⟩,fun v=>Iff.rfl,rfl,rfl,rfl,fun x=>if_pos rfl,fun v hv _ hb=>?_,fun v x hv _=>if_neg (c:=v=whole) fun e=>hf (e▸hv)⟩;have:=h.Ik hv;omega
theorem Path.zB{p b:Nat}{B:lu}(P:Path A L t c whole (some p) b B)(x:UInt8):B.go p x=A.go p x:=by
 obtain⟨vp,_,hb⟩:=P.pos;exact P.Nz p x vp fun⟨_,_,h⟩=>by omega
theorem Path.next(h:A.Inv L t last)(hf:¬A.V whole){p b:Nat}{B:lu}(P:Path A L t c whole (some p) b B)(hg:B.go p c=none):∃b',b'<b∧Path A L t c whole (B.link p) b' (B.Tn p c whole):=by
 obtain⟨b',h1,h2,h3,h4⟩:=h.chain P.pos;obtain⟨vp,hpt,_⟩:=P.pos;have hpw:p≠whole:=fun e=>hf (e▸vp)
 have hlk:B.link p=A.link p:=by rw[P.link];exact upd_ne _ _ hpw
 refine⟨b',by omega,by rw[hlk];exact h1,P.V,P.len,P.link,P.fin,fun x=>?_,fun v hv hs hb=>?_,fun v x hv hn=>?_⟩
 ·exact(if_neg fun e=>hpw e.1.symm).trans (P.go0 x)
 ·by_cases e:v=p
  ·subst e;exact⟨by rw[←P.zB];exact hg,if_pos ⟨rfl,rfl⟩⟩
  ·obtain⟨h5,h6⟩:=P.go1 v hv hs (by
    rcases aP (A.len v) b with hh|hh
    ·exact absurd (h4 v hv hs hb hh) e
    ·exact hh)
   exact⟨h5,(if_neg fun e'=>e e'.1).trans h6⟩
 ·have e1:¬(v=p∧x=c):=by
   rintro⟨rfl,rfl⟩;exact hn ⟨rfl,hpt,h2⟩
  exact(if_neg e1).trans (P.Nz v x hv fun⟨h5,h6,h7⟩=>hn ⟨h5,h6,by omega⟩)
theorem Path.DN(h:A.Inv L t last)(hf:¬A.V whole){b:Nat}{B:lu}(P:Path A L t c whole none b B):
  B.Eqv (A.ext t whole 0 B.go)∧(A.ext t whole 0 B.go).Inv (upd L whole (t++[c])) (t++[c]) whole:=by
 have hb:b=0:=P.pos;subst hb;refine⟨⟨P.V,fun v _=>by rw[P.len];rfl,fun v _=>by rw[P.link];rfl,fun v _=>by rw[P.fin];rfl,fun _ _ _=>rfl⟩,?_⟩;refine h.ext hf h.pos (by rw[h.root.1];exact List.nil_suffix) (h.VS fun v hv hs=>(P.go1 v hv hs (Nat.zero_le _)).1) (fun v hv hs _=>(P.go1 v hv hs (Nat.zero_le _)).2) (fun v x hv hn=>P.Nz v x hv fun⟨h5,h6,h7⟩=>hn ⟨h5,h6,by rw[h.Rw];exact Nat.zero_le _⟩) P.go0
theorem Path.Ij(h:A.Inv L t last){p q b:Nat}{B:lu}(P:Path A L t c whole (some p) b B)(hg:B.go p c=some q):A.V q∧A.len p+1≤A.len q:=by
 rw[P.zB]at hg;obtain⟨vp,_,_⟩:=P.pos;obtain⟨vq,_,hs⟩:=h.step p c q vp hg;have:=h.vX (hs _ (h.self vp));rw[aj,h.len p vp,aQ]at this;exact⟨vq,this⟩
theorem Path.zh(h:A.Inv L t last)(hf:¬A.V whole){p q b:Nat}{B:lu}(P:Path A L t c whole (some p) b B)(hg:B.go p c=some q)(hl:A.len q≤A.len p+1):
  (B.rW whole (some q)).Eqv (A.ext t whole q B.go)∧(A.ext t whole q B.go).Inv (upd L whole (t++[c])) (t++[c]) whole:=by
 obtain⟨vq,hge⟩:=P.Ij h hg;have hg':A.go p c=some q:=by rw[←P.zB];exact hg
 obtain⟨vp,hpt,hb⟩:=P.pos;have hlq:A.len q=A.len p+1:=by omega
 subst hb;obtain⟨_,_,h3,h4⟩:=h.OB vp hpt hg' hlq fun v hv hs hh=>(P.go1 v hv hs fZ ).1
 refine⟨⟨P.V,fun v _=>by show B.len v=_;rw[P.len];rfl,fun v _=>?_,fun v _=>by show B.fin v=_;rw[P.fin];rfl,fun _ _ _=>rfl⟩,?_⟩
 ·show upd B.link whole (some q) v=upd A.link whole (some q) v;by_cases e:v=whole
  ·subst e;rw[upd_same,upd_same]
  ·rw[upd_ne _ _ e,upd_ne _ _ e,P.link,upd_ne _ _ e]
 ·exact h.ext hf vq h3 h4 (fun v hv hs hh=>(P.go1 v hv hs fZ ).2) (fun v x hv hn=>P.Nz v x hv fun⟨h5,h6,h7⟩=>hn ⟨h5,h6,by omega⟩) P.go0
structure Copy(es:List Ed)(own:Nat→Nat)(B:lu)(q part:Nat)(e:Option Nat)(C:lu):Prop where
 k:∃k,k≤es.length∧e=lT own q k∧(∀j y,k≤j→es[j]?=some y→own j=q→C.go part y.letter=some y.tto)∧(∀x u,C.go part x=some u→∃j y,k≤j∧es[j]?=some y∧own j=q∧y.letter=x)
 go:∀v x,v≠part→C.go v x=B.go v x
 same:C.V=B.V∧C.len=B.len∧C.link=B.link∧C.fin=B.fin
theorem Kj{ns:List Nd}{es:List Ed}{own:Nat→Nat}{B:lu}{q l f:Nat}{lk:Option Nat}{x:Nd}(R:tH ns es own B)(hx:ns[q]?=some x):Copy es own (B.node ns.length l lk f) q ns.length x.edge (B.node ns.length l lk f):=by
 refine⟨⟨es.length,ak _,(R.node q x hx).2.2.2,fun j y h1 h2 _=>?_,fun x u hg=>?_⟩,fun v x hv=>rfl,rfl,rfl,rfl,rfl⟩
 ·have:=(ay.1 h2).1;omega
 ·have:(B.node ns.length l lk f).go ns.length x=none:=if_pos rfl;rw[this]at hg;cases hg
theorem Copy.next{ns:List Nd}{es:List Ed}{own:Nat→Nat}{B C:lu}{q part j:Nat}{y:Ed}{nx:Option Nat}(R:tH ns es own C)(K:Copy es own B q part (some j) C)(ML:q≠part)(hj:es[j]?=some y):
  C.go part y.letter=none∧Copy (es++[⟨y.letter,y.tto,nx⟩]) (upd own es.length part) B q part y.next (C.Tn part y.letter y.tto):=by
 obtain⟨⟨k,h1,h2,h3,h4⟩,hgo,hV⟩:=K;obtain⟨h5,h6,h7⟩:=mK h2.symm;have hn:C.go part y.letter=none:=by
  cases hg:C.go part y.letter with
  |none=>rfl
  |some u =>
   obtain⟨j',y',h8,h9,h10,h11⟩:=h4 _ _ hg;have:=R.one j' j y' y h9 hj (h10.trans h6.symm) h11;omega
 have ow:∀e,e<es.length→upd own es.length part e=own e:=fun e he=>upd_ne _ _ fZ
 have low:∀e z,(es++[(⟨y.letter,y.tto,nx⟩:Ed)])[e]?=some z→(e<es.length∧es[e]?=some z)∨(e=es.length∧z=⟨y.letter,y.tto,nx⟩):=fun e z hz=>by
  rcases eZ e es.length with h1|h1|h1
  ·rw[aY h1]at hz;exact .inl ⟨h1,hz⟩
  ·subst h1;rw[bD (ak _)]at hz;simp at hz;exact .inr ⟨rfl,hz.symm⟩
  ·rw[fE (by simp;omega)]at hz;cases hz
 refine⟨hn,⟨j,by simp;omega,?_,fun j' z h8 h9 h10=>?_,fun x u hg=>?_⟩,fun v x hv=>?_,hV⟩
 ·rw[(R.next j y hj).2.2,h6];exact ul fun i hi=>(ow i fZ ).symm
 ·rcases low j' z h9 with ⟨h11,h12⟩|⟨rfl,rfl⟩
  ·rw[ow j' h11]at h10;show (if part=part∧z.letter=y.letter then some y.tto else C.go part z.letter)=_;by_cases e:z.letter=y.letter
   ·have e1:=R.one j' j z y h12 hj (h10.trans h6.symm) e;subst e1;rw[hj]at h12;cases h12;exact if_pos ⟨rfl,rfl⟩
   ·rw[if_neg fun hh=>e hh.2];refine h3 j' z ?_ h12 h10;rcases aP j' k with h13|h13
    ·rcases aP j j' with h14|h14
     ·exact absurd h10 (h7 j' h14 h13)
     ·have e1:j'=j:=by omega
      subst e1;rw[hj]at h12;cases h12;exact absurd rfl e
    ·exact h13
  ·rw[upd_same]at h10;exact absurd h10.symm ML
 ·have hg':(if part=part∧x=y.letter then some y.tto else C.go part x)=some u:=hg;by_cases e:x=y.letter
  ·subst e;exact⟨j,y,ak _,by rw[aY fZ ];exact hj,by rw[ow j fZ ];exact h6,rfl⟩
  ·rw[if_neg fun hh=>e hh.2]at hg';obtain⟨j',y',h8,h9,h10,h11⟩:=h4 _ _ hg';have hlt:=(ay.1 h9).1;exact⟨j',y',by omega,by rw[aY hlt];exact h9,by rw[ow j' hlt];exact h10,h11⟩
 ·exact(if_neg fun hh=>hv hh.1).trans (hgo v x hv)
theorem Copy.fin{ns:List Nd}{es:List Ed}{own:Nat→Nat}{B C:lu}{q part:Nat}(R:tH ns es own C)(K:Copy es own B q part none C)(hq:q<ns.length)(ML:q≠part):∀x,C.go part x=B.go q x:=fun x=>by
 obtain⟨⟨k,h1,h2,h3,h4⟩,hgo,hV⟩:=K;rw[←hgo q x ML];have far:=vE h2.symm;cases hg:C.go q x with
 |none =>
  cases hp:C.go part x with
  |none=>rfl
  |some u =>
   obtain⟨j,y,h5,h6,h7,h8⟩:=h4 _ _ hp;have:=R.go1 j y h6;rw[h7,h8,hg]at this;cases this
 |some u =>
  obtain⟨j,y,h5,h6,h7,h8⟩:=R.Nz q x u hq hg;rcases aP j k with h9|h9
  ·exact absurd h6 (far j h9)
  ·rw[←h7,h3 j y h9 h5 h6,h8]
structure Turn(A:lu)(L:Nat→List UInt8)(t:List UInt8)(c:UInt8)(whole p q part:Nat)(B:lu)(p':Option Nat)(b:Nat)(D:lu):Prop where
 pos:OQ A L (L p) p' b
 low:b≤A.len p+1
 V:∀v,D.V v↔(A.V v∨v=whole)∨v=part
 len:D.len=upd (upd A.len whole (t.length+1)) part (A.len p+1)
 link:D.link=upd (upd (upd A.link whole (some 0)) part (A.link q)) q (some part)
 fin:D.fin=upd (upd A.fin whole (t.length+1)) part (A.fin q)
 go0:∀x,D.go whole x=none
 goP:∀x,D.go part x=B.go q x
 go:∀v x,A.V v→D.go v x=if x=c∧A.go v c=some q∧b≤A.len v∧A.len v≤A.len p then some part else B.go v x
theorem Kk{p q part b:Nat}{B C:lu}(h:A.Inv L t last)(hf:¬A.V whole)(hfp:¬A.V part)(hwp:whole≠part)(P:Path A L t c whole (some p) b B)(hg:B.go p c=some q)(hs:C.V=(B.node part (A.len p+1) (B.link q) (B.fin q)).V∧C.len=(B.node part (A.len p+1) (B.link q) (B.fin q)).len∧C.link=(B.node part (A.len p+1) (B.link q) (B.fin q)).link∧C.fin=(B.node part (A.len p+1) (B.link q) (B.fin q)).fin)(hgo:∀v x,v≠part→C.go v x=(B.node part (A.len p+1) (B.link q) (B.fin q)).go v x)(hgp:∀x,C.go part x=(B.node part (A.len p+1) (B.link q) (B.fin q)).go q x):
  Turn A L t c whole p q part B (some p) (A.len p+1) (C.rW q (some part)):=by
 obtain⟨vq,hge⟩:=P.Ij h hg;obtain⟨vp,hpt,hb⟩:=P.pos;have ML:q≠part:=fun e=>hfp (e▸vq)
 have hqw:q≠whole:=fun e=>hf (e▸vq)
 obtain⟨s1,s2,s3,s4⟩:=hs;have nd:∀v x,v≠part→(B.node part (A.len p+1) (B.link q) (B.fin q)).go v x=B.go v x:=fun v x hv=>if_neg hv
 refine⟨⟨vp,List.suffix_refl _,rfl⟩,ak _,fun v=>?_,?_,?_,?_,fun x=>?_,fun x=>?_,fun v x hv=>?_⟩
 ·show C.V v↔_;rw[s1];show B.V v∨v=part↔_;rw[P.V v]
 ·show C.len=_;rw[s2];show upd B.len part _=_;rw[P.len]
 ·show upd C.link q _=_;rw[s3];show upd (upd B.link part (B.link q)) q _=_;rw[P.link,upd_ne _ _ hqw]
 ·show C.fin=_;rw[s4];show upd B.fin part (B.fin q)=_;rw[P.fin,upd_ne _ _ hqw]
 ·show C.go whole x=none;rw[hgo _ _ hwp,nd _ _ hwp];exact P.go0 x
 ·show C.go part x=_;rw[hgp,nd _ _ ML]
 ·show C.go v x=_;have hvp:v≠part:=fun e=>hfp (e▸hv)
  rw[hgo _ _ hvp,nd _ _ hvp,if_neg];rintro⟨_,_,h1,h2⟩;omega
section
variable {p q part b0:Nat}{B:lu}
theorem Turn.zB{p' b:Nat}{D:lu}(P:Path A L t c whole (some p) b0 B)(T:Turn A L t c whole p q part B (some p') b D):D.go p' c=A.go p' c:=by
 obtain⟨vp,_,hb⟩:=T.pos;have hl:=T.low;obtain⟨_,_,hb0⟩:=P.pos;rw[T.go p' c vp,if_neg (fun⟨_,_,h1,_⟩=>by omega)];exact P.Nz p' c vp fun⟨_,_,h⟩=>by omega
theorem lu.Inv.under(h:A.Inv L t last){v:Nat}(hv:A.V v)(hp:A.V p)(h1:A.go v c=some q)(h2:A.go p c=some q)(hl:A.len v≤A.len p):L v <:+ L p:=by
 obtain⟨_,_,s1⟩:=h.step v c q hv h1;obtain⟨_,_,s2⟩:=h.step p c q hp h2;have:=l8 (s1 _ (h.self hv)).2.1 (s2 _ (h.self hp)).2.1 (by simp[h.len v hv,h.len p hp];omega);exact(lD this).2
theorem Turn.next(h:A.Inv L t last)(hf:¬A.V whole)(hfp:¬A.V part)(P:Path A L t c whole (some p) b0 B)(hg:B.go p c=some q){p' b:Nat}{D:lu}(T:Turn A L t c whole p q part B (some p') b D)(hd:D.go p' c=some q):
  ∃b',b'<b∧Turn A L t c whole p q part B (D.link p') b' (D.Tn p' c part):=by
 obtain⟨b',h1,h2,h3,h4⟩:=h.chain T.pos;have hd':=hd;rw[T.zB P]at hd';rw[P.zB]at hg;obtain⟨Dy,hs',_⟩:=T.pos;obtain⟨vp,_,_⟩:=P.pos;have hl:=T.low;have vq:=(h.step p' c q Dy hd').1;have hlq:=h.vX ((h.step p c q vp hg).2.2 _ (h.self vp));rw[aj,h.len p vp,aQ]at hlq;have n1:p'≠whole:=fun e=>hf (e▸Dy)
 have n2:p'≠part:=fun e=>hfp (e▸Dy)
 have n3:p'≠q:=fun e=>by subst e;omega
 have hlk:D.link p'=A.link p':=by rw[T.link,upd_ne _ _ n3,upd_ne _ _ n2,upd_ne _ _ n1]
 refine⟨b',by omega,by rw[hlk];exact h1,by omega,T.V,T.len,T.link,T.fin,fun x=>?_,fun x=>?_,fun v x hv=>?_⟩
 ·exact(if_neg fun e=>n1 e.1.symm).trans (T.go0 x)
 ·exact(if_neg fun e=>n2 e.1.symm).trans (T.goP x)
 ·show (if v=p'∧x=c then some part else D.go v x)=_;by_cases e:v=p'∧x=c
  ·obtain⟨rfl,rfl⟩:=e;rw[if_pos ⟨rfl,rfl⟩,if_pos ⟨rfl,hd',h2,by omega⟩]
  ·rw[if_neg e,T.go v x hv];by_cases k:x=c∧A.go v c=some q∧b'≤A.len v∧A.len v≤A.len p
   ·rw[if_pos k];obtain⟨k1,k2,k3,k4⟩:=k;refine if_pos ⟨k1,k2,?_,k4⟩;rcases aP (A.len v) b with hh|hh
    ·exact absurd ⟨h4 v hv (h.under hv vp k2 hg k4) k3 hh,k1⟩ e
    ·exact hh
   ·rw[if_neg k,if_neg fun⟨k1,k2,k3,k4⟩=>k ⟨k1,k2,by omega,k4⟩]
def Turned(A:lu)(c:UInt8)(p q part:Nat)(B D:lu):Prop:=∀v x,A.V v→D.go v x=if x=c∧A.go v c=some q∧A.len v≤A.len p then some part else B.go v x
theorem Turn.DN{b:Nat}{D:lu}(T:Turn A L t c whole p q part B none b D):Turned A c p q part B D:=fun v x hv=>by
 have hb:b=0:=T.pos;subst hb;rw[T.go v x hv];simp
theorem Turn.zh(h:A.Inv L t last)(P:Path A L t c whole (some p) b0 B)(hg:B.go p c=some q){p' b:Nat}{D:lu}(T:Turn A L t c whole p q part B (some p') b D)(hd:D.go p' c≠some q):Turned A c p q part B D:=fun v x hv=>by
 rw[T.zB P]at hd;rw[P.zB]at hg;rw[T.go v x hv];by_cases k:x=c∧A.go v c=some q∧A.len v≤A.len p
 ·rw[if_pos k];obtain⟨k1,k2,k3⟩:=k;refine if_pos ⟨k1,k2,?_,k3⟩;obtain⟨Dy,hs',hb⟩:=T.pos;obtain⟨vp,_,_⟩:=P.pos;rcases aP (A.len v) b with hh|hh
  ·exfalso;have hu:=h.under hv vp k2 hg k3;have c1:=(h.step v c q hv k2).2.2 _ (h.self hv);have c2:=(h.step p c q vp hg).2.2 _ (h.self vp);have hv':L v <:+ L p':=l8 hu hs' (by rw[h.len v hv,h.len p' Dy];omega);have c3:A.tO L q (L p'++[c]):=by
    refine c1.mid c2 ?_ (yQ c hs');simp[h.len v hv,h.len p' Dy];omega
   obtain⟨u,hu'⟩:=h.all p' c (L p') (h.self Dy) (h.Rh c3);have:=h.one u q _ ((h.step p' c u Dy hu').2.2 _ (h.self Dy)) c3;subst this;exact hd hu'
  ·exact hh
 ·rw[if_neg k,if_neg fun⟨k1,k2,_,k4⟩=>k ⟨k1,k2,k4⟩]
theorem Turn.fin'(h:A.Inv L t last)(hf:¬A.V whole)(hfp:¬A.V part)(hwp:whole≠part)(P:Path A L t c whole (some p) b0 B)(hg:B.go p c=some q)(hl:A.len p+1<A.len q){p':Option Nat}{b:Nat}{D:lu}(T:Turn A L t c whole p q part B p' b D)(hD:Turned A c p q part B D):
  (D.rW whole (some part)).Eqv ((A.split p q part c).ext t whole part D.go)∧((A.split p q part c).ext t whole part D.go).Inv (upd (r9 L p part c) whole (t++[c])) (t++[c]) whole:=by
 have hg':A.go p c=some q:=by rw[←P.zB];exact hg
 obtain⟨vp,hpt,hb⟩:=P.pos;subst hb;have vq:=(h.step p c q vp hg').1;have hS:=h.split vp hg' hl hfp
 have ML:q≠part:=fun e=>hfp (e▸vq)
 have hqw:q≠whole:=fun e=>hf (e▸vq)
 have hfs:¬(A.split p q part c).V whole:=fun e=>e.elim hf hwp
 have lp:(A.split p q part c).len part=A.len p+1:=upd_same _ _ _;have Lp:r9 L p part c part=L p++[c]:=upd_same _ _ _;have lv:∀v,A.V v→(A.split p q part c).len v=A.len v:=fun v hv=>upd_ne _ _ fun e=>hfp (e▸hv)
 have Lv:∀v,A.V v→r9 L p part c v=L v:=fun v hv=>upd_ne _ _ fun e=>hfp (e▸hv)
 have gp:∀x,(A.split p q part c).go part x=A.go q x:=fun x=>if_pos rfl
 have gv:∀v x,A.V v→(A.split p q part c).go v x=if x=c∧A.go v c=some q∧A.len v≤A.len p then some part else A.go v x:=fun v x hv=>if_neg (c:=v=part) fun e=>hfp (e▸hv)
 have cq:=(h.step p c q vp hg').2.2 _ (h.self vp);have up:L p++[c] <:+ t→L q <:+ t:=fun hs=>h.yR cq hs
 have gpp:(A.split p q part c).go p c=some part:=by rw[gv p c vp,if_pos ⟨rfl,hg',ak _⟩]
 obtain⟨v1,v2,v3,v4⟩:=hS.OB (c:=c) (p:=p) (q:=part) (.inl vp) (by rw[Lv p vp];exact hpt) gpp (by rw[lp,lv p vp]) (fun v hv hs hh=>by
  rcases hv with hv|rfl
  ·rw[Lv v hv]at hs;rw[lv p vp,lv v hv]at hh;have:=(P.go1 v hv hs fZ ).1;rw[gv v c hv,this];simp
  ·rw[Lp]at hs;rw[gp];exact(P.go1 q vq (up hs) fZ ).1)
 refine⟨⟨fun v=>?_,fun v hv=>?_,fun v hv=>?_,fun v hv=>?_,fun _ _ _=>rfl⟩,hS.ext hfs v1 v3 v4 (fun v hv hs hh=>?_) (fun v x hv hn=>?_) T.go0⟩
 ·show D.V v↔(A.V v∨v=part)∨v=whole;rw[T.V v];constructor
  ·rintro((h1|h1)|h1)
   ·exact .inl (.inl h1)
   ·exact .inr h1
   ·exact .inl (.inr h1)
  ·rintro((h1|h1)|h1)
   ·exact .inl (.inl h1)
   ·exact .inr h1
   ·exact .inl (.inr h1)
 ·show D.len v=upd (upd A.len part (A.len p+1)) whole (t.length+1) v;rw[T.len];by_cases e1:v=part
  ·subst e1;rw[upd_same,upd_ne _ _ hwp.symm,upd_same]
  ·rw[upd_ne _ _ e1];by_cases e2:v=whole
   ·subst e2;rw[upd_same,upd_same]
   ·rw[upd_ne _ _ e2,upd_ne _ _ e2,upd_ne _ _ e1]
 ·show upd D.link whole (some part) v=upd (upd (upd A.link part (A.link q)) q (some part)) whole (some part) v;by_cases e2:v=whole
  ·subst e2;rw[upd_same,upd_same]
  ·rw[upd_ne _ _ e2,upd_ne _ _ e2,T.link];by_cases e3:v=q
   ·subst e3;rw[upd_same,upd_same]
   ·rw[upd_ne _ _ e3,upd_ne _ _ e3];by_cases e1:v=part
    ·subst e1;rw[upd_same,upd_same]
    ·rw[upd_ne _ _ e1,upd_ne _ _ e1,upd_ne _ _ e2]
 ·show D.fin v=upd (upd A.fin part (A.fin q)) whole (t.length+1) v;rw[T.fin];by_cases e1:v=part
  ·subst e1;rw[upd_same,upd_ne _ _ hwp.symm,upd_same]
  ·rw[upd_ne _ _ e1];by_cases e2:v=whole
   ·subst e2;rw[upd_same,upd_same]
   ·rw[upd_ne _ _ e2,upd_ne _ _ e2,upd_ne _ _ e1]
 ·rw[lp]at hh;rcases hv with hv|rfl
  ·rw[Lv v hv]at hs;rw[lv v hv]at hh;obtain⟨k1,k2⟩:=P.go1 v hv hs hh;rw[hD v c hv,k1,if_neg (fun⟨_,k3,_⟩=>(by cases k3))];exact k2
  ·rw[Lp]at hs;rw[T.goP];exact(P.go1 q vq (up hs) fZ ).2
 ·rw[lp]at hn;rcases hv with hv|rfl
  ·rw[Lv v hv,lv v hv]at hn;rw[hD v x hv,gv v x hv,P.Nz v x hv hn]
  ·rw[Lp,lp]at hn;rw[T.goP,gp];exact P.Nz q x vq fun⟨k1,k2,_⟩=>hn ⟨k1,cq.2.1.trans k2,ak _⟩
end
end
end Go.Proofs.YtichfhpgdhdiaaaGreat
namespace Go.Proofs.YtichfhpgdhdiaaaGreat
def MB:List UInt8→List UInt8→Nat
 |a::x,b::y=>if a=b then MB x y+1 else 0
 |[],_=>0
 |_::_,[]=>0
theorem sK:∀(x y:List UInt8) (n:Nat),n≤MB x y↔n≤x.length∧n≤y.length∧x.take n=y.take n
 |[],y,n=>by
  simp only[MB,aM];constructor
  ·intro h;have:n=0:=by omega
   subst this;simp
  ·rintro⟨h,_⟩;exact h
 |a::x,[],n=>by
  simp only[MB,aM];constructor
  ·intro h;have:n=0:=by omega
   subst this;simp
  ·rintro⟨_,h,_⟩;exact h
 |a::x,b::y,0=>by simp
 |a::x,b::y,n+1=>by
  by_cases e:a=b
  ·subst e;have:=sK x y n;simp only[MB,if_true,aI,dI,cu,true_and,Nat.add_le_add_iff_right];exact this
  ·have:MB (a::x) (b::y)=0:=if_neg e;rw[this];simp only[aI,dI,cu,e,false_and,and_false,iff_false];omega
theorem Im(x y:List UInt8):MB x y≤y.length:=((sK x y _).1 gF).2.1
def l6(a s:List UInt8):Nat→Nat×Nat
 |0=>(0,0)
 |i+1=>if (l6 a s i).2<MB (a.drop i) s then(i,MB (a.drop i) s)else l6 a s i
theorem tL(a s:List UInt8):∀k,(∀i,i<k→MB (a.drop i) s≤(l6 a s k).2)∧((l6 a s k).2=0→(l6 a s k).1=0)∧(0<(l6 a s k).2→(l6 a s k).1<k∧MB (a.drop (l6 a s k).1) s=(l6 a s k).2∧∀i,i<(l6 a s k).1→MB (a.drop i) s<(l6 a s k).2)
 |0=>⟨fun i hi=>by omega,fun _=>rfl,fun h=>by simp[l6]at h⟩
 |k+1=>by
  obtain⟨h1,h2,h3⟩:=tL a s k;unfold l6;split
  ·rename_i hlt
   refine⟨fun i hi=>?_,fun h=>?_,fun _=>⟨by omega,rfl,fun i hi=>?_⟩⟩
   ·rcases aP i k with h4|h4
    ·have:=h1 i h4;simp only;omega
    ·have:i=k:=by omega
     subst this;exact ak _
   ·simp only at h;omega
   ·have:=h1 i hi;simp only;omega
  ·rename_i hge
   refine⟨fun i hi=>?_,h2,fun h=>?_⟩
   ·rcases aP i k with h4|h4
    ·exact h1 i h4
    ·have:i=k:=by omega
     subst this;omega
   ·obtain⟨h4,h5,h6⟩:=h3 h;exact⟨by omega,h5,h6⟩
def jX(a s:List UInt8):Nat×Nat:=l6 a s a.length
theorem zn{a w:List UInt8}{e:Nat}(he:e≤a.length):w <:+ a.take e↔w.length≤e∧(a.drop (e-w.length)).take w.length=w:=by
 constructor
 ·intro h;have hl:=h.length_le;rw[aH]at hl;have hw:w.length≤e:=by omega
  refine⟨hw,?_⟩;obtain⟨p,hp⟩:=h;have hpl:p.length=e-w.length:=by
   have:=congrArg List.length hp;rw[aj,aH]at this;omega
  have ha:a=p++w++a.drop e:=by rw[hp,bQ]
  rw[←hpl]
  conv=>lhs;rw[ha]
  rw[aA,fq gF,List.drop_length,aO,bZ gF,bG]
 ·rintro⟨h1,h2⟩;refine⟨a.take (e-w.length),?_⟩
  conv=>lhs;arg 2;rw[←h2]
  have:=List.take_add (l:=a) (i:=e-w.length) (j:=w.length);rw[show e-w.length+w.length=e by omega]at this;rw[this]
theorem Kg{A:lu}{L:Nat→List UInt8}{a s:List UInt8}{last v m:Nat}(h:A.Inv L a last)(hm:m≤s.length)(hv:A.tO L v (s.take m))(hs:∀c,s[m]?=some c→A.go v c=none):
  (jX a s).2=m∧(0<m→(jX a s).1=A.fin v-m)∧m≤A.fin v∧A.fin v≤a.length:=by
 obtain⟨h1,h2,h3⟩:=tL a s a.length;have hl:(s.take m).length=m:=by rw[aH];omega
 obtain⟨f1,f2,f3⟩:=h.fin v _ hv;have f4:=(zn f1).1 f2;rw[hl]at f4;obtain⟨f4,f5⟩:=f4;have c1:m≤MB (a.drop (A.fin v-m)) s:=(sK _ _ _).2 ⟨by rw[aC];omega,hm,f5⟩;have c2:∀i,MB (a.drop i) s≤m:=fun i=>by
  rcases aP m (MB (a.drop i) s)with hh|hh
  ·exfalso;obtain⟨k1,k2,k3⟩:=(sK (a.drop i) s (m+1)).1 hh;rw[aC]at k1;have hc:s[m]?=some (s[m]' fZ ):=au fZ ;have hw:s.take (m+1)=s.take m++[s[m]' fZ ]:=aN fZ ;have ho:Ai a (s.take m++[s[m]' fZ ]):=by
    refine⟨i+(m+1),by omega,?_⟩;rw[←hw,zn fZ ];rw[show (s.take (m+1)).length=m+1 by rw[aH];omega];exact⟨by omega,by rw[show i+(m+1)-(m+1)=i by omega];exact k3⟩
   obtain⟨u,hu⟩:=h.all v _ _ hv ho;rw[hs _ hc]at hu;cases hu
  ·exact hh
 have Um:(jX a s).2=m:=by
  apply Nat.le_antisymm
  ·rcases fQ (jX a s).2 with h4|h4
   ·omega
   ·have:=c2 (l6 a s a.length).1;rw[(h3 h4).2.1]at this;exact this
  ·rcases fQ m with h4|h4
   ·omega
   ·have:A.fin v-m<a.length:=by omega
    exact aS c1 (h1 _ this)
 refine⟨Um,fun hp=>?_,f4,f1⟩;have h4:0<(l6 a s a.length).2:=by rw[show (l6 a s a.length).2=m from Um];exact hp
 obtain⟨k1,k2,k3⟩:=h3 h4;show (l6 a s a.length).1=_;have Z4:(l6 a s a.length).2=m:=Um;rw[Z4]at k2 k3;rcases eZ (l6 a s a.length).1 (A.fin v-m)with k4|k4|k4
 ·exfalso;obtain⟨q1,q2,q3⟩:=(sK (a.drop (l6 a s a.length).1) s m).1 fZ ;rw[aC]at q1;refine f3 ((l6 a s a.length).1+m) fZ ?_;rw[zn fZ ,hl];exact⟨by omega,by rw[fP];exact q3⟩
 ·exact k4
 ·have:=k3 _ k4;omega
end Go.Proofs.YtichfhpgdhdiaaaGreat
namespace Go.Proofs.YtichfhpgdhdiaaaGreat
structure jq where
 off:Int
 len:Int
 data:List UInt8
deriving DecidableEq
abbrev jq.cp(x:jq):Prop:=0<x.len∧x.data = []
abbrev jq.ins(x:jq):Prop:=x.len=0∧x.off=0∧x.data≠[]
def tK(l:List jq)(x:jq):List jq :=
 match l.getLast? with
 |none=>l++[x]
 |some y=>if x.len=0∧y.len=0 then l.dropLast++[⟨0,0,y.data++x.data⟩]else if 0<x.len∧0<y.len∧y.off+y.len=x.off then l.dropLast++[⟨y.off,y.len+x.len,[]⟩]else l++[x]
def kg(s:List jq×List UInt8):List jq:=if s.2 = []then s.1 else s.1++[⟨0,0,s.2⟩]
def oV(l:List jq)(x:jq):List jq :=
 match l.getLast? with
 |none=>l++[x]
 |some y=>if y.cp∧y.off+y.len=x.off then l.dropLast++[{ y with len:=y.len+x.len }]else l++[x]
def joinStep(s:List jq×List UInt8)(x:jq):List jq×List UInt8:=if x.ins then(s.1,s.2++x.data)else(oV (kg s) x,[])
def xD(xs:List jq):List jq:=kg (xs.foldl joinStep ([],[]))
def NV(s:List jq×List UInt8):Prop:=s.1 = []∨∃l y,s.1=l++[y]∧y.cp
theorem Lu{s:List jq×List UInt8}{x:jq}(h:NV s)(hx:x.cp∨x.ins):NV (joinStep s x)∧kg (joinStep s x)=tK (kg s) x:=by
 obtain⟨l,t⟩:=s;by_cases hi:x.ins
 ·have e:joinStep (l,t) x=(l,t++x.data):=if_pos hi;obtain⟨i1,i2,i3⟩:=hi;rw[e];refine⟨h,?_⟩;have hne:t++x.data≠[]:=fun e=>i3 (List.append_eq_nil_iff.1 e).2
  have e1:kg (l,t++x.data)=l++[⟨0,0,t++x.data⟩]:=if_neg hne;rw[e1];have ex:x=⟨0,0,x.data⟩:=by cases x;simp only at i1 i2;subst i1;subst i2;rfl
  by_cases ht:t = []
  ·subst ht;have e2:kg (l,[])=l:=if_pos rfl;rw[e2,aO];rcases h with h|⟨l',y,h,hy⟩
   ·simp only at h;subst h;simp only[tK,List.getLast?_nil,aO];rw[←ex]
   ·simp only at h;subst h;have n1:¬(x.len=0∧y.len=0):=fun e=>by have:=hy.1;omega
    have n2:¬(0<x.len∧0<y.len∧y.off+y.len=x.off):=fun e=>by omega
    simp only[tK,eY,if_neg n1,if_neg n2];rw[←ex]
  ·have e2:kg (l,t)=l++[⟨0,0,t⟩]:=if_neg ht;rw[e2];simp only[tK,eY,List.dropLast_concat,i1,true_and,if_true]
 ·have hc:x.cp:=hx.resolve_right hi;have e:joinStep (l,t) x=(oV (kg (l,t)) x,[]):=if_neg hi;rw[e];have e1:kg (oV (kg (l,t)) x,[])=oV (kg (l,t)) x:=if_pos rfl;rw[e1];have n1:¬x.len=0:=fun e=>by have:=hc.1;omega
  generalize hm:kg (l,t)=m;have hlast:∀y,m.getLast?=some y→y.cp∨(y.len=0∧¬y.cp):=fun y hy=>by
   by_cases ht:t = []
   ·subst ht;have e2:kg (l,[])=l:=if_pos rfl;rw[e2]at hm;subst hm;rcases h with h|⟨l',z,h,hz⟩
    ·simp only at h;subst h;simp at hy
    ·simp only at h;subst h;rw[eY]at hy;cases hy;exact .inl hz
   ·have e2:kg (l,t)=l++[⟨0,0,t⟩]:=if_neg ht;rw[e2]at hm;subst hm;rw[eY]at hy;cases hy;exact .inr ⟨rfl,fun e=>ht e.2⟩
  cases hl:m.getLast? with
  |none =>
   refine⟨.inr ⟨m,x,?_,hc⟩,?_⟩
   ·simp only[oV,hl]
   ·simp only[oV,tK,hl]
  |some y =>
   by_cases hk:y.cp∧y.off+y.len=x.off
   ·refine⟨.inr ⟨m.dropLast,{ y with len:=y.len+x.len },?_,⟨?_,hk.1.2⟩⟩,?_⟩
    ·simp only[oV,hl,if_pos hk]
    ·have:=hk.1.1;have:=hc.1;simp only;omega
    ·have n2:¬(x.len=0∧y.len=0):=fun e=>n1 e.1
     have n3:0<x.len∧0<y.len∧y.off+y.len=x.off:=⟨hc.1,hk.1.1,hk.2⟩;simp only[oV,tK,hl,if_pos hk,if_neg n2,if_pos n3];have:({ y with len:=y.len+x.len }:jq)=⟨y.off,y.len+x.len,[]⟩:=by rw[←hk.1.2]
     rw[this]
   ·refine⟨.inr ⟨m,x,?_,hc⟩,?_⟩
    ·simp only[oV,hl,if_neg hk]
    ·have n2:¬(x.len=0∧y.len=0):=fun e=>n1 e.1
     have n3:¬(0<x.len∧0<y.len∧y.off+y.len=x.off):=fun⟨_,k2,k3⟩=>by
      rcases hlast y hl with h1|⟨h1,_⟩
      ·exact hk ⟨h1,k3⟩
      ·omega
     simp only[oV,tK,hl,if_neg hk,if_neg n2,if_neg n3]
theorem EB:∀(xs:List jq) (s:List jq×List UInt8),NV s→(∀x∈xs,x.cp∨x.ins)→kg (xs.foldl joinStep s)=xs.foldl tK (kg s)
 |[],s,h,hx=>rfl
 |x::xs,s,h,hx=>by
  obtain⟨h1,h2⟩:=Lu h (hx x gu );rw[eU,eU,←h2];exact EB xs _ h1 fun y hy=>hx y (by simp[hy])
theorem RB{xs:List jq}(hx:∀x∈xs,x.cp∨x.ins):xD xs=xs.foldl tK []:=EB xs _ (.inl rfl) hx
def mg(a b:List UInt8):Nat→Nat→List jq
 |0,_=>[]
 |f+1,k=>if k<b.length then
   (if 4≤(jX a (b.drop k)).2 then⟨(jX a (b.drop k)).1,(jX a (b.drop k)).2,[]⟩::mg a b f (k+(jX a (b.drop k)).2)else⟨0,0,(b.drop k).take 1⟩::mg a b f (k+1))
  else[]
def nT(a b:List UInt8):List jq:=xD (mg a b (b.length+1) 0)
end Go.Proofs.YtichfhpgdhdiaaaGreat
namespace Go.Proofs.YtichfhpgdhdiaaaGreat
open Go.RowKit
section
variable {P:Program}{ops:Array Oper}{Q:Exit→Act→World→Prop}{md:Region.Mode}
def Jk(md:Region.Mode)(ops:Array Oper)(m x:Nat)(sx:List Nat)(sz:Nat):Bool :=
 decide (m≤ops.size)&&decide (0<x)&&decide (x<m)&&Region.noSelect ops&&xI md ops x sx&&sx.all (fun j=>decide (j<x)) &&
 (match ops[x]? with
  |none=>false
  |some ox=>ox.after.all (fun e=>!(Region.binds md e)||decide (e.on<x))&&(List.range ops.size).all fun j=>(decide (j≤x)&&!sx.contains j)||(match ops[j]? with
   |none=>false
   |some oj=>(oj.after.any fun e=>Region.binds md e&&e.on==x)||ox.apart ops oj)) &&
 (List.range ops.size).all fun i=>match ops[i]? with
  |none=>false
  |some o=>o.guard.isNone&&o.after.all (fun e=>!(Region.binds md e)||decide (e.on<i))&&(decide (i<m)||xI md ops i (x::List.range' m (i-m))) &&
   (decide (m≤i)||(match o.dst with|none=>true|some d=>decide (d<sz)&&(List.range m).all fun j=>decide (j=i)||decide (jW ops j≠some d)))
theorem Zl.put{m i:Nat}{φ : Nat→Value→World→Prop}{a0 a:Act}{w0 w w':World}{listed:Array Bool}{oi:Oper}{v:Value}(hp:Zl ops m φ a0 w0 listed a w)(hφ : ∀i v w w',φ i v w→Below w.heap.size w w'→φ i v w')(him:i<m)(hil:i<listed.size)(hoi:ops[i]?=some oi)(c4:∀d,oi.dst=some d→d<a0.tmps.size∧∀j,j<m→j≠i→jW ops j≠some d)(hv : φ i v w')(hb:Below w.heap.size w w'):Zl ops m φ a0 w0 (listed.setIfInBounds i true) (a.put oi.dst v) w':=by
 have hdi:jW ops i=oi.dst:=by unfold jW;rw[hoi];rfl
 have hset:∀j,j≠i→(listed.setIfInBounds i true).getD j false=listed.getD j false:=fun j hj=>getD_set_ne false (fe hj)
 have hsi:(listed.setIfInBounds i true).getD i false=true:=by
  simp[aD,aL,hil]
 have hput:∀t,oi.dst≠some t→(a.put oi.dst v).tmps[t]?=a.tmps[t]?:=by
  intro t ht;cases hdo:oi.dst with
  |none=>rfl
  |some d =>
   rw[hdo]at ht;show (a.tmps.setIfInBounds d v)[t]?=_;rw[aL,if_neg (fun e=>ht (by rw[e]))]
 refine⟨?_,?_,?_,?_,?_,hp.jM.trans (hb.mono hp.jM.size)⟩
 ·cases oi.dst<;>exact hp.df
 ·cases oi.dst with
  |none=>exact hp.len
  |some d=>show (a.tmps.setIfInBounds d v).size=_;rw[bI];exact hp.len
 ·intro t ht;rw[hput t (by rw[←hdi];exact ht i him hsi)];refine hp.old t fun j hj hlj=>?_
  by_cases hji:j=i
  ·subst hji;exact ht j hj hsi
  ·exact ht j hj (by rw[hset j hji];exact hlj)
 ·intro j d hj hlj hdj;by_cases hji:j=i
  ·subst hji;rw[hdi]at hdj;have hds:=(c4 d hdj).1;have:(a.put oi.dst v).tmps.getD d undef=v:=by
    rw[hdj];show (a.tmps.setIfInBounds d v).getD d undef=v;have hlt:d<a.tmps.size:=by rw[hp.len];exact hds
    simp[aD,aL,hlt]
   rw[this];exact hv
  ·have hne:oi.dst≠some d:=fun e=>(c4 d e).2 j hj hji hdj
   have e1:(a.put oi.dst v).tmps.getD d undef=a.tmps.getD d undef:=by
    simp only[aD,hput d hne]
   rw[e1];exact hφ j _ w w' (hp.new j d hj (by rw[←hset j hji];exact hlj) hdj) hb
 ·intro j hj hjs;rw[getD_set_ne true fZ ];exact hp.late j hj hjs
theorem Mi{m x g:Nat}{sx:List Nat}{φ : Nat→Value→World→Prop}{a0:Act}{w0:World}(hB:Jk md ops m x sx a0.tmps.size=true)(hφ : ∀i v w w',φ i v w→Below w.heap.size w w'→φ i v w')(hstep:∀i o,i<m→i≠x→ops[i]?=some o→∀a w,a.defers=a0.defers→a.tmps.size=a0.tmps.size→(∀t,(∀j,j<m→jW ops j≠some t)→a.tmps[t]?=a0.tmps[t]?)→Below w0.heap.size w0 w →
   (∀j d,j<m→(o.after.any fun e=>Region.binds md e&&decide (e.on=j))=true→jW ops j=some d→φ j (a.tmps.getD d undef) w) →
   ∀K:Act→World→Prop,(∀v w',φ i v w'→Below w.heap.size w w'→K (a.put o.dst v) w')→o.wp P a w K (NoPanic Q))(hx:∀o,ops[x]?=some o→∀(a:Act) (w:World),a.tmps.size=a0.tmps.size→(∀t,(∀j,j<m→jW ops j≠some t)→a.tmps[t]?=a0.tmps[t]?)→Below w0.heap.size w0 w →
   (∀j d,j<m→(o.after.any fun e=>Region.binds md e&&decide (e.on=j))=true→jW ops j=some d→φ j (a.tmps.getD d undef) w) →
   ∃v,φ x v w∧∀w',(execOp a.eval o).run P w'=.ok (.value v) w')(hfin:∀listed a w,listed.size=ops.size→Zl ops m φ a0 w0 listed a w→(∀i,i<m→listed.getD i false=true)→rC md ops listed→wpS P md ops (NoPanic Q) (fun _=>True) 0 g listed a w):
  ∀(c:Nat) (L:List Nat) (listed:Array Bool) (a:Act) (w:World),L.length=c→L.Nodup→(∀i,i∈L↔(i<m∧listed.getD i true=false))→listed.size=ops.size→Zl ops m φ a0 w0 listed a w→rC md ops listed →
   wpS P md ops (NoPanic Q) (fun _=>True) 0 (c+g) listed a w:=by
 simp only[Jk,aK,bV,decide_eq_true_eq]at hB;obtain⟨⟨⟨⟨⟨⟨⟨hm2,hx0⟩,hxm⟩,hsel⟩,hlx⟩,hsx⟩,hxx⟩,hall⟩:=hB;obtain⟨ox,hox⟩:∃o,ops[x]?=some o:=⟨_,bg fZ ⟩;rw[hox]at hxx;simp only[aK]at hxx;obtain⟨hxa,hxx⟩:=hxx;have sJ:∀i o,ops[i]?=some o→o.guard=none∧(∀e∈o.after,Region.binds md e=true→e.on<i)∧(i<m∨xI md ops i (x::List.range' m (i-m))=true)∧(i<m→∀d,o.dst=some d→d<a0.tmps.size∧∀j,j<m→j≠i→jW ops j≠some d):=by
  intro i o ho;have hi:=(ax.1 ho).1;have h:=bN.1 hall i (bK.2 hi);rw[ho]at h;simp only[aK,bV,decide_eq_true_eq,fI,bY,fO,fH]at h;obtain⟨⟨⟨h1,h2⟩,h3⟩,h4⟩:=h;refine⟨h1,?_,h3,?_⟩
  ·intro e he hbi;rcases h2 e he with h5|h5
   ·rw[hbi]at h5;cases h5
   ·exact h5
  ·intro him d hd;rcases h4 with h4|h4
   ·omega
   ·rw[hd]at h4;simp only[aK,decide_eq_true_eq,bN,bK,bV]at h4;exact⟨h4.1,fun j hj hne=>(h4.2 j hj).resolve_left hne⟩
 have both:∀(listed:Array Bool) (i:Nat),listed.size=ops.size→i<ops.size→listed.getD i false=false→listed.getD i true=false:=fun listed i h1 h2 h3=>by
  simp only[aD,bg (show i<listed.size by omega),dh]at h3 ⊢;exact h3
 have next:∀(listed:Array Bool) (L:List Nat) (i:Nat),i<listed.size→L.Nodup→(∀j,j∈L↔(j<m∧listed.getD j true=false))→∀j,j∈L.erase i↔(j<m∧(listed.setIfInBounds i true).getD j true=false):=by
  intro listed L i hil hnd hL j;rw[hnd.mem_erase_iff,hL j];by_cases hji:j=i
  ·subst hji;simp[aD,aL,hil]
  ·rw[getD_set_ne true (fe hji)];exact⟨fun h=>h.2,fun h=>⟨hji,h⟩⟩
 intro c
 induction c with
 |zero =>
  intro L listed a w hL hnd hun hls hp hcl;have hnil:L = []:=bL.1 hL;subst hnil;rw[bH];refine hfin listed a w hls hp (fun i hi=>?_) hcl;cases hx':listed.getD i false with
  |true=>rfl
  |false=>exact absurd ((hun i).2 ⟨hi,both listed i hls fZ hx'⟩) gu
 |succ c ih =>
  intro L listed a w hL hnd hun hls hp hcl;rw[show c+1+g=(c+g)+1 by omega];by_cases Ii:x∈Region.ready md ops listed
  ·
   obtain⟨ahr,ox',aht,gK⟩:=mem_ready.1 Ii;obtain rfl:=aB (aht.symm.trans hox);obtain⟨c1,c2,c3,c4⟩:=sJ x ox' hox;have hxl:x<listed.size:=by omega
   obtain⟨v,hv,hrun⟩:=hx ox' hox a w hp.len (fun t ht=>hp.old t fun j hj _=>ht j hj) hp.jM (fun j d hj hd hdj=>by
    simp only[bY,aK,decide_eq_true_eq]at hd;obtain⟨e,he,hbi,hon⟩:=hd;have h1:=gK e he hbi;rw[hon]at h1;exact hp.new j d hj h1 hdj)
   have hw:Region.wanted ox' (yielded ops a.tmps)=true:=by simp[Region.wanted,c1]
   refine AP (T:=fun _=>True) (skip:=[]) hox (Region.noSelect_spec hsel) (fun _ _ _ h=>h) fZ (.inl fun _=>trivial) (c+g) listed a w ?_ hcl Ii (.inl ⟨hw,fun w' _=>hrun w'⟩) (.inr trivial)
    (ih (L.erase x) _ _ _ ?_ (hnd.erase _) (next listed L x hxl hnd hun) ?_ (hp.put hφ hxm hxl hox (c4 hxm) hv gD) (hcl.set Ii))
   ·intro j oj hoj hjx hjun hno;have hjl:=(ax.1 hoj).1;have h1:=bN.1 hxx j (bK.2 hjl);rw[hoj]at h1;simp only[bV,aK,decide_eq_true_eq,Bool.not_eq_true']at h1;rcases h1 with ⟨h1,h2⟩|h1
    ·exfalso;have h3:=hcl.all (skip:=sx) hlx (fun oz WY e' he' hb'=>by
      obtain rfl:=aB (WY.symm.trans hox);exact gK e' he' hb') (x-j) j rfl fZ h2
     rw[getD_both hjun]at h3;cases h3
    ·rcases h1 with h1|h1
     ·simp only[bY,aK,beq_iff_eq]at h1;obtain⟨e,he,hb,hon⟩:=h1;exact absurd hon (hno e he hb)
     ·exact h1
   ·rw[dU ((hun x).2 ⟨hxm,ahr⟩),hL];rfl
   ·rw[bI];exact hls
  ·obtain⟨i0,ahu⟩:∃i0,i0∈L:=List.exists_mem_of_length_pos fZ ;obtain⟨hi0,hu0⟩:=(hun i0).1 ahu;refine⟨fun hr=>?_,fun i hi=>?_⟩
   ·exfalso;have key:∀i,i<m→listed.getD i true=true:=by
     intro i
     induction i using Nat.strongRecOn with
     |_ i ihh =>
      intro him;cases hx':listed.getD i true with
      |true=>rfl
      |false =>
       obtain⟨o,ho⟩:∃o,ops[i]?=some o:=⟨_,bg fZ ⟩;have:i∈Region.ready md ops listed:=mem_ready.2 ⟨hx',o,ho,fun e he hbi=>by
        have hlt:=(sJ i o ho).2.1 e he hbi;have h1:=ihh e.on hlt fZ ;cases hy:listed.getD e.on false with
        |true=>rfl
        |false=>rw[both listed e.on hls fZ hy]at h1;cases h1⟩
       rw[hr]at this;cases this
    rw[key i0 hi0]at hu0;cases hu0
   ·obtain⟨Zm,oi,hoi,gK⟩:=mem_ready.1 hi;obtain⟨c1,c2,c3,c4⟩:=sJ i oi hoi;have hil:=(ax.1 hoi).1;have hix:i≠x:=fun e=>Ii (e▸hi)
    have him:i<m:=by
     rcases c3 with h3|h3
     ·exact h3
     ·rcases aP i m with h5|h5
      ·exact h5
      ·exfalso;have h6:∀j,j<m→j≠x→listed.getD j false=true:=fun j hj hjx =>
        hcl.all (skip:=x::List.range' m (i-m)) h3 (fun oz WY e' he' hb'=>by
         obtain rfl:=aB (WY.symm.trans hoi);exact gK e' he' hb') (i-j) j rfl fZ (by
         have hc:¬(j∈x::List.range' m (i-m)):=fun hmem=>by
          rcases bC.1 hmem with h|h
          ·exact hjx h
          ·have:=(List.mem_range'_1.1 h).1;omega
         simpa using hc)
       by_cases adC:i0=x
       ·subst adC;refine Ii (mem_ready.2 ⟨hu0,ox,hox,fun e he hbi=>?_⟩);have:=(sJ _ ox hox).2.1 e he hbi;exact h6 e.on fZ fZ
       ·have h8:=h6 i0 hi0 adC;rw[getD_both hu0]at h8;cases h8
    have hw:Region.wanted oi (yielded ops a.tmps)=true:=by simp[Region.wanted,c1]
    refine wpOp_step hoi fun K hK=>?_
    rw[if_pos hw];refine hstep i oi him hix hoi a w hp.df hp.len (fun t ht=>hp.old t fun j hj _=>ht j hj) hp.jM (fun j d hj hd hdj=>?_) K fun v w' hv hb=>?_
    ·simp only[bY,aK,decide_eq_true_eq]at hd;obtain⟨e,he,hbi,hon⟩:=hd;have h1:=gK e he hbi;rw[hon]at h1;exact hp.new j d hj h1 hdj
    ·refine hK _ _ ⟨.inr trivial,ih (L.erase i) _ _ _ ?_ (hnd.erase _) (next listed L i fZ hnd hun) ?_ (hp.put hφ him fZ hoi (c4 him) hv hb) (hcl.set hi)⟩
     ·rw[dU ((hun i).2 ⟨him,Zm⟩),hL];rfl
     ·rw[bI];exact hls
theorem BV{id:Nat}{a0:Act}{w:World}(hm:P.follows .mixedOrders=true)(m x:Nat)(sx:List Nat)(φ : Nat→Value→World→Prop)(hB:Jk .any ops m x sx a0.tmps.size=true)(hφ : ∀i v w w',φ i v w→Below w.heap.size w w'→φ i v w')(hstep:∀i o,i<m→i≠x→ops[i]?=some o→∀a w1,a.defers=a0.defers→a.tmps.size=a0.tmps.size→(∀t,(∀j,j<m→jW ops j≠some t)→a.tmps[t]?=a0.tmps[t]?)→Below w.drew.heap.size w.drew w1 →
   (∀j d,j<m→(o.after.any fun e=>Region.binds .any e&&decide (e.on=j))=true→jW ops j=some d→φ j (a.tmps.getD d undef) w1) →
   ∀K:Act→World→Prop,(∀v w',φ i v w'→Below w1.heap.size w1 w'→K (a.put o.dst v) w')→o.wp P a w1 K (NoPanic Q))(hx:∀o,ops[x]?=some o→∀(a:Act) (w1:World),a.tmps.size=a0.tmps.size→(∀t,(∀j,j<m→jW ops j≠some t)→a.tmps[t]?=a0.tmps[t]?)→Below w.drew.heap.size w.drew w1 →
   (∀j d,j<m→(o.after.any fun e=>Region.binds .any e&&decide (e.on=j))=true→jW ops j=some d→φ j (a.tmps.getD d undef) w1) →
   ∃v,φ x v w1∧∀w',(execOp a.eval o).run P w'=.ok (.value v) w')(hfin:∀a w1,a.defers=a0.defers→a.tmps.size=a0.tmps.size→(∀t,(∀j,j<m→jW ops j≠some t)→a.tmps[t]?=a0.tmps[t]?)→Below w.drew.heap.size w.drew w1→(∀j d,j<m→jW ops j=some d→φ j (a.tmps.getD d undef) w1) →
   kF P .any ops (NoPanic Q) (fun _=>True) 0 (ops.size-m) (vC m ops.size) a w1):(Code.region id ops true).wp P Q a0 w:=by
 refine wp_region_noPanic <| wp_region_any hm ?_
 have hm2:m≤ops.size:=by
  simp only[Jk,aK,decide_eq_true_eq]at hB;exact hB.1.1.1.1.1.1.1
 have h:=Mi (P:=P) (md:=.any) (Q:=Q) (g:=ops.size-m) hB hφ hstep hx (fun listed a w1 hls hp hl hcl=>?_) m (List.range m) (Array.replicate ops.size false) a0 w.drew gu List.nodup_range
  (fun i=>⟨fun h=>⟨bK.1 h,getD_in (by have:=bK.1 h;simp;omega) (getD_replicate_false _ _)⟩,fun h=>bK.2 h.1⟩) gu
  ⟨rfl,rfl,fun _ _=>rfl,fun i d hi hl=>(by rw[getD_replicate_false]at hl;cases hl),fun i h1 h2=>getD_in (by simpa using h2) (getD_replicate_false _ _),ah _ _⟩ (oG _)
 ·rw[show m+(ops.size-m)=ops.size by omega]at h;exact pz _ _ _ _ h
 ·have e:=AU hls hl hp.late;have hA:=hfin a w1 hp.df hp.len (fun t ht=>hp.old t fun j hj _=>ht j hj) hp.jM (fun j d hj hd=>hp.new j d hj (hl j hj) hd);rw[e]at hcl ⊢;exact hA hcl (.inr trivial)
end
end Go.Proofs.YtichfhpgdhdiaaaGreat
