/- Plain -/
import Derived.Test.YtichfhpgdhdiaaaGreatJ1
import Derived.Test.YtichfhpgdhdiaaaGreatJ3
set_option maxRecDepth 100000
set_option maxHeartbeats 8000000
set_option linter.unusedVariables false
set_option linter.unusedSimpArgs false
namespace Go.Proofs.YtichfhpgdhdiaaaGreat
def fu(l:List UInt8):ByteArray:=⟨l.toArray⟩
theorem iI(l:List UInt8):(fu l).data.toList=l:=by simp[fu]
theorem gQ(l:List UInt8):(fu l).toList=l:=(ByteArray.toList_eq _).trans (iI l)
theorem gL(l:List UInt8):(fu l).size=l.length:=by simp[fu,ByteArray.size]
theorem tX(s:ByteArray):fu s.data.toList=s:=by simp[fu]
def gJ(n:Nat):List UInt8:=if n<128 then[UInt8.ofNat n]else UInt8.ofNat (n%128+128)::gJ (n/128)
termination_by n
decreasing_by omega
theorem kK{n:Nat}(h:n<128):gJ n = [UInt8.ofNat n]:=by rw[gJ,if_pos h]
theorem nU{n:Nat}(h:¬n<128):gJ n=UInt8.ofNat (n%128+128)::gJ (n/128):=by rw[gJ,if_neg h]
theorem ja:∀(n f:Nat),n<128^(f+1)→(gJ n).length≤f+1
 |n,0,h=>by rw[kK (by simpa using h)];simp
 |n,f+1,h=>by
  by_cases hn:n<128
  ·rw[kK hn];simp
  ·rw[nU hn,aI];have:n/128<128^(f+1):=by
    rw[Nat.div_lt_iff_lt_mul fZ ];rw[Nat.pow_succ]at h;exact h
   have:=ja (n/128) f this;omega
theorem nA(n:Nat):0<(gJ n).length:=by
 by_cases hn:n<128
 ·rw[kK hn];simp
 ·rw[nU hn];simp
def jc(n:Int):List UInt8×Int:=if 0≤n∧n≤1099511627776 then(gJ n.toNat,0)else([],2)
def jP(s:List UInt8):List UInt8×Int:=if s.length≤65536 then(gJ s.length++s,0)else([],4)
def qX:Nat→Nat→Nat→Nat→List UInt8→Nat×Nat×Int
 |0,_,_,_,_=>(0,0,13)
 |_+1,_,_,_,[]=>(0,0,12)
 |f+1,i,n,u,d::s=>if 128≤d.toNat then qX f (i+1) (n+(d.toNat-128)*u) (u*128) s else if (d.toNat=0∧0<i)∨1099511627776<n+d.toNat*u then(0,0,13)else(n+d.toNat*u,i+1,0)
def gX(s:List UInt8):Nat×Nat×Int:=qX 6 0 0 1 s
theorem Tp:∀(m f i n u:Nat) (t:List UInt8),(gJ m).length≤f→n+m*u≤1099511627776→(0<i→m≠0)→qX f i n u (gJ m++t)=(n+m*u,i+(gJ m).length,0):=by
 intro m
 induction m using Nat.strongRecOn with
 |ind m ih =>
  intro f i n u t hl hb hi;obtain⟨f,rfl⟩:∃g,f=g+1:=⟨f-1,by have:=nA m;omega⟩;by_cases hm:m<128
  ·have hx:(UInt8.ofNat m).toNat=m:=dW (by simp[UInt8.size];omega);rw[kK hm];show (if 128≤(UInt8.ofNat m).toNat then _ else if ((UInt8.ofNat m).toNat=0∧0<i)∨1099511627776<n+(UInt8.ofNat m).toNat*u then _ else _)=_;rw[hx,if_neg fZ ,if_neg (by rintro(⟨h1,h2⟩|h);exact hi h2 h1;omega)];rfl
  ·have hx:(UInt8.ofNat (m%128+128)).toNat=m%128+128:=dW (by simp[UInt8.size];omega);rw[nU hm]at hl ⊢;rw[aI]at hl ⊢;show (if 128≤(UInt8.ofNat (m%128+128)).toNat then qX f (i+1) (n+((UInt8.ofNat (m%128+128)).toNat-128)*u) (u*128) (gJ (m/128)++t)else _)=_;have hmu:m*u=(m%128)*u+m/128*(u*128):=by
    have h1:m=m%128+m/128*128:=by omega
    have h2:m/128*(u*128)=m/128*128*u:=by rw[Nat.mul_comm u 128,←Nat.mul_assoc]
    rw[h2,←dx,←h1]
   rw[hx,if_pos fZ ,fP,ih (m/128) fZ f (i+1) _ _ t fZ fZ fZ ];refine dP (by simp only;omega) (dP (by simp only;omega) rfl)
theorem KN:∀(f i n u:Nat) (s:List UInt8) (r k:Nat),qX f i n u s=(r,k,0)→∃m t,s=gJ m++t∧r=n+m*u∧k=i+(gJ m).length∧r≤1099511627776∧(0<i→m≠0)
 |0,i,n,u,s,r,k,h=>by simp[qX]at h
 |f+1,i,n,u,[],r,k,h=>by simp[qX]at h
 |f+1,i,n,u,d::s,r,k,h=>by
  have h':(if 128≤d.toNat then qX f (i+1) (n+(d.toNat-128)*u) (u*128) s else if (d.toNat=0∧0<i)∨1099511627776<n+d.toNat*u then(0,0,13)else(n+d.toNat*u,i+1,0))=(r,k,0):=h;have hd:=d.toNat_lt;split at h'
  ·rename_i hge
   obtain⟨m,t,rfl,h2,h3,h4,h5⟩:=KN f (i+1) _ _ s r k h';have hm:=h5 fZ ;have hq:(d.toNat-128+m*128)%128=d.toNat-128:=by omega
   have hq2:(d.toNat-128+m*128)/128=m:=by omega
   have hdig:gJ (d.toNat-128+m*128)=d::gJ m:=by
    rw[nU fZ ,hq,hq2,Nat.sub_add_cancel hge];simp
   refine⟨d.toNat-128+m*128,t,by rw[hdig];rfl,?_,by rw[hdig,aI];omega,h4,fun _=>by omega⟩;rw[h2,dx];have:m*(u*128)=m*128*u:=by rw[Nat.mul_comm u 128,←Nat.mul_assoc]
   omega
  ·split at h'
   ·simp at h'
   ·rename_i h1 h2
    injection h' with h3 h4;injection h4 with h4 _;have hdig:gJ d.toNat = [d]:=by rw[kK fZ ];simp
    exact⟨d.toNat,s,by rw[hdig];rfl,h3.symm,by rw[hdig];simp;omega,by omega,fun hi e=>h2 (.inl ⟨e,hi⟩)⟩
theorem KO:∀(f i n u:Nat) (s:List UInt8),(qX f i n u s).2.2=0∨qX f i n u s=(0,0,12)∨qX f i n u s=(0,0,13)
 |0,i,n,u,s=>.inr (.inr rfl)
 |f+1,i,n,u,[]=>.inr (.inl rfl)
 |f+1,i,n,u,d::s=>by
  unfold qX;split
  ·exact KO f _ _ _ s
  ·split
   ·exact .inr (.inr rfl)
   ·exact .inl rfl
theorem KP(s:List UInt8):(gX s).2.2=0∨gX s=(0,0,12)∨gX s=(0,0,13):=KO ..
theorem mI{m:Nat}(t:List UInt8)(h:m≤1099511627776):gX (gJ m++t)=(m,(gJ m).length,0):=by
 unfold gX;rw[Tp m 6 0 0 1 t (ja m 5 fZ ) fZ (fun h=>by omega)];simp
theorem rf{s:List UInt8}{m k:Nat}(h:gX s=(m,k,0)):m≤1099511627776∧k=(gJ m).length∧s=gJ m++s.drop k:=by
 obtain⟨m',t,rfl,h2,h3,h4,_⟩:=KN 6 0 0 1 s m k h;have e:m=m':=by omega
 subst e;rw[bH]at h3;subst h3;refine⟨h4,rfl,?_⟩;rw[cK]
theorem pQ(s:List UInt8):(gX s).1≤1099511627776∧(gX s).2.1≤s.length:=by
 rcases KP s with h|h|h
 ·have e:gX s=((gX s).1,(gX s).2.1,0):=by rw[←h]
  obtain⟨h1,h2,h3⟩:=rf e;refine⟨h1,?_⟩;rw[h2];have:=congrArg List.length h3;rw[aj]at this;omega
 ·rw[h];simp
 ·rw[h];simp
def ji(s:List UInt8):List UInt8×Nat×Int :=
 if (gX s).2.2≠0 then([],0,(gX s).2.2)else if 65536<(gX s).1 then([],0,13)else if s.length-(gX s).2.1<(gX s).1 then([],0,12)else((s.drop (gX s).2.1).take (gX s).1,(gX s).2.1+(gX s).1,0)
theorem yY(s:List UInt8):(ji s).2.2=0∨ji s=([],0,12)∨ji s=([],0,13):=by
 unfold ji;split
 ·rcases KP s with h|h|h
  ·contradiction
  ·rw[h];exact .inr (.inl rfl)
  ·rw[h];exact .inr (.inr rfl)
 ·split
  ·exact .inr (.inr rfl)
  ·split
   ·exact .inr (.inl rfl)
   ·exact .inl rfl
theorem uV{d:List UInt8}(t:List UInt8)(h:d.length≤65536):ji ((gJ d.length++d)++t)=(d,(gJ d.length++d).length,0):=by
 unfold ji;rw[aA,mI (d++t) fZ ];simp only[ne_eq,not_true_eq_false,if_false];rw[if_neg fZ ,if_neg (by simp only[aj];omega),cK,List.take_left,aj]
theorem qZ{s d:List UInt8}{k:Nat}(h:ji s=(d,k,0)):d.length≤65536∧k=(gJ d.length++d).length∧s=(gJ d.length++d)++s.drop k:=by
 unfold ji at h;split at h
 ·rename_i hne
  injection h with _ h;injection h with _ h;exact absurd h hne
 ·rename_i h0
  have h0':(gX s).2.2=0:=by
   rcases d9 ((gX s).2.2=0)with e|e
   ·exact e
   ·exact absurd e h0
  split at h
  ·simp at h
  ·rename_i h1
   split at h
   ·simp at h
   ·rename_i h2
    injection h with h3 h;injection h with h4 _;have e:gX s=((gX s).1,(gX s).2.1,0):=by rw[←h0']
    obtain⟨g1,g2,g3⟩:=rf e;have hdl:d.length=(gX s).1:=by rw[←h3,aH,aC];omega
    have hk:k=(gJ d.length++d).length:=by rw[aj,hdl,←g2,h4]
    refine⟨by omega,hk,?_⟩;rw[←h4];rw[hdl,←bP,aA,←h3,bQ];exact g3
def q9(s:List UInt8):Nat→Nat→List (List UInt8)→List (List UInt8)×Nat×Int
 |0,at_,l=>(l,at_,0)
 |n+1,at_,l=>if (ji (s.drop at_)).2.2≠0 then([],0,(ji (s.drop at_)).2.2)else q9 s n (at_+(ji (s.drop at_)).2.1) (l++[(ji (s.drop at_)).1])
def qz(s:List UInt8):List (List UInt8)×Nat×Int:=if (gX s).2.2≠0 then([],0,(gX s).2.2)else if 1000<(gX s).1 then([],0,13)else q9 s (gX s).1 (gX s).2.1 []
def jL(t:List UInt8):List UInt8:=gJ t.length++t
def jB(l:List (List UInt8)):List UInt8:=gJ l.length++l.flatMap jL
def nW(l:List (List UInt8)):List UInt8×Int:=if 1000<l.length∨¬∀t∈l,t.length≤65536 then([],4)else(jB l,0)
theorem El{s:List UInt8}:∀(l pre:List (List UInt8)) (at_:Nat) (t:List UInt8),(∀x∈l,x.length≤65536)→s.drop at_=l.flatMap jL++t→q9 s l.length at_ pre=(pre++l,at_+(l.flatMap jL).length,0)
 |[],pre,at_,t,_,_=>by simp[q9]
 |x::l,pre,at_,t,hc,hs=>by
  rw[aG,aA]at hs;have e:=uV (l.flatMap jL++t) (hc x gu );have e':ji (s.drop at_)=(x,(jL x).length,0):=by rw[hs];exact e
  show (if (ji (s.drop at_)).2.2≠0 then([],0,(ji (s.drop at_)).2.2)else q9 s l.length (at_+(ji (s.drop at_)).2.1) (pre++[(ji (s.drop at_)).1]))=_;rw[e'];simp only[ne_eq,not_true_eq_false,if_false];rw[El l (pre++[x]) (at_+(jL x).length) t (fun y hy=>hc y (by simp[hy])) (by rw[←bP,hs,cK])];simp[aG,fM]
theorem Em{s:List UInt8}:∀(n at_:Nat) (pre l:List (List UInt8)) (e:Nat),q9 s n at_ pre=(l,e,0)→∃l',l=pre++l'∧l'.length=n∧(∀x∈l',x.length≤65536)∧e=at_+(l'.flatMap jL).length∧s.drop at_=l'.flatMap jL++s.drop e
 |0,at_,pre,l,e,h=>by
  injection h with h1 h2;injection h2 with h2 _;exact⟨[],by simp[h1],rfl,fun x hx=>by simp at hx,by simp[h2],by simp[h2]⟩
 |n+1,at_,pre,l,e,h=>by
  have h':(if (ji (s.drop at_)).2.2≠0 then([],0,(ji (s.drop at_)).2.2)else q9 s n (at_+(ji (s.drop at_)).2.1) (pre++[(ji (s.drop at_)).1]))=(l,e,0):=h;split at h'
  ·rename_i hne
   injection h' with _ h2;injection h2 with _ h2;exact absurd h2 hne
  ·rename_i h0
   have h0':(ji (s.drop at_)).2.2=0:=by
    rcases d9 ((ji (s.drop at_)).2.2=0)with e|e
    ·exact e
    ·exact absurd e h0
   obtain⟨l',h1,h2,h3,h4,h5⟩:=Em n _ _ l e h';have ex:ji (s.drop at_)=((ji (s.drop at_)).1,(ji (s.drop at_)).2.1,0):=by rw[←h0']
   obtain⟨g1,g2,g3⟩:=qZ ex;rw[←bP]at h5;refine⟨(ji (s.drop at_)).1::l',by rw[h1,aA];rfl,by simp[h2],fun x hx=>?_,?_,?_⟩
   ·rcases bC.1 hx with rfl|hx
    ·exact g1
    ·exact h3 x hx
   ·rw[aG,aj,h4,g2];show _=_+((jL (ji (s.drop at_)).1).length+_);unfold jL;omega
   ·rw[aG,aA,←h5];exact g3
theorem Qy{l:List (List UInt8)}(t:List UInt8)(hn:l.length≤1000)(h:∀x∈l,x.length≤65536):qz (jB l++t)=(l,(jB l).length,0):=by
 unfold qz jB;have e1:=mI (m:=l.length) (l.flatMap jL++t) fZ ;rw[aA,e1];simp only[ne_eq,not_true_eq_false,if_false];rw[if_neg fZ ,El l [] _ t h (by rw[cK])];simp
theorem Qz{s:List UInt8}{l:List (List UInt8)}{k:Nat}(h:qz s=(l,k,0)):l.length≤1000∧(∀x∈l,x.length≤65536)∧k=(jB l).length∧s=jB l++s.drop k:=by
 unfold qz at h;split at h
 ·rename_i hne
  injection h with _ h2;injection h2 with _ h2;exact absurd h2 hne
 ·rename_i h0
  have h0':(gX s).2.2=0:=by
   rcases d9 ((gX s).2.2=0)with e|e
   ·exact e
   ·exact absurd e h0
  split at h
  ·simp at h
  ·rename_i hn
   have e:gX s=((gX s).1,(gX s).2.1,0):=by rw[←h0']
   obtain⟨g1,g2,g3⟩:=rf e;obtain⟨l',k1,k2,k3,k4,k5⟩:=Em _ _ _ _ _ h;rw[aO]at k1;subst k1;unfold jB;rw[k2];refine⟨by omega,k3,by rw[aj,←g2,k4],?_⟩;rw[aA,←k5];exact g3
end Go.Proofs.YtichfhpgdhdiaaaGreat
namespace Go.Proofs.YtichfhpgdhdiaaaGreat
abbrev iX:=List UInt8
def su(l:List iX):iX:=1::(gJ (jB l).length++jB l)
def kD(s:iX):List iX×Nat×Bool :=
 if s.head?≠some 1 then([],0,false)
 else if (gX (s.drop 1)).2.2≠0∨s.length-(1+(gX (s.drop 1)).2.1)<(gX (s.drop 1)).1 then([],0,false)
 else if (qz ((s.drop (1+(gX (s.drop 1)).2.1)).take (gX (s.drop 1)).1)).2.2=0∧(qz ((s.drop (1+(gX (s.drop 1)).2.1)).take (gX (s.drop 1)).1)).2.1=(gX (s.drop 1)).1 then
  ((qz ((s.drop (1+(gX (s.drop 1)).2.1)).take (gX (s.drop 1)).1)).1,1+(gX (s.drop 1)).2.1+(gX (s.drop 1)).1,true)
 else([],0,false)
abbrev rU(l:List iX):Prop:=l.length≤1000∧∀x∈l,x.length≤65536
theorem yj(l:List iX)(h:rU l):(jB l).length≤100000000:=by
 have hd:=ja l.length 5 (by have:=h.1;omega);have key:∀m:List iX,(∀x∈m,x.length≤65536)→(m.flatMap jL).length≤m.length*65542:=by
  intro m
  induction m with
  |nil=>intro _;simp
  |cons x m ih =>
   intro hm;have h1:=ih fun y hy=>hm y (by simp[hy])
   have h2:=hm x gu ;have h3:=ja x.length 5 fZ ;rw[aG,aj,aI];have h4:(jL x).length=(gJ x.length).length+x.length:=by unfold jL;rw[aj]
   omega
 have h4:=key l h.2;have h5:=h.1;unfold jB;rw[aj];have:l.length*65542≤1000*65542:=bT _ h5;omega
theorem OT(l:List iX):1≤(su l).length:=by simp[su]
theorem AV{l:List iX}(t:iX)(h:rU l):kD (su l++t)=(l,(su l).length,true):=by
 have hl:=yj l h;have hI:=mI (m:=(jB l).length) (jB l++t) fZ ;have hs:(su l++t).drop 1=gJ (jB l).length++(jB l++t):=by simp[su]
 have hd:(su l++t).drop (1+(gJ (jB l).length).length)=jB l++t:=by
  rw[←bP,hs,cK]
 have hT:=Qy (l:=l) [] h.1 h.2;rw[aU]at hT;unfold kD;rw[if_neg (by simp[su]),hs,hI];simp only[hd];rw[if_neg,List.take_left,hT,if_pos ⟨rfl,rfl⟩]
 ·refine dP rfl (dP ?_ rfl);simp only[su,aI,aj];omega
 ·rintro(h|h)
  ·exact h rfl
  ·simp only[su,cB,aI,aj]at h;omega
theorem AX{s:iX}{l:List iX}{c:Nat}(h:kD s=(l,c,true)):rU l∧c=(su l).length∧s=su l++s.drop c:=by
 unfold kD at h;split at h
 ·simp at h
 ·rename_i h1
  have h1':s.head?=some 1:=by
   rcases d9 (s.head?=some 1)with e|e
   ·exact e
   ·exact absurd e h1
  split at h
  ·simp at h
  ·rename_i h2
   split at h
   ·rename_i h3
    injection h with e1 h;injection h with e2 _;have h20:(gX (s.drop 1)).2.2=0:=by
     rcases d9 ((gX (s.drop 1)).2.2=0)with e|e
     ·exact e
     ·exact absurd (.inl e) h2
    have h21:¬s.length-(1+(gX (s.drop 1)).2.1)<(gX (s.drop 1)).1:=fun e=>h2 (.inr e)
    have eI:gX (s.drop 1)=((gX (s.drop 1)).1,(gX (s.drop 1)).2.1,0):=by rw[←h20]
    obtain⟨g1,g2,g3⟩:=rf eI;generalize gX (s.drop 1)=q at *;obtain⟨n,k,e0⟩:=q;simp only at *;have eT:qz ((s.drop (1+k)).take n)=(l,n,0):=by
     rw[←e1];generalize qz ((s.drop (1+k)).take n)=r at *;obtain⟨r1,r2,r3⟩:=r;simp only at h3;rw[h3.1,h3.2]
    obtain⟨t1,t2,t3,t4⟩:=Qz eT;have hlen:((s.drop (1+k)).take n).length=n:=by rw[aH,aC];omega
    have t5:((s.drop (1+k)).take n).drop n = []:=cO fZ ;rw[t5,aU]at t4;have hc:c=(su l).length:=by
     simp only[su,aI,aj];rw[←t3,←g2];omega
    refine⟨⟨t1,t2⟩,hc,?_⟩;obtain⟨hd,tl,rfl⟩:∃a b,s=a::b:=by
     cases s with
     |nil=>simp at h1'
     |cons a b=>exact⟨a,b,rfl⟩
    have hhd:hd=1:=by simpa using h1'
    subst hhd;rw[dM,dY]at g3;have e5:tl.drop k=jB l++tl.drop (k+n):=by
     have:=bQ n (tl.drop k);rw[bP]at this;rw[←this];congr 1;rw[←t4,show 1+k=k+1 by omega,dM]
    rw[←e2,show 1+k+n=(k+n)+1 by omega,dM];show 1::tl=1::((gJ (jB l).length++jB l)++tl.drop (k+n));rw[aA,←e5,←t3];congr 1
   ·simp at h
theorem NA{s s':iX}{l:List iX}{c:Nat}(h:kD s=(l,c,true))(he:s'.take c=s.take c):kD s'=(l,c,true):=by
 obtain⟨h1,h2,h3⟩:=AX h;have e:s'=su l++s'.drop c:=by
  have h4:s.take c=su l:=by rw[h3,h2,List.take_left]
  conv=>lhs;rw[←bQ c s']
  rw[he,h4]
 rw[e,h2];exact AV _ h1
def need(c sz:Nat):Nat:=(c+sz-1)/sz
theorem sP{c sz:Nat}(hc:1≤c)(hs:1≤sz):1≤need c sz:=by
 unfold need;rw[Nat.le_div_iff_mul_le fZ ];omega
theorem rZ{c sz m:Nat}(hs:1≤sz)(h:c≤m*sz):need c sz≤m:=by
 unfold need;rw[←eX,Nat.div_lt_iff_lt_mul fZ ];rw[Nat.succ_mul];omega
theorem OU{c sz:Nat}(hs:1≤sz):c≤need c sz*sz:=by
 unfold need;have h1:=Nat.div_add_mod (c+sz-1) sz;have h2:=Nat.mod_lt (c+sz-1) (show 0<sz by omega);rw[Nat.mul_comm]at h1;omega
def KQ(a:iX)(sz H:Nat):Nat→Nat→List iX→Option (List iX×Nat)
 |0,k,acc=>some (acc,k)
 |f+1,k,acc=>if k<H∧a[k*sz]?≠some 0 then(if (kD (a.drop (k*sz))).2.2 then KQ a sz H f (k+need (kD (a.drop (k*sz))).2.1 sz) (acc++(kD (a.drop (k*sz))).1)else none)else some (acc,k)
def oZ(a:iX)(sz H:Nat):Option (List iX×Nat):=KQ a sz H (H+1) 0 []
theorem oH{a:iX}{sz H f k:Nat}{acc:List iX}(h:¬(k<H∧a[k*sz]?≠some 0)):KQ a sz H f k acc=some (acc,k):=by
 cases f with
 |zero=>rfl
 |succ f =>
  unfold KQ;rw[if_neg h]
theorem vF{a:iX}{sz H f k:Nat}{acc:List iX}(h:k<H∧a[k*sz]?≠some 0):KQ a sz H (f+1) k acc=if (kD (a.drop (k*sz))).2.2 then KQ a sz H f (k+need (kD (a.drop (k*sz))).2.1 sz) (acc++(kD (a.drop (k*sz))).1)else none:=by
 show (if k<H∧a[k*sz]?≠some 0 then _ else _)=_;rw[if_pos h]
theorem sQ{s:iX}{l:List iX}{c:Nat}(h:kD s=(l,c,true)):1≤c∧c≤s.length:=by
 obtain⟨h1,h2,h3⟩:=AX h;have:=OT l;have h4:=congrArg List.length h3;rw[aj]at h4;omega
theorem C8{a:iX}{sz H:Nat}(hs:1≤sz)(ha:a.length=H*sz):∀(f k:Nat) (acc r:List iX) (u:Nat),H<k+f→k≤H→KQ a sz H f k acc=some (r,u)→k≤u∧u≤H∧(u<H→a[u*sz]?=some 0)
 |0,k,acc,r,u,hf,hk,h=>by omega
 |f+1,k,acc,r,u,hf,hk,h=>by
  by_cases hc:k<H∧a[k*sz]?≠some 0
  ·rw[vF hc]at h;cases hd:kD (a.drop (k*sz))with
   |mk l q =>
    obtain⟨c,ok⟩:=q;rw[hd]at h;cases ok with
    |false=>simp at h
    |true =>
     simp only[if_true]at h;obtain⟨c1,c2⟩:=sQ hd;have hn:=sP c1 hs;have hm:c≤(H-k)*sz:=by
      rw[aC,ha]at c2;rw[Nat.sub_mul];exact c2
     have hn2:=rZ hs hm;have:=C8 hs ha f _ _ r u fZ fZ h;exact⟨by omega,this.2.1,this.2.2⟩
  ·rw[oH hc]at h;injection h with h;injection h with h1 h2;subst h2;refine⟨ak _,hk,fun hlt=>?_⟩;rcases d9 (a[k*sz]?=some 0)with e|e
   ·exact e
   ·exact absurd ⟨hlt,e⟩ hc
theorem KR{a a':iX}{sz H:Nat}(hs:1≤sz)(ha:a.length=H*sz)(hl:a'.length=a.length):∀(f k:Nat) (acc r:List iX) (u f':Nat),H<k+f→H<k+f'→k≤H→KQ a sz H f k acc=some (r,u)→a'.take (u*sz)=a.take (u*sz) →
  KQ a' sz H f' k acc=KQ a' sz H (H+1) u r
 |0,k,acc,r,u,f',hf,hf',hk,h,he=>by omega
 |f+1,k,acc,r,u,f',hf,hf',hk,h,he=>by
  have hend:=C8 hs ha (f+1) k acc r u hf hk h;by_cases hc:k<H∧a[k*sz]?≠some 0
  ·rw[vF hc]at h;cases hd:kD (a.drop (k*sz))with
   |mk l q =>
    obtain⟨c,ok⟩:=q;rw[hd]at h;cases ok with
    |false=>simp at h
    |true =>
     simp only[if_true]at h;obtain⟨c1,c2⟩:=sQ hd;have hn:=sP c1 hs;have hm:c≤(H-k)*sz:=by
      rw[aC,ha]at c2;rw[Nat.sub_mul];exact c2
     have hn2:=rZ hs hm;have hln:=OU (c:=c) hs;have abY:=C8 hs ha f _ _ r u fZ fZ h;have hku:(k+need c sz)*sz≤u*sz:=bT _ abY.1;rw[dx]at hku;have hu:k*sz+c≤u*sz:=by omega
     have hk0:k*sz<u*sz:=by omega
     have e1:a'[k*sz]?=a[k*sz]?:=by
      have:=congrArg (·[k*sz]?) he;simpa [bR,hk0] using this
     have e2:(a'.drop (k*sz)).take c=(a.drop (k*sz)).take c:=by
      have:=congrArg (fun x=>(x.drop (k*sz)).take c) he;simp only[List.drop_take,List.take_take]at this;rw[dz fZ ]at this;exact this
     have hd':=NA hd e2;obtain⟨f'',rfl⟩:∃g,f'=g+1:=⟨f'-1,by omega⟩;rw[vF (by rw[e1];exact hc),hd'];simp only[if_true];exact KR hs ha hl f _ _ r u f'' fZ fZ fZ h he
  ·rw[oH hc]at h;injection h with h;injection h with h1 h2;subst h1;subst h2;exact KS hs (by rw[hl];exact ha) f' (H+1) k acc hf' fZ hk
where
 KS {a:iX} {sz H:Nat} (hs:1≤sz) (ha:a.length=H*sz):∀(f f' k:Nat) (acc:List iX),H<k+f→H<k+f'→k≤H→KQ a sz H f k acc=KQ a sz H f' k acc
  |0,f',k,acc,hf,hf',hk=>by omega
  |f+1,0,k,acc,hf,hf',hk=>by omega
  |f+1,f'+1,k,acc,hf,hf',hk=>by
   by_cases hc:k<H∧a[k*sz]?≠some 0
   ·rw[vF hc,vF hc];cases hd:kD (a.drop (k*sz))with
    |mk l q =>
     obtain⟨c,ok⟩:=q;cases ok with
     |false=>rfl
     |true =>
      simp only[if_true];obtain⟨c1,c2⟩:=sQ hd;have hn:=sP c1 hs;have hm:c≤(H-k)*sz:=by
       rw[aC,ha]at c2;rw[Nat.sub_mul];exact c2
      have hn2:=rZ hs hm;exact KS hs ha f f' _ _ fZ fZ fZ
   ·rw[oH hc,oH hc]
end Go.Proofs.YtichfhpgdhdiaaaGreat
namespace Go.Proofs.YtichfhpgdhdiaaaGreat
def kH(s:ByteArray):iX:=s.data.toList
theorem Da(s:ByteArray):(kH s).length=s.size:=rfl
theorem oI(l:iX):kH (fu l)=l:=iI l
def jY(s:ByteArray):UInt8:=(kH s).headD 0
def gZ(n:Nat):Nat:=(n-1)/2
def lI(l:List ByteArray)(start H:Nat):iX:=((l.drop start).take H).flatMap kH
def gN(n act:Nat):Nat:=1+(act-1)*gZ n
def xL(l:List ByteArray)(sz:Nat):Option (Nat×List iX×Nat) :=
 if (jY (l.getD 0 ⟨#[]⟩)).toNat=1∨(jY (l.getD 0 ⟨#[]⟩)).toNat=2 then
  (oZ (lI l (gN l.length (jY (l.getD 0 ⟨#[]⟩)).toNat) (gZ l.length)) sz (gZ l.length)).map fun x=>((jY (l.getD 0 ⟨#[]⟩)).toNat,x.1,x.2)
 else none
def mF(d:Dk):Int:=if sJ d≠0 then sJ d else if d.secs.length<3 then 2 else 0
def jk(d:Dk):(Nat×List iX×Nat)×Int :=
 if mF d≠0 then((0,[],0),mF d)else match xL (cur d) d.size.toNat with
  |none=>((0,[],0),13)
  |some x=>(x,0)
def vG(d:Dk):List iX×Int:=((jk d).1.2.1,(jk d).2)
def Gm(d:Dk):Nat×Int:=if (jk d).2≠0 then(0,(jk d).2)else(gZ d.secs.length-(jk d).1.2.2,0)
def wW(sz:Nat)(t:iX):iX:=t++List.replicate (sz-t.length) 0
def jN(sz:Nat):ByteArray:=fu (List.replicate sz 0)
def lW(sz act:Nat):ByteArray:=fu (wW sz [UInt8.ofNat act])
def kT(l:List iX)(sz:Nat):List ByteArray:=if l = []then[]else(List.range (need (su l).length sz)).map fun i=>fu (wW sz (((su l).drop (i*sz)).take sz))
def lJ(s:ByteArray):ByteArray:=fu (0::(kH s).drop 1)
abbrev ny:=Nat×ByteArray
def ng:Nat→List ByteArray→List ny
 |_,[]=>[]
 |at_,s::l=>(at_,s)::ng (at_+1) l
def o5(at_:Nat)(S:List ByteArray)(e sz:Nat):List ny:=ng at_ S++if at_+S.length<e then[(at_+S.length,jN sz)]else[]
def o7(d:Dk):Option ny→Dk×Int
 |some w=>(AL d w.1 w.2,zy d w.1 w.2)
 |none=>(Qp d,Kw d)
def lg:Dk→List (Option ny)→Dk×Int
 |d,[]=>(d,0)
 |d,o::os=>if (o7 d o).2≠0 then o7 d o else lg (o7 d o).1 os
def sS(W:List ny)(w:ny):List (Option ny):=W.map some++[none,some w,none]
def hd0(S:List ByteArray):ByteArray:=S.headD ⟨#[]⟩
def appW(n sz act used:Nat)(l:List iX):List ny:=o5 (gN n act+used) (lJ (hd0 (kT l sz))::(kT l sz).drop 1) (gN n act+gZ n) sz
def qa(d:Dk)(l:List iX):Dk×Int :=
 if (jk d).2≠0 then(iL,(jk d).2)else if ¬rU l then(iL,4)else if l = []then(d,0)
 else if gZ d.secs.length-(jk d).1.2.2<(kT l d.size.toNat).length then(iL,19)
 else lg d (sS (appW d.secs.length d.size.toNat (jk d).1.1 (jk d).1.2.2 l) (gN d.secs.length (jk d).1.1+(jk d).1.2.2,hd0 (kT l d.size.toNat)))
def IB(n sz act:Nat)(l:List iX):List ny:=o5 (gN n (3-act)) (kT l sz) (gN n (3-act)+gZ n) sz
def wY(d:Dk)(l:List iX):Dk×Int :=
 if (jk d).2≠0 then(iL,(jk d).2)else if ¬rU l then(iL,4)
 else if gZ d.secs.length<(kT l d.size.toNat).length then(iL,19)
 else lg d (sS (IB d.secs.length d.size.toNat (jk d).1.1 l) (0,lW d.size.toNat (3-(jk d).1.1)))
def NC(d:Dk):Dk×Int :=
 if mF d≠0 then(iL,mF d)else lg d (sS [(gN d.secs.length 1,jN d.size.toNat),(gN d.secs.length 2,jN d.size.toNat)] (0,lW d.size.toNat 1))
def Yp(n:Nat)(size:Int)(W:List ny):Prop:=∀w∈W,w.1<n∧(w.2.size:Int)=size
def toP(W:List ny):List (Int×ByteArray):=W.map fun w=>((w.1:Int),w.2)
theorem yo{d:Dk}(h:Valid d){W:List ny}(hW:Yp d.secs.length d.size W)(lf:Int)(hl : -1≤lf):Valid { d with pend:=d.pend++toP W,left:=lf } :=
 ⟨h.s1,h.s2,h.n1,h.n2,h.ss,fun w hw=>by
  rcases bq.1 hw with hw|hw
  ·exact h.ws w hw
  ·obtain⟨v,hv,rfl⟩:=dS.1 hw;have:=hW v hv;simp only;omega,hl⟩
theorem Tq{d:Dk}(h:Valid d){w:ny}(hw:w.1<d.secs.length∧(w.2.size:Int)=d.size):zy d w.1 w.2=if d.left=0 then 20 else 0:=by
 unfold zy;rw[if_neg (fun e=>e (mq.2 h)),if_neg fZ ,if_neg (fun e=>e hw.2)]
theorem yt(rest:List (Option ny)):∀(W:List ny) (d:Dk),Valid d→Yp d.secs.length d.size W →
  (d.left≠-1∧∃m,m<W.length∧lg d (W.map some++rest)=({ d with pend:=d.pend++toP (W.take m),left:=0 },20)) ∨
  (∃lf,-1≤lf∧(d.left=-1→lf=-1)∧lg d (W.map some++rest)=lg { d with pend:=d.pend++toP W,left:=lf } rest)
 |[],d,hv,hW=>.inr ⟨d.left,hv.lf,fun h=>h,by simp[toP]⟩
 |w::W,d,hv,hW=>by
  have hw:=hW w gu ;have he:=Tq hv hw;show (d.left≠-1∧∃m,m<(w::W).length∧(if (zy d w.1 w.2)≠0 then(AL d w.1 w.2,zy d w.1 w.2)else lg (AL d w.1 w.2) (W.map some++rest))=_)∨(∃lf,-1≤lf∧(d.left=-1→lf=-1)∧(if (zy d w.1 w.2)≠0 then(AL d w.1 w.2,zy d w.1 w.2)else lg (AL d w.1 w.2) (W.map some++rest))=_);by_cases hl:d.left=0
  ·rw[if_pos hl]at he;left;refine⟨by omega,0,by simp,?_⟩;rw[he,if_pos gm ];have hd:AL d w.1 w.2=d:=by unfold AL;rw[he,if_neg gm ,if_pos rfl]
   rw[hd];obtain⟨a,b,c,e⟩:=d;simp only at hl;subst hl;simp[toP]
  ·rw[if_neg hl]at he;have hd:AL d w.1 w.2={ d with pend:=d.pend++toP [w],left:=jV d.left }:=by unfold AL;rw[he,if_pos rfl];rfl
   have hlz : -1≤jV d.left∧(d.left=-1→jV d.left=-1)∧(jV d.left=-1→d.left=-1):=by
    have:=hv.lf;unfold jV;split<;>omega
   have hv2:=yo hv (W:=[w]) (fun x hx=>(show x=w by simpa using hx)▸hw) (jV d.left) hlz.1;rw[he,if_neg gm ,hd];have ih:=yt rest W _ hv2 (fun x hx=>hW x (by simp[hx]));rcases ih with ⟨i1,m,i2,i3⟩|⟨lf,i1,i2,i3⟩
   ·left;refine⟨fun e=>i1 (hlz.2.1 e),m+1,by simp;omega,?_⟩;rw[i3];simp[toP,aA]
   ·right;refine⟨lf,i1,fun e=>i2 (hlz.2.1 e),?_⟩;rw[i3];simp[toP,aA]
theorem Eo{d:Dk}(h:Valid d)(rest:List (Option ny)):lg d (none::rest)=if d.left=0 then(d,20)else lg ⟨d.size,cur d,[],jV d.left⟩ rest:=by
 have he:Kw d=if d.left=0 then 20 else 0:=by unfold Kw;rw[if_neg (fun e=>e (mq.2 h))]
 show (if (Kw d)≠0 then(Qp d,Kw d)else lg (Qp d) rest)=_;by_cases hl:d.left=0
 ·rw[if_pos hl]at he ⊢;rw[he,if_pos gm ];unfold Qp;rw[he,if_neg gm ,if_pos rfl]
 ·rw[if_neg hl]at he ⊢;rw[he,if_neg gm ];unfold Qp;rw[he,if_pos rfl]
theorem Tt{l:List ByteArray}{w:Int×ByteArray}{size:Int}(hl:∀s∈l,(s.size:Int)=size)(hw:(w.2.size:Int)=size):∀s∈si l w,(s.size:Int)=size:=fun s hs=>by
 unfold si at hs;rcases bS hs with h|h
 ·exact hl s h
 ·rw[h];exact hw
theorem rD{size:Int}:∀(p:List (Int×ByteArray)) (l:List ByteArray),(∀s∈l,(s.size:Int)=size)→(∀w∈p,(w.2.size:Int)=size)→∀s∈p.foldl si l,(s.size:Int)=size
 |[],l,hl,_=>hl
 |w::p,l,hl,hp=>rD p (si l w) (Tt hl (hp w gu )) fun x hx=>hp x (by simp[hx])
theorem wJ{d:Dk}(h:Valid d)(lf:Int)(hl : -1≤lf):Valid ⟨d.size,cur d,[],lf⟩ :=
 ⟨h.s1,h.s2,by rw[show (Dk.mk d.size (cur d) [] lf).secs=cur d from rfl,jT];exact h.n1,by rw[show (Dk.mk d.size (cur d) [] lf).secs=cur d from rfl,jT];exact h.n2,
  rD _ _ h.ss fun w hw=>(h.ws w hw).2.2,fun w hw=>by simp at hw,hl⟩
def iG(l:List ByteArray)(W:List ny):List ByteArray:=(toP W).foldl si l
theorem Db{d:Dk}(h:Valid d)(hp:d.pend = []){W:List ny}{w:ny}(hW:Yp d.secs.length d.size W)(hw:w.1<d.secs.length∧(w.2.size:Int)=d.size):
  (∃lf,-1≤lf∧(d.left=-1→lf=-1)∧lg d (sS W w)=(⟨d.size,iG (iG d.secs W) [w],[],lf⟩,0)) ∨
  (d.left≠-1∧∃m,m≤W.length∧lg d (sS W w)=(⟨d.size,d.secs,toP (W.take m),0⟩,20)) ∨
  (d.left≠-1∧∃p,(p = []∨p = [w])∧lg d (sS W w)=(⟨d.size,iG d.secs W,toP p,0⟩,20)):=by
 unfold sS;rcases yt [none,some w,none] W d h hW with ⟨h1,m,h2,h3⟩|⟨lf,h1,h2,h3⟩
 ·right;left;refine⟨h1,m,by omega,?_⟩;rw[h3,hp,aO]
 ·rw[h3,hp,aO];have hv1:Valid ⟨d.size,d.secs,toP W,lf⟩:=by
   have:=yo h hW lf h1;rw[hp,aO]at this;exact this
  rw[Eo hv1];by_cases hl:lf=0
  ·rw[if_pos hl];right;left;refine⟨fun e=>by have:=h2 e;omega,W.length,ak _,?_⟩;rw[bG,hl]
  ·rw[if_neg hl];have hlz : -1≤jV lf∧(lf=-1→jV lf=-1):=by unfold jV;split<;>omega
   have hv2:=wJ hv1 (jV lf) hlz.1;have hcl:(cur ⟨d.size,d.secs,toP W,lf⟩).length=d.secs.length:=jT _;have hr:=yt [none] [w] ⟨d.size,cur ⟨d.size,d.secs,toP W,lf⟩,[],jV lf⟩ hv2 (fun x hx=>by
    have e:x=w:=by simpa using hx
    simp only;rw[e,hcl];exact hw)
   have e1:cur ⟨d.size,d.secs,toP W,lf⟩=iG d.secs W:=rfl;rw[e1]at hr ⊢;rcases hr with ⟨k1,m,k2,k3⟩|⟨lf2,k1,k2,k3⟩
   ·right;right;refine⟨fun e=>k1 (hlz.2 (h2 e)),[],.inl rfl,?_⟩;have hm:m=0:=by simp at k2;omega
    subst hm;simp only[dJ,eB,List.singleton_append]at k3;rw[k3];simp[toP]
   ·simp only[dJ,eB,List.singleton_append,aO]at k3;rw[k3];have hv3:Valid ⟨d.size,iG d.secs W,toP [w],lf2⟩:=by
     have:=yo hv2 (W:=[w]) (fun x hx=>by
      have e:x=w:=by simpa using hx
      simp only;rw[e,hcl];exact hw) lf2 k1
     exact(by simpa using this:Valid ⟨d.size,cur ⟨d.size,d.secs,toP W,lf⟩,toP [w],lf2⟩)
    rw[Eo hv3];by_cases hl2:lf2=0
    ·rw[if_pos hl2];right;right;refine⟨fun e=>by have:=k2 (hlz.2 (h2 e));omega,[w],.inr rfl,by rw[hl2]⟩
    ·rw[if_neg hl2];left;refine⟨jV lf2,by unfold jV;split<;>omega,fun e=>?_,rfl⟩;have:=k2 (hlz.2 (h2 e));rw[this];rfl
end Go.Proofs.YtichfhpgdhdiaaaGreat
namespace Go.Proofs.YtichfhpgdhdiaaaGreat
def frX(a:iX)(sz H:Nat):Nat→Nat→List (List iX×Nat)×Bool
 |0,k=>([],false)
 |f+1,k=>if k<H∧a[k*sz]?≠some 0 then(if (kD (a.drop (k*sz))).2.2 then
   (((kD (a.drop (k*sz))).1,k+need (kD (a.drop (k*sz))).2.1 sz)::(frX a sz H f (k+need (kD (a.drop (k*sz))).2.1 sz)).1,(frX a sz H f (k+need (kD (a.drop (k*sz))).2.1 sz)).2)else([],true))else([],false)
def oJ(l:List (List iX×Nat))(k:Nat):Nat:=(l.getLast?.map (·.2)).getD k
theorem Ep(l:List (List iX×Nat))(x:List iX×Nat)(k:Nat):oJ (l++[x]) k=x.2:=by simp[oJ]
theorem ND(l:List (List iX×Nat))(x:List iX×Nat)(k:Nat):oJ (x::l) k=oJ l x.2:=by
 unfold oJ;cases l with
 |nil=>rfl
 |cons y l=>rw[List.getLast?_cons_cons];cases h:(y::l).getLast? with
  |none=>simp at h
  |some z=>rfl
theorem NE{a:iX}{sz H f k:Nat}(h:k<H∧a[k*sz]?≠some 0){l:List iX}{c:Nat}(hd:kD (a.drop (k*sz))=(l,c,true)):frX a sz H (f+1) k=((l,k+need c sz)::(frX a sz H f (k+need c sz)).1,(frX a sz H f (k+need c sz)).2):=by
 show (if k<H∧a[k*sz]?≠some 0 then _ else _)=_;rw[if_pos h,hd];rfl
theorem IC{a:iX}{sz H f k:Nat}(h:k<H∧a[k*sz]?≠some 0)(hd:(kD (a.drop (k*sz))).2.2=false):frX a sz H (f+1) k=([],true):=by
 show (if k<H∧a[k*sz]?≠some 0 then _ else _)=_;rw[if_pos h,hd];rfl
theorem Dc{a:iX}{sz H f k:Nat}(h:¬(k<H∧a[k*sz]?≠some 0)):frX a sz H f k=([],false):=by
 cases f with
 |zero=>rfl
 |succ f=>show (if k<H∧a[k*sz]?≠some 0 then _ else _)=_;rw[if_neg h]
theorem Yq{a:iX}{sz H:Nat}:∀(f k:Nat) (acc:List iX),KQ a sz H f k acc=if (frX a sz H f k).2=true then none else some (acc++(frX a sz H f k).1.flatMap (·.1),oJ (frX a sz H f k).1 k)
 |0,k,acc=>by simp[KQ,frX,oJ]
 |f+1,k,acc=>by
  by_cases h:k<H∧a[k*sz]?≠some 0
  ·rw[vF h];cases hd:kD (a.drop (k*sz))with
   |mk l q =>
    obtain⟨c,ok⟩:=q;cases ok with
    |false =>
     rw[IC h (by rw[hd])];simp
    |true =>
     rw[NE h hd,if_pos rfl,Yq f];simp only[aG,ND,aA]
  ·rw[oH h,Dc h];simp[oJ]
def mX(a:iX)(sz H:Nat):List (List iX×Nat)×Bool:=frX a sz H (H+1) 0
theorem W9(a:iX)(sz H:Nat):oZ a sz H=if (mX a sz H).2=true then none else some ((mX a sz H).1.flatMap (·.1),oJ (mX a sz H).1 0):=by
 unfold oZ mX;rw[Yq];rfl
theorem AY{a:iX}{sz H:Nat}(hs:1≤sz)(ha:a.length=H*sz):∀(f k:Nat),k≤H→(frX a sz H f k).1.length≤H-k∧∀x∈(frX a sz H f k).1,x.1.length≤1000∧x.2≤H
 |0,k,hk=>by simp[frX]
 |f+1,k,hk=>by
  by_cases h:k<H∧a[k*sz]?≠some 0
  ·cases hd:kD (a.drop (k*sz))with
   |mk l q =>
    obtain⟨c,ok⟩:=q;cases ok with
    |false=>rw[IC h (by rw[hd])];simp
    |true =>
     obtain⟨c1,c2⟩:=sQ hd;have hn:=sP c1 hs;have hm:c≤(H-k)*sz:=by
      rw[aC,ha]at c2;rw[Nat.sub_mul];exact c2
     have hn2:=rZ hs hm;have ih:=AY hs ha f (k+need c sz) fZ ;rw[NE h hd];refine⟨by simp only[aI];omega,fun x hx=>?_⟩;rcases bC.1 hx with rfl|hx
     ·exact⟨(AX hd).1.1,by simp only;omega⟩
     ·exact ih.2 x hx
  ·rw[Dc h];simp
end Go.Proofs.YtichfhpgdhdiaaaGreat
namespace Go.Proofs.YtichfhpgdhdiaaaGreat
def qy(sz:Nat)(L:List ByteArray):Prop:=∀s∈L,s.size=sz
theorem qy.take{sz:Nat}{L:List ByteArray}(h:qy sz L)(n:Nat):qy sz (L.take n):=fun s hs=>h s (dZ hs)
theorem qy.drop{sz:Nat}{L:List ByteArray}(h:qy sz L)(n:Nat):qy sz (L.drop n):=fun s hs=>h s (List.mem_of_mem_drop hs)
theorem AZ{sz:Nat}:∀{L:List ByteArray},qy sz L→(L.flatMap kH).length=L.length*sz
 |[],_=>by simp
 |s::L,h=>by
  have h1:=h s gu ;have h2:=AZ (L:=L) fun x hx=>h x (by simp[hx])
  rw[aG,aj,h2,aI,Da,h1,dx];omega
theorem IE{sz:Nat}:∀{L:List ByteArray} (u:Nat),qy sz L→(L.flatMap kH).take (u*sz)=(L.take u).flatMap kH
 |L,0,_=>by simp
 |[],u+1,_=>by simp
 |s::L,u+1,h=>by
  have h1:(kH s).length=sz:=h s gu ;rw[aG,dI,aG,show (u+1)*sz=(kH s).length+u*sz by rw[h1,dx];omega,List.take_length_add_append,IE u fun x hx=>h x (by simp[hx])]
theorem IG{sz:Nat}:∀{L:List ByteArray} (u:Nat),qy sz L→(L.flatMap kH).drop (u*sz)=(L.drop u).flatMap kH
 |L,0,_=>by simp
 |[],u+1,_=>by simp
 |s::L,u+1,h=>by
  have h1:(kH s).length=sz:=h s gu ;rw[aG,dM,show (u+1)*sz=(kH s).length+u*sz by rw[h1,dx];omega,List.drop_length_add_append,IG u fun x hx=>h x (by simp[hx])]
theorem um{s:ByteArray}(h:1≤s.size):∃t,kH s=jY s::t:=by
 unfold jY;cases hb:kH s with
 |nil =>
  have:=Da s;rw[hb]at this;simp at this;omega
 |cons a t=>exact⟨t,rfl⟩
theorem KT{sz:Nat}{L:List ByteArray}(h:qy sz L)(hs:1≤sz){k:Nat}(hk:k<L.length):(L.flatMap kH)[k*sz]?=some (jY (L.getD k ⟨#[]⟩)):=by
 have e:(L.flatMap kH)[k*sz]?=((L.flatMap kH).drop (k*sz))[0]?:=by simp
 rw[e,IG k h,aR hk,aG];obtain⟨t,ht⟩:=um (s:=L[k]) (by rw[h _ (dA hk)];exact hs);rw[ht];simp[List.getD,au hk]
theorem BQ{sz:Nat}(hs:1≤sz)(t:iX):∀m:Nat,((List.range m).map fun i=>fu (wW sz ((t.drop (i*sz)).take sz))).flatMap kH=t.take (m*sz)++List.replicate (m*sz-t.length) 0
 |0=>by simp
 |m+1=>by
  rw[List.range_succ,eG,aZ,BQ hs t m];simp only[dJ,eB,aG,dQ,aU,oI];unfold wW;have e:(m+1)*sz=m*sz+sz:=by rw[dx];omega
  by_cases h:m*sz≤t.length
  ·rw[show m*sz-t.length=0 by omega,List.replicate_zero,aU,←aA,e,List.take_add];congr 2;rw[aH,aC];omega
  ·have h1:t.drop (m*sz) = []:=cO fZ ;rw[h1,List.take_nil,aO,aA,aF fZ ,aF fZ ];congr 1;simp only[aM,eP];rw[List.replicate_append_replicate];congr 1;omega
theorem zC{l:List iX}(h:l≠[])(sz:Nat):(kT l sz).length=need (su l).length sz:=by
 unfold kT;rw[if_neg h];simp
theorem II(l:List iX){sz:Nat}:qy sz (kT l sz):=fun s hs=>by
 unfold kT at hs;split at hs
 ·simp at hs
 ·obtain⟨i,_,rfl⟩:=dS.1 hs;rw[gL];unfold wW;rw[aj,eF,aH];omega
theorem KU{l:List iX}(h:l≠[]){sz:Nat}(hs:1≤sz):(kT l sz).flatMap kH=su l++List.replicate (need (su l).length sz*sz-(su l).length) 0:=by
 unfold kT;rw[if_neg h,BQ hs,aF (OU hs)]
theorem wK{l:List iX}(h:l≠[]){sz:Nat}(hs:1≤sz):1≤(kT l sz).length:=by
 rw[zC h];exact sP (OT l) hs
theorem Gn{sz H:Nat}(hs:1≤sz){L L':List ByteArray}(hL:qy sz L)(hL':qy sz L')(hl:L.length=H)(hl':L'.length=H){r:List iX}{u:Nat}(h:oZ (L.flatMap kH) sz H=some (r,u))(ht:L'.take u=L.take u):
  oZ (L'.flatMap kH) sz H=KQ (L'.flatMap kH) sz H (H+1) u r:=by
 have ha:(L.flatMap kH).length=H*sz:=by rw[AZ hL,hl]
 have ha':(L'.flatMap kH).length=H*sz:=by rw[AZ hL',hl']
 unfold oZ at h ⊢;exact KR hs ha (by rw[ha',ha]) (H+1) 0 [] r u (H+1) fZ fZ fZ h (by rw[IE u hL,IE u hL',ht])
theorem zF{sz H:Nat}(hs:1≤sz){L:List ByteArray}(hL:qy sz L)(hl:L.length=H){r:List iX}{u:Nat}(h:oZ (L.flatMap kH) sz H=some (r,u)):u≤H∧(u<H→jY (L.getD u ⟨#[]⟩)=0):=by
 have ha:(L.flatMap kH).length=H*sz:=by rw[AZ hL,hl]
 have he:=C8 hs ha (H+1) 0 [] r u fZ fZ h;refine⟨he.2.1,fun hlt=>?_⟩;have h1:=he.2.2 hlt;rw[KT hL hs fZ ]at h1;exact aB h1
theorem QA{sz H:Nat}(hs:1≤sz){L L':List ByteArray}(hL:qy sz L)(hL':qy sz L')(hl:L.length=H)(hl':L'.length=H){r:List iX}{u:Nat}(h:oZ (L.flatMap kH) sz H=some (r,u))(ht:L'.take u=L.take u)(h0:u<H→jY (L'.getD u ⟨#[]⟩)=0):oZ (L'.flatMap kH) sz H=some (r,u):=by
 rw[Gn hs hL hL' hl hl' h ht];refine oH fun hc=>?_
 have:=h0 hc.1;rw[KT hL' hs fZ ,this]at hc;exact hc.2 rfl
theorem QB{sz H:Nat}(hs:1≤sz){L L':List ByteArray}(hL:qy sz L)(hL':qy sz L')(hl:L.length=H)(hl':L'.length=H){r:List iX}{u:Nat}(h:oZ (L.flatMap kH) sz H=some (r,u))(ht:L'.take u=L.take u){l:List iX}(hne:l≠[])(hok:rU l){T:List ByteArray}(hd:L'.drop u=kT l sz++T)(h0:∀s t,T=s::t→jY s=0):oZ (L'.flatMap kH) sz H=some (r++l,u+(kT l sz).length):=by
 rw[Gn hs hL hL' hl hl' h ht];have hue:=(zF hs hL hl h).1;have hp:=wK hne hs;have hlen:=congrArg List.length hd;rw[aC,aj,hl']at hlen;have hbytes:(L'.flatMap kH).drop (u*sz)=su l++(List.replicate (need (su l).length sz*sz-(su l).length) 0++T.flatMap kH):=by
  rw[IG u hL',hd,aZ,KU hne hs,aA]
 have hdec:kD ((L'.flatMap kH).drop (u*sz))=(l,(su l).length,true):=by rw[hbytes];exact AV _ hok
 have NF:(L'.flatMap kH)[u*sz]?=some 1:=by
  have e:(L'.flatMap kH)[u*sz]?=((L'.flatMap kH).drop (u*sz))[0]?:=by simp
  rw[e,hbytes];rfl
 rw[vF ⟨by omega,by rw[NF];simp⟩,hdec];simp only[if_true];rw[←zC hne sz];refine oH fun hc=>?_
 have hT:∃s t,T=s::t:=by
  cases T with
  |nil=>simp at hlen;omega
  |cons s t=>exact⟨s,t,rfl⟩
 obtain⟨s,t,rfl⟩:=hT;have h1:=h0 s t rfl;have e:L'.getD (u+(kT l sz).length) ⟨#[]⟩=s:=by
  have:(L'.drop u)[(kT l sz).length]?=some s:=by rw[hd];simp
  rw[bX]at this;simp[List.getD,this]
 rw[KT hL' hs fZ ,e,h1]at hc;exact hc.2 rfl
theorem KV{sz H:Nat}(hs:1≤sz){L':List ByteArray}(hL':qy sz L')(hl':L'.length=H){l:List iX}(hok:rU l){T:List ByteArray}(hd:L'=kT l sz++T)(h0:∀s t,T=s::t→jY s=0):oZ (L'.flatMap kH) sz H=some (l,(kT l sz).length):=by
 by_cases hne:l = []
 ·subst hne;have he:kT [] sz = []:=rfl;rw[he,aO]at hd;subst hd;show KQ _ sz H (H+1) 0 []=_;rw[he];refine oH fun hc=>?_
  have hT:∃s t,L'=s::t:=by
   cases L' with
   |nil=>simp at hl';omega
   |cons s t=>exact⟨s,t,rfl⟩
  obtain⟨s,t,rfl⟩:=hT;have h1:=h0 s t rfl;rw[KT hL' hs fZ ]at hc;simp only[List.getD_cons_zero,h1]at hc;exact hc.2 rfl
 ·have hbytes:L'.flatMap kH=su l++(List.replicate (need (su l).length sz*sz-(su l).length) 0++T.flatMap kH):=by
   rw[hd,aZ,KU hne hs,aA]
  have hp:=wK hne hs;have hlen:=congrArg List.length hd;rw[aj,hl']at hlen;have hdec:kD ((L'.flatMap kH).drop (0*sz))=(l,(su l).length,true):=by rw[fV,dY,hbytes];exact AV _ hok
  have NF:(L'.flatMap kH)[0*sz]?=some 1:=by rw[fV,hbytes];rfl
  show KQ _ sz H (H+1) 0 []=_;rw[vF ⟨by omega,by rw[NF];simp⟩,hdec];simp only[if_true,aO,bH];rw[←zC hne sz];refine oH fun hc=>?_
  have hT:∃s t,T=s::t:=by
   cases T with
   |nil=>simp at hlen;omega
   |cons s t=>exact⟨s,t,rfl⟩
  obtain⟨s,t,rfl⟩:=hT;have h1:=h0 s t rfl;have e:L'.getD ((kT l sz).length) ⟨#[]⟩=s:=by rw[hd];simp[List.getD]
  rw[KT hL' hs fZ ,e,h1]at hc;exact hc.2 rfl
end Go.Proofs.YtichfhpgdhdiaaaGreat
namespace Go.Proofs.YtichfhpgdhdiaaaGreat
theorem mR(l:List ByteArray)(W:List ny):(iG l W).length=l.length:=lF _ _
theorem l9(l:List ByteArray)(w:ny)(W:List ny):iG l (w::W)=iG (l.set w.1 w.2) W:=by
 unfold iG toP;rw[dJ,eU];unfold si;simp
theorem mU:∀(W:List ny) (l:List ByteArray) (i:Nat),(∀w∈W,w.1≠i)→(iG l W)[i]?=l[i]?
 |[],l,i,_=>rfl
 |w::W,l,i,h=>by
  rw[l9,mU W _ i fun x hx=>h x (by simp[hx]),bB (h w gu )]
theorem mV{sz:Nat}:∀(W:List ny) (l:List ByteArray),qy sz l→(∀w∈W,w.2.size=sz)→qy sz (iG l W)
 |[],l,h,_=>h
 |w::W,l,h,hw=>by
  rw[l9];refine mV W _ (fun s hs=>?_) fun x hx=>hw x (by simp[hx])
  rcases bS hs with h1|h1
  ·exact h s h1
  ·rw[h1];exact hw w gu
theorem Df:∀(S:List ByteArray) (a:Nat),∀w∈ng a S,a≤w.1∧w.1<a+S.length∧w.2∈S
 |[],a,w,h=>by simp[ng]at h
 |s::S,a,w,h=>by
  rcases bC.1 h with rfl|h
  ·simp
  ·obtain⟨h1,h2,h3⟩:=Df S (a+1) w h;rw[aI];exact⟨by omega,by omega,by simp[h3]⟩
theorem A8:∀(S:List ByteArray) (a:Nat) (l:List ByteArray),a+S.length≤l.length→iG l (ng a S)=l.take a++S++l.drop (a+S.length)
 |[],a,l,_=>by simp[ng,iG,toP]
 |s::S,a,l,h=>by
  rw[aI]at h;show iG l ((a,s)::ng (a+1) S)=_;rw[l9,A8 S (a+1) _ (by rw[aX];omega),aI];simp only;rw[show a+1+S.length=a+(S.length+1) by omega,List.drop_set_of_lt fZ ,aN (by rw[aX];omega),List.getElem_set_self];rw[List.take_set_of_le fZ ];simp
theorem Er(a:Nat)(S:List ByteArray)(s:ByteArray):ng a (S++[s])=ng a S++[(a+S.length,s)]:=by
 induction S generalizing a with
 |nil=>rfl
 |cons x S ih =>
  show (a,x)::ng (a+1) (S++[s])=(a,x)::(ng (a+1) S++_);rw[ih,aI,show a+1+S.length=a+(S.length+1) by omega]
def vH(m:Nat)(S:List ByteArray)(sz:Nat):List ByteArray:=if S.length<m then S++[jN sz]else S
theorem KW{a m sz:Nat}(S:List ByteArray):o5 a S (a+m) sz=ng a (vH m S sz):=by
 unfold o5 vH;by_cases h:S.length<m
 ·rw[if_pos fZ ,if_pos h,Er]
 ·rw[if_neg fZ ,if_neg h,aU]
theorem Gp{m sz:Nat}{S:List ByteArray}(h:S.length≤m):(vH m S sz).length≤m:=by
 unfold vH;split
 ·simp;omega
 ·exact h
theorem rE(sz:Nat):(jN sz).size=sz:=by unfold jN;rw[gL];simp
theorem yu(sz:Nat):jY (jN sz)=0:=by
 unfold jN jY;rw[oI];cases sz with
 |zero=>rfl
 |succ n=>rfl
theorem uo{sz:Nat}(h:1≤sz)(a:Nat):(lW sz a).size=sz:=by unfold lW wW;rw[gL];simp;omega
theorem yw(sz:Nat)(a:Nat):jY (lW sz a)=UInt8.ofNat a:=by unfold lW jY wW;rw[oI];rfl
theorem Gq{m sz:Nat}{S:List ByteArray}(h:qy sz S):qy sz (vH m S sz):=by
 unfold vH;split
 ·intro s hs;rcases bq.1 hs with hs|hs
  ·exact h s hs
  ·have:s=jN sz:=by simpa using hs
   rw[this];exact rE sz
 ·exact h
theorem zG{size:Int}:∀(W:List (Int×ByteArray)) (l:List ByteArray) (ps:List Int),(kP size l W ps).length=l.length
 |[],l,ps=>by simp[kP]
 |w::W,l,ps=>by
  show (kP size (l.set _ _) W ps.tail).length=_;rw[zG W];simp
theorem zH{size:Int}:∀(W:List ny) (l:List ByteArray) (ps:List Int) (i:Nat),(∀w∈W,w.1≠i)→(kP size l (toP W) ps)[i]?=l[i]?
 |[],l,ps,i,_=>by simp[kP,toP]
 |w::W,l,ps,i,h=>by
  show (kP size (l.set ((w.1:Int)).toNat _) (toP W) ps.tail)[i]?=_;rw[zH W _ ps.tail i fun x hx=>h x (by simp[hx]),aT,bB (h w gu )]
theorem zI(n:Int){size:Int}(h:1≤size):pick n size≤size.toNat:=by
 have:=Iw n size h;omega
theorem Es{sz:Nat}{l:List ByteArray}(h:qy sz l){i:Nat}(hi:i<l.length):(l.getD i ⟨#[]⟩).size=sz:=by
 rw[List.getD,au hi];exact h _ (dA hi)
theorem zJ{size:Int}{sz:Nat}(hz:size=sz)(hs:1≤sz):∀(W:List ny) (l:List ByteArray) (ps:List Int),qy sz l→(∀w∈W,w.1<l.length∧w.2.size=sz)→qy sz (kP size l (toP W) ps)
 |[],l,ps,h,_=>by simpa [kP,toP] using h
 |w::W,l,ps,h,hw=>by
  show qy sz (kP size (l.set ((w.1:Int)).toNat (qw (pick (ps.headD 0) size) w.2 (l.getD ((w.1:Int)).toNat ⟨#[]⟩))) (toP W) ps.tail);rw[aT];obtain⟨h1,h2⟩:=hw w gu ;have hg:=Es h h1;have hp:=zI (ps.headD 0) (size:=size) fZ ;refine zJ hz hs W _ ps.tail (fun s hs'=>?_) fun x hx=>by rw[aX];exact hw x (by simp[hx])
  rcases bS hs' with h3|h3
  ·exact h s h3
  ·rw[h3,wI (by rw[hg,h2]) (by rw[hg];omega),hg]
theorem KY{k:Nat}{x y:ByteArray}(h:k≤x.size):kH (qw k x y)=(kH x).take k++(kH y).drop k:=by
 unfold qw kH;rw[ByteArray.data_append,Array.toList_append,dF,dF,eO,eO,dN,dN];congr 1;apply aF;rw[aC];exact ak _
theorem Gr{k:Nat}{x y:ByteArray}(hx:x.size=y.size)(hk:k≤x.size)(h1:1≤x.size):jY (qw k x y)=if k=0 then jY y else jY x:=by
 unfold jY;rw[KY hk];obtain⟨tx,hx1⟩:=um h1;obtain⟨ty,hy1⟩:=um (s:=y) fZ ;cases k with
 |zero=>simp
 |succ k =>
  rw[hx1];simp
theorem Gs{size:Int}{sz:Nat}(hz:size=sz)(hs:1≤sz){i:Nat}:∀(W:List ny) (l:List ByteArray) (ps:List Int),qy sz l→(∀w∈W,w.1<l.length∧w.2.size=sz)→i<l.length→jY (l.getD i ⟨#[]⟩)=0→(∀w∈W,w.1=i→jY w.2=0) →
  jY ((kP size l (toP W) ps).getD i ⟨#[]⟩)=0
 |[],l,ps,h,_,_,h0,_=>by simpa [kP,toP] using h0
 |w::W,l,ps,h,hw,hi,h0,hb=>by
  show jY ((kP size (l.set ((w.1:Int)).toNat (qw (pick (ps.headD 0) size) w.2 (l.getD ((w.1:Int)).toNat ⟨#[]⟩))) (toP W) ps.tail).getD i ⟨#[]⟩)=0;rw[aT];obtain⟨h1,h2⟩:=hw w gu ;have hg:=Es h h1;have hp:=zI (ps.headD 0) (size:=size) fZ ;refine Gs hz hs W _ ps.tail (fun s hs'=>?_) (fun x hx=>by rw[aX];exact hw x (by simp[hx])) (by rw[aX];exact hi) ?_ fun x hx=>hb x (by simp[hx])
  ·rcases bS hs' with h3|h3
   ·exact h s h3
   ·rw[h3,wI (by rw[hg,h2]) (by rw[hg];omega),hg]
  ·by_cases e:w.1=i
   ·have hb1:=hb w gu e;rw[e]at hg ⊢;rw[List.getD,bE hi];simp only[dh];rw[Gr (by rw[hg,h2]) (by rw[h2];omega) (by rw[h2];exact hs)];split
    ·exact h0
    ·exact hb1
   ·rw[List.getD,bB e];exact h0
structure Good(d:Dk)(act:Nat)(r:List iX)(u:Nat):Prop where
 v:Valid d
 n:3≤d.secs.length
 p:d.pend = []
 o:xL d.secs d.size.toNat=some (act,r,u)
theorem Good.open_{d:Dk}{act:Nat}{r:List iX}{u:Nat}(h:Good d act r u):jk d=((act,r,u),0):=by
 have h1:mF d=0:=by unfold mF;rw[if_neg (fun e=>e (mq.2 h.v)),if_neg (by have:=h.n;omega)]
 have h2:cur d=d.secs:=by unfold cur;rw[h.p];rfl
 unfold jk;rw[if_neg (fun e=>e h1),h2,h.o]
theorem Good.sz{d:Dk}{act:Nat}{r:List iX}{u:Nat}(h:Good d act r u):d.size=(d.size.toNat:Int)∧1≤d.size.toNat∧d.size.toNat≤512∧qy d.size.toNat d.secs:=by
 have h1:=h.v.s1;have h2:=h.v.s2;refine⟨by omega,by omega,by omega,fun s hs=>?_⟩;have:=h.v.ss s hs;omega
structure Act(l:List ByteArray)(sz act:Nat)(r:List iX)(u:Nat):Prop where
 a:act=1∨act=2
 b:(jY (l.getD 0 ⟨#[]⟩)).toNat=act
 r:oZ (((l.drop (gN l.length act)).take (gZ l.length)).flatMap kH) sz (gZ l.length)=some (r,u)
theorem mW{l:List ByteArray}{sz act:Nat}{r:List iX}{u:Nat}:xL l sz=some (act,r,u)↔Act l sz act r u:=by
 constructor
 ·intro h;unfold xL at h;split at h
  ·rename_i hb
   cases ha:oZ (lI l (gN l.length (jY (l.getD 0 ⟨#[]⟩)).toNat) (gZ l.length)) sz (gZ l.length)with
   |none=>rw[ha]at h;simp at h
   |some x =>
    rw[ha]at h;simp only[Option.map_some,Option.some.injEq,Prod.mk.injEq]at h;obtain⟨h1,h2,h3⟩:=h;subst h1;refine⟨hb,rfl,?_⟩;rw[show oZ (((l.drop (gN l.length _)).take (gZ l.length)).flatMap kH) sz (gZ l.length)=_ from ha,←h2,←h3]
  ·simp at h
 ·rintro⟨h1,h2,h3⟩;unfold xL;rw[h2,if_pos h1];unfold lI;rw[h3];rfl
theorem wL{n:Nat}(h:3≤n):1≤gZ n∧1+2*gZ n≤n:=by unfold gZ;omega
theorem nE{n act:Nat}(h:3≤n)(ha:act=1∨act=2):1≤gN n act∧gN n act+gZ n≤n∧(act=1→gN n act=1)∧(act=2→gN n act=1+gZ n):=by
 have:=wL h;unfold gN;rcases ha with rfl|rfl<;>simp<;>omega
theorem zK{l l':List ByteArray}{sz act:Nat}{r:List iX}{u:Nat}(hs:1≤sz)(hn:3≤l.length)(h:Act l sz act r u)(hl:l'.length=l.length)(hS:qy sz l)(hS':qy sz l')(h0:jY (l'.getD 0 ⟨#[]⟩)=jY (l.getD 0 ⟨#[]⟩))(hi:∀i,gN l.length act≤i→i<gN l.length act+u→l'[i]?=l[i]?)(hu:u<gZ l.length→jY (l'.getD (gN l.length act+u) ⟨#[]⟩)=0):Act l' sz act r u:=by
 obtain⟨a,b,c⟩:=h;have hf:=nE hn a;have hL:((l.drop (gN l.length act)).take (gZ l.length)).length=gZ l.length:=by rw[aH,aC];omega
 have hL':((l'.drop (gN l.length act)).take (gZ l.length)).length=gZ l.length:=by rw[aH,aC];omega
 have hue:=(zF hs ((hS.drop _).take _) hL c).1;refine⟨a,by rw[h0];exact b,?_⟩;rw[hl];refine QA hs ((hS.drop _).take _) ((hS'.drop _).take _) hL hL' c ?_ fun hlt=>?_
 ·rw[List.take_take,List.take_take,dz hue];apply List.ext_getElem?;intro i;rw[bR,bR];split
  ·rw[bX,bX];exact hi _ fZ fZ
  ·rfl
 ·have:=hu hlt;rw[List.getD,bR,if_pos hlt,bX];exact this
end Go.Proofs.YtichfhpgdhdiaaaGreat
namespace Go.Proofs.YtichfhpgdhdiaaaGreat
theorem Et{i:Nat}:∀(W:List ny) (l:List ByteArray),i<l.length→jY (l.getD i ⟨#[]⟩)=0→(∀w∈W,w.1=i→jY w.2=0)→jY ((iG l W).getD i ⟨#[]⟩)=0
 |[],l,_,h0,_=>h0
 |w::W,l,hi,h0,hb=>by
  rw[l9];refine Et W _ (by rw[aX];exact hi) ?_ fun x hx=>hb x (by simp[hx])
  by_cases e:w.1=i
  ·rw[e,List.getD,bE hi];exact hb w gu e
  ·rw[List.getD,bB e];exact h0
theorem Tv{s:ByteArray}{S:List ByteArray}{a:Nat}:∀w∈ng a (s::S),w.1=a→w.2=s:=fun w hw e=>by
 rcases bC.1 hw with rfl|hw
 ·rfl
 ·have:=(Df S (a+1) w hw).1;omega
theorem K6(s:ByteArray):jY (lJ s)=0:=by unfold lJ jY;rw[oI];rfl
theorem K7{s:ByteArray}(h:1≤s.size):(lJ s).size=s.size:=by
 unfold lJ;rw[gL,aI,aC,Da];omega
theorem OV{x y:ByteArray}(h:kH x=kH y):x=y:=by
 have h1:=tX x;have h2:=tX y;rw[←h1,←h2];exact congrArg fu h
theorem K8{s:ByteArray}(hs:1≤s.size){k:Nat}(hk:k≤s.size):qw k s (lJ s)=if k=0 then lJ s else s:=by
 apply OV;rw[KY hk];cases k with
 |zero=>simp
 |succ k =>
  rw[if_neg fZ ];obtain⟨t,ht⟩:=um hs;have hu:kH (lJ s)=0::t:=by unfold lJ;rw[oI,ht];rfl
  rw[hu,ht,dI,dM,cB,bQ]
structure Gt(d:Dk)(P:List iX→Prop):Prop where
 v:Valid d
 n:3≤d.secs.length
 now:∃act r u,jk d=((act,r,u),0)∧P r
 cut:∀ps,∃act r u,Good (vw d ps) act r u∧P r∧(vw d ps).size=d.size∧(vw d ps).secs.length=d.secs.length
theorem IJ{d:Dk}(h:Valid d)(ps:List Int):vw d ps=⟨d.size,kP d.size d.secs d.pend ps,[],-1⟩:=by unfold vw;rw[if_neg (fun e=>e (mq.2 h))]
theorem Tw{size:Int}{sz:Nat}{l:List ByteArray}{lf:Int}(hz:size=sz)(h1:1≤sz)(h2:sz≤512)(hn:1≤l.length)(hn2:l.length≤1000)(hs:qy sz l)(hl : -1≤lf):Valid ⟨size,l,[],lf⟩ :=
 ⟨by simp only;omega,by simp only;omega,hn,hn2,fun s h=>by have:=hs s h;simp only;omega,fun w hw=>by simp at hw,hl⟩
theorem QC{size:Int}{sz:Nat}{l:List ByteArray}{lf:Int}{W:List ny}(hz:size=sz)(h1:1≤sz)(h2:sz≤512)(hn:1≤l.length)(hn2:l.length≤1000)(hs:qy sz l)(hW:∀w∈W,w.1<l.length∧w.2.size=sz)(hl : -1≤lf):Valid ⟨size,l,toP W,lf⟩ :=
 ⟨by simp only;omega,by simp only;omega,hn,hn2,fun s h=>by have:=hs s h;simp only;omega,fun w hw=>by
  obtain⟨v,hv,rfl⟩:=dS.1 hw;have:=hW v hv;simp only;omega,hl⟩
theorem zL{size:Int}{sz:Nat}{l:List ByteArray}{lf:Int}{act:Nat}{r:List iX}{u:Nat}(hz:size=sz)(h1:1≤sz)(h2:sz≤512)(hn:3≤l.length)(hn2:l.length≤1000)(hs:qy sz l)(hl : -1≤lf)(ha:Act l sz act r u):Good ⟨size,l,[],lf⟩ act r u :=
 ⟨Tw hz h1 h2 fZ hn2 hs hl,hn,rfl,mW.2 (by rw[show (Dk.mk size l [] lf).size.toNat=sz by simp only;omega];exact ha)⟩
theorem Good.left{d:Dk}{act:Nat}{r:List iX}{u:Nat}(h:Good d act r u){P:List iX→Prop}(hP:P r):Gt d P:=by
 obtain⟨z1,z2,z3,z4⟩:=h.sz;refine⟨h.v,h.n,⟨act,r,u,h.open_,hP⟩,fun ps=>?_⟩;rw[IJ h.v,h.p];have e:kP d.size d.secs [] ps=d.secs:=by simp[kP]
 rw[e];exact⟨act,r,u,zL z1 z2 z3 h.n h.v.n2 z4 fZ (mW.1 h.o),hP,rfl,rfl⟩
theorem OW{size:Int}{sz:Nat}{l:List ByteArray}{W:List ny}(hz:size=sz)(h1:1≤sz)(h2:sz≤512)(hn:3≤l.length)(hn2:l.length≤1000)(hs:qy sz l)(hW:∀w∈W,w.1<l.length∧w.2.size=sz){P:List iX→Prop}(afB:∃act r u,Act (iG l W) sz act r u∧P r)(hcut:∀ps,∃act r u,Act (kP size l (toP W) ps) sz act r u∧P r):Gt ⟨size,l,toP W,0⟩ P:=by
 have hv:=QC (lf:=0) hz h1 h2 fZ hn2 hs hW fZ ;refine⟨hv,hn,?_,fun ps=>?_⟩
 ·obtain⟨act,r,u,ha,hp⟩:=afB;refine⟨act,r,u,?_,hp⟩;have e1:mF ⟨size,l,toP W,0⟩=0:=by unfold mF;rw[if_neg (fun e=>e (mq.2 hv)),if_neg (by simp only;omega)]
  have e2:cur ⟨size,l,toP W,0⟩=iG l W:=rfl;unfold jk;rw[if_neg (fun e=>e e1),e2,show (Dk.mk size l (toP W) 0).size.toNat=sz by simp only;omega,mW.2 ha]
 ·obtain⟨act,r,u,ha,hp⟩:=hcut ps;rw[IJ hv];have hcl:=zG (size:=size) (toP W) l ps;refine⟨act,r,u,zL hz h1 h2 (by simp only[hcl];exact hn) (by simp only[hcl];exact hn2) (zJ hz h1 W l ps hs hW) fZ ha,hp,rfl,?_⟩;simp only[hcl]
theorem Eu{l:List iX}(h:l≠[]){sz:Nat}(hs:1≤sz):kT l sz=hd0 (kT l sz)::(kT l sz).drop 1:=by
 have:=wK h hs;cases hS:kT l sz with
 |nil=>rw[hS]at this;simp at this
 |cons a t=>rfl
theorem BR{l:List iX}(h:l≠[]){sz:Nat}(hs:1≤sz):(hd0 (kT l sz)).size=sz:=by
 have e:=Eu h hs;exact II l (hd0 (kT l sz)) (by rw[e];simp[hd0])
theorem Dh{l:List ByteArray}{i:Nat}{s:ByteArray}(h:l[i]?=some s):l.getD i ⟨#[]⟩=s:=by rw[List.getD,h];rfl
theorem getD_eq{l l':List ByteArray}{i:Nat}(h:l'[i]?=l[i]?):l'.getD i ⟨#[]⟩=l.getD i ⟨#[]⟩:=by rw[List.getD,List.getD,h]
structure afC(secs:List ByteArray)(sz act:Nat)(r:List iX)(u:Nat)(l:List iX)(W:List ny)(w:ny):Prop where
 ok:∀x∈W,x.1<secs.length∧x.2.size=sz
 Vz:w.1<secs.length∧w.2.size=sz
 part:∀V,(∃k,V=W.take k)→Act (iG secs V) sz act r u∧∀size:Int,size=sz→∀ps,Act (kP size secs (toP V) ps) sz act r u
 fin:Act (iG (iG secs W) [w]) sz act (r++l) (u+(kT l sz).length)
 qw:∀size:Int,size=sz→∀ps,kP size (iG secs W) (toP [w]) ps=iG secs W∨kP size (iG secs W) (toP [w]) ps=iG (iG secs W) [w]
theorem wM{secs:List ByteArray}{sz act:Nat}{r:List iX}{u:Nat}{l:List iX}(hs:1≤sz)(hn:3≤secs.length)(hS:qy sz secs)(ha:Act secs sz act r u)(hne:l≠[])(hok:rU l)(hroom:(kT l sz).length≤gZ secs.length-u):
  afC secs sz act r u l (appW secs.length sz act u l) (gN secs.length act+u,hd0 (kT l sz)):=by
 have hf:=nE hn ha.a;have hL:((secs.drop (gN secs.length act)).take (gZ secs.length)).length=gZ secs.length:=by rw[aH,aC];omega
 obtain⟨hue,hz0⟩:=zF hs ((hS.drop _).take _) hL ha.r;have hpos:=wK hne hs;have hhd:=Eu hne hs;have VA:=BR hne hs;have hzero:jY (secs.getD (gN secs.length act+u) ⟨#[]⟩)=0:=by
  have:=hz0 fZ ;rw[List.getD,bR,if_pos fZ ,bX]at this;exact this
 obtain⟨S',hS'⟩:∃S',S'=lJ (hd0 (kT l sz))::(kT l sz).drop 1:=⟨_,rfl⟩;obtain⟨F,hF⟩:∃F,F=vH (gZ secs.length-u) S' sz:=⟨_,rfl⟩;have abZ:S'.length=(kT l sz).length:=by rw[hS',aI,aC];omega
 have afD:qy sz S':=fun s h=>by
  rw[hS']at h;rcases bC.1 h with rfl|h
  ·rw[K7 (by rw[VA];exact hs),VA]
  ·exact II l s (List.mem_of_mem_drop h)
 have hFl:F.length≤gZ secs.length-u:=by rw[hF];exact Gp fZ
 have hFs:qy sz F:=by rw[hF];exact Gq afD
 have hFh:∃F',F=lJ (hd0 (kT l sz))::F':=by
  rw[hF,hS'];unfold vH;split
  ·exact⟨_,rfl⟩
  ·exact⟨_,rfl⟩
 obtain⟨F',hF'⟩:=hFh;have hW:appW secs.length sz act u l=ng (gN secs.length act+u) F:=by
  unfold appW;rw[←hS',hF,show gN secs.length act+gZ secs.length=(gN secs.length act+u)+(gZ secs.length-u) by omega,KW]
 rw[hW];have VB:=Df F (gN secs.length act+u);have FC:∀x∈ng (gN secs.length act+u) F,x.1<secs.length∧x.2.size=sz:=fun x hx=>by
  obtain⟨h1,h2,h3⟩:=VB x hx;exact⟨by omega,hFs _ h3⟩
 have hWz:∀x∈ng (gN secs.length act+u) F,x.1=gN secs.length act+u→jY x.2=0:=fun x hx e=>by
  rw[hF']at hx;rw[Tv x hx e];exact K6 _
 have hd1:iG secs (ng (gN secs.length act+u) F)=secs.take (gN secs.length act+u)++F++secs.drop (gN secs.length act+u+F.length):=A8 F _ secs fZ ;have ab0:(iG secs (ng (gN secs.length act+u) F))[gN secs.length act+u]?=some (lJ (hd0 (kT l sz))):=by
  rw[hd1,hF',aA,bD (by rw[aH];omega),aH,show gN secs.length act+u-min (gN secs.length act+u) secs.length=0 by omega];rfl
 have La:qy sz (iG secs (ng (gN secs.length act+u) F)):=mV _ _ hS fun x hx=>(FC x hx).2
 have hlen1:(iG secs (ng (gN secs.length act+u) F)).length=secs.length:=mR _ _;have hset:iG (iG secs (ng (gN secs.length act+u) F)) [(gN secs.length act+u,hd0 (kT l sz))]=(iG secs (ng (gN secs.length act+u) F)).set (gN secs.length act+u) (hd0 (kT l sz)):=by
  rw[l9];rfl
 refine⟨FC,⟨by simp only;omega,VA⟩,?_,?_,?_⟩
 ·rintro V ⟨k,rfl⟩;have hsub:∀x∈(ng (gN secs.length act+u) F).take k,x∈ng (gN secs.length act+u) F:=fun x hx=>dZ hx
  constructor
  ·refine zK hs hn ha (mR _ _) hS (mV _ _ hS fun x hx=>(FC x (hsub x hx)).2) ?_ ?_ ?_
   ·rw[getD_eq (mU _ _ 0 fun x hx=>by have:=(VB x (hsub x hx)).1;omega)]
   ·intro i h1 h2;exact mU _ _ i fun x hx=>by have:=(VB x (hsub x hx)).1;omega
   ·intro hlt;exact Et _ _ fZ hzero fun x hx=>hWz x (hsub x hx)
  ·intro size hz ps;refine zK hs hn ha (zG _ _ _) hS (zJ hz hs _ _ ps hS fun x hx=>FC x (hsub x hx)) ?_ ?_ ?_
   ·rw[getD_eq (zH _ _ ps 0 fun x hx=>by have:=(VB x (hsub x hx)).1;omega)]
   ·intro i h1 h2;exact zH _ _ ps i fun x hx=>by have:=(VB x (hsub x hx)).1;omega
   ·intro hlt;exact Gs hz hs _ _ ps hS (fun x hx=>FC x (hsub x hx)) fZ hzero fun x hx=>hWz x (hsub x hx)
 ·rw[hset];have hl2:((iG secs (ng (gN secs.length act+u) F)).set (gN secs.length act+u) (hd0 (kT l sz))).length=secs.length:=by rw[aX,hlen1]
  have ab1:qy sz ((iG secs (ng (gN secs.length act+u) F)).set (gN secs.length act+u) (hd0 (kT l sz))):=fun s h=>by
   rcases bS h with h1|h1
   ·exact La s h1
   ·rw[h1];exact VA
  refine⟨ha.a,?_,?_⟩
  ·rw[getD_eq (l:=secs) (i:=0)]
   ·exact ha.b
   ·rw[bB fZ ];exact mU _ _ 0 fun x hx=>by have:=(VB x hx).1;omega
  ·rw[hl2];have hLl:((((iG secs (ng (gN secs.length act+u) F)).set (gN secs.length act+u) (hd0 (kT l sz))).drop (gN secs.length act)).take (gZ secs.length)).length=gZ secs.length:=by rw[aH,aC,hl2];omega
   have htail:∃T,(((((iG secs (ng (gN secs.length act+u) F)).set (gN secs.length act+u) (hd0 (kT l sz))).drop (gN secs.length act)).take (gZ secs.length)).drop u=kT l sz++T)∧∀s t,T=s::t→jY s=0:=by
    have e1:(iG secs (ng (gN secs.length act+u) F)).set (gN secs.length act+u) (hd0 (kT l sz))=secs.take (gN secs.length act+u)++(hd0 (kT l sz)::F')++secs.drop (gN secs.length act+u+F.length):=by
     rw[hd1,hF',aA,fD _ _ (by rw[aH];omega),aH,show gN secs.length act+u-min (gN secs.length act+u) secs.length=0 by omega];simp
    have e2:hd0 (kT l sz)::F'=kT l sz++(if S'.length<gZ secs.length-u then[jN sz]else[]):=by
     have:F'=(kT l sz).drop 1++(if S'.length<gZ secs.length-u then[jN sz]else[]):=by
      have h1:=hF;rw[hF',hS']at h1;unfold vH at h1;rw[←hS']at h1;split at h1
      ·rename_i hc
       rw[if_pos hc];rw[hS']at h1;exact(List.cons.inj h1).2
      ·rename_i hc
       rw[if_neg hc,aU];rw[hS']at h1;exact(List.cons.inj h1).2
     rw[this,←cB,←hhd]
    rw[List.drop_take,bP,e1,e2,aA,fq (by rw[aH];omega),cO (by rw[aH];omega),aO,aA,List.take_append,aF hroom];refine⟨_,rfl,fun s t hT=>?_⟩;split at hT
    ·rename_i hc
     rw[abZ]at hc;obtain⟨q,hq⟩:∃q,gZ secs.length-u-(kT l sz).length=q+1:=⟨gZ secs.length-u-(kT l sz).length-1,by omega⟩;rw[hq]at hT;simp only[List.singleton_append,cB,aO,dI,cu]at hT;rw[←hT.1];exact yu sz
    ·rename_i hc
     rw[abZ]at hc;rw[show gZ secs.length-u-(kT l sz).length=0 by omega,bO]at hT;cases hT
   obtain⟨T,hT1,hT2⟩:=htail;refine QB hs ((hS.drop _).take _) ((ab1.drop _).take _) hL hLl ha.r ?_ hne hok hT1 hT2;rw[List.take_take,List.take_take,dz hue];apply List.ext_getElem?;intro i;rw[bR,bR];split
   ·rw[bX,bX,bB fZ ];exact mU _ _ _ fun x hx=>by have:=(VB x hx).1;omega
   ·rfl
 ·intro size hz ps;rw[hset];show kP size ((iG secs (ng (gN secs.length act+u) F)).set (((gN secs.length act+u:Nat):Int)).toNat (qw (pick (ps.headD 0) size) (hd0 (kT l sz)) ((iG secs (ng (gN secs.length act+u) F)).getD (((gN secs.length act+u:Nat):Int)).toNat ⟨#[]⟩))) [] ps.tail=_∨kP size ((iG secs (ng (gN secs.length act+u) F)).set (((gN secs.length act+u:Nat):Int)).toNat (qw (pick (ps.headD 0) size) (hd0 (kT l sz)) ((iG secs (ng (gN secs.length act+u) F)).getD (((gN secs.length act+u:Nat):Int)).toNat ⟨#[]⟩))) [] ps.tail=_;have e0:∀(L:List ByteArray) (q:List Int),kP size L [] q=L:=fun L q=>by simp[kP]
  have hp:=zI (ps.headD 0) (size:=size) fZ ;rw[e0,aT,Dh ab0,K8 (by rw[VA];exact hs) (by rw[VA];omega)];split
  ·left;apply List.ext_getElem?;intro i;by_cases e:gN secs.length act+u=i
   ·rw[←e,bE (by rw[hlen1];omega),ab0]
   ·rw[bB e]
  ·right;rfl
end Go.Proofs.YtichfhpgdhdiaaaGreat
namespace Go.Proofs.YtichfhpgdhdiaaaGreat
theorem IK{L l':List ByteArray}{sz wT:Nat}{l:List iX}{m:Nat}(ho:wT=1∨wT=2)(hn:3≤L.length)(hl:l'.length=L.length)(h0:jY (l'.getD 0 ⟨#[]⟩)=UInt8.ofNat wT)(hi:∀i,1≤i→l'[i]?=L[i]?)(ha:oZ (((L.drop (gN L.length wT)).take (gZ L.length)).flatMap kH) sz (gZ L.length)=some (l,m)):Act l' sz wT l m:=by
 have hf:=nE hn ho;refine⟨ho,?_,?_⟩
 ·rw[h0];rcases ho with rfl|rfl<;>rfl
 ·rw[hl];have e:(l'.drop (gN L.length wT)).take (gZ L.length)=(L.drop (gN L.length wT)).take (gZ L.length):=by
   apply List.ext_getElem?;intro i;rw[bR,bR];split
   ·rw[bX,bX];exact hi _ fZ
   ·rfl
  rw[e];exact ha
structure afG(secs:List ByteArray)(sz act wT:Nat)(r:List iX)(u:Nat)(l:List iX)(W:List ny)(w:ny):Prop where
 ok:∀x∈W,x.1<secs.length∧x.2.size=sz
 Vz:w.1<secs.length∧w.2.size=sz
 part:∀V,(∃k,V=W.take k)→Act (iG secs V) sz act r u∧∀size:Int,size=sz→∀ps,Act (kP size secs (toP V) ps) sz act r u
 fin:Act (iG (iG secs W) [w]) sz wT l (kT l sz).length
 qw:∀size:Int,size=sz→∀ps,Act (kP size (iG secs W) (toP [w]) ps) sz act r u∨Act (kP size (iG secs W) (toP [w]) ps) sz wT l (kT l sz).length
theorem Bb{secs:List ByteArray}{sz act:Nat}{r:List iX}{u:Nat}{l:List iX}(hs:1≤sz)(hn:3≤secs.length)(hS:qy sz secs)(ha:Act secs sz act r u)(hok:rU l)(hroom:(kT l sz).length≤gZ secs.length):
  afG secs sz act (3-act) r u l (IB secs.length sz act l) (0,lW sz (3-act)):=by
 have hf:=nE hn ha.a;have hoth:3-act=1∨3-act=2:=by have:=ha.a;omega
 have hg:=nE hn hoth;have hh:=wL hn;have hne:act≠3-act:=by have:=ha.a;omega
 have hL:((secs.drop (gN secs.length act)).take (gZ secs.length)).length=gZ secs.length:=by rw[aH,aC];omega
 obtain⟨hue,hz0⟩:=zF hs ((hS.drop _).take _) hL ha.r;obtain⟨F,hF⟩:∃F,F=vH (gZ secs.length) (kT l sz) sz:=⟨_,rfl⟩;have hFl:F.length≤gZ secs.length:=by rw[hF];exact Gp hroom
 have hFs:qy sz F:=by rw[hF];exact Gq (II l)
 have hW:IB secs.length sz act l=ng (gN secs.length (3-act)) F:=by
  unfold IB;rw[hF,KW]
 rw[hW];have VB:=Df F (gN secs.length (3-act));have FC:∀x∈ng (gN secs.length (3-act)) F,x.1<secs.length∧x.2.size=sz:=fun x hx=>by
  obtain⟨h1,h2,h3⟩:=VB x hx;exact⟨by omega,hFs _ h3⟩
 have afH:∀i,gN secs.length act≤i→i<gN secs.length act+gZ secs.length→i<gN secs.length (3-act)∨gN secs.length (3-act)+gZ secs.length≤i:=fun i h1 h2=>by
  rcases ha.a with e|e
  ·have:=hf.2.2.1 e;have:=hg.2.2.2 fZ ;omega
  ·have:=hf.2.2.2 e;have:=hg.2.2.1 fZ ;omega
 have hout:∀i,i=0∨(gN secs.length act≤i∧i<gN secs.length act+gZ secs.length)→∀x∈ng (gN secs.length (3-act)) F,x.1≠i:=fun i hi x hx=>by
  have h1:=VB x hx;rcases hi with rfl|⟨h2,h3⟩
  ·omega
  ·have:=afH i h2 h3;omega
 have hzero:u<gZ secs.length→jY (secs.getD (gN secs.length act+u) ⟨#[]⟩)=0:=fun hlt=>by
  have:=hz0 hlt;rw[List.getD,bR,if_pos fZ ,bX]at this;exact this
 have hd1:iG secs (ng (gN secs.length (3-act)) F)=secs.take (gN secs.length (3-act))++F++secs.drop (gN secs.length (3-act)+F.length):=A8 F _ secs fZ ;have La:qy sz (iG secs (ng (gN secs.length (3-act)) F)):=mV _ _ hS fun x hx=>(FC x hx).2
 have hlen1:(iG secs (ng (gN secs.length (3-act)) F)).length=secs.length:=mR _ _;have keep:∀l',l'.length=secs.length→qy sz l'→(∀i,i=0∨(gN secs.length act≤i∧i<gN secs.length act+gZ secs.length)→l'[i]?=secs[i]?)→Act l' sz act r u:=fun l' h1 h2 h3 =>
  zK hs hn ha h1 hS h2 (by rw[getD_eq (h3 0 (.inl rfl))]) (fun i i1 i2=>h3 i (.inr ⟨i1,by omega⟩)) (fun hlt=>by rw[getD_eq (h3 _ (.inr ⟨by omega,by omega⟩))];exact hzero hlt)
 have Yr:oZ ((((iG secs (ng (gN secs.length (3-act)) F)).drop (gN (iG secs (ng (gN secs.length (3-act)) F)).length (3-act))).take (gZ (iG secs (ng (gN secs.length (3-act)) F)).length)).flatMap kH) sz (gZ (iG secs (ng (gN secs.length (3-act)) F)).length)=some (l,(kT l sz).length):=by
  rw[hlen1];have hLl:(((iG secs (ng (gN secs.length (3-act)) F)).drop (gN secs.length (3-act))).take (gZ secs.length)).length=gZ secs.length:=by rw[aH,aC,hlen1];omega
  refine KV hs ((La.drop _).take _) hLl hok (T:=((if (kT l sz).length<gZ secs.length then[jN sz]else[])++secs.drop (gN secs.length (3-act)+F.length)).take (gZ secs.length-(kT l sz).length)) ?_ fun s t hT=>?_
  ·rw[hd1,aA,fq (by rw[aH];omega),cO (by rw[aH];omega),aO];have e:F=kT l sz++(if (kT l sz).length<gZ secs.length then[jN sz]else[]):=by
    rw[hF];unfold vH;split
    ·rfl
    ·rw[aU]
   conv=>lhs;rw[e]
   rw[aA,List.take_append,aF hroom,←e]
  ·split at hT
   ·rename_i hc
    obtain⟨q,hq⟩:∃q,gZ secs.length-(kT l sz).length=q+1:=⟨gZ secs.length-(kT l sz).length-1,by omega⟩;rw[hq]at hT;simp only[List.singleton_append,cB,aO,dI,cu]at hT;rw[←hT.1];exact yu sz
   ·rename_i hc
    rw[show gZ secs.length-(kT l sz).length=0 by omega,bO]at hT;cases hT
 have hset:iG (iG secs (ng (gN secs.length (3-act)) F)) [(0,lW sz (3-act))]=(iG secs (ng (gN secs.length (3-act)) F)).set 0 (lW sz (3-act)):=by
  rw[l9];rfl
 refine⟨FC,⟨by simp only;omega,uo hs _⟩,?_,?_,?_⟩
 ·rintro V ⟨k,rfl⟩;have hsub:∀x∈(ng (gN secs.length (3-act)) F).take k,x∈ng (gN secs.length (3-act)) F:=fun x hx=>dZ hx
  refine⟨keep _ (mR _ _) (mV _ _ hS fun x hx=>(FC x (hsub x hx)).2) fun i hi=>mU _ _ i fun x hx=>hout i hi x (hsub x hx),fun size hz ps=>?_⟩;exact keep _ (zG _ _ _) (zJ hz hs _ _ ps hS fun x hx=>FC x (hsub x hx)) fun i hi=>zH _ _ ps i fun x hx=>hout i hi x (hsub x hx)
 ·rw[hset];refine IK hoth (by rw[hlen1];exact hn) (aX ..) ?_ (fun i hi=>by rw[bB fZ ]) Yr;rw[Dh (bE (by rw[hlen1];omega))];exact yw sz _
 ·intro size hz ps;show Act (kP size ((iG secs (ng (gN secs.length (3-act)) F)).set (((0:Nat):Int)).toNat (qw (pick (ps.headD 0) size) (lW sz (3-act)) ((iG secs (ng (gN secs.length (3-act)) F)).getD (((0:Nat):Int)).toNat ⟨#[]⟩))) [] ps.tail) sz act r u∨Act (kP size ((iG secs (ng (gN secs.length (3-act)) F)).set (((0:Nat):Int)).toNat (qw (pick (ps.headD 0) size) (lW sz (3-act)) ((iG secs (ng (gN secs.length (3-act)) F)).getD (((0:Nat):Int)).toNat ⟨#[]⟩))) [] ps.tail) sz (3-act) l (kT l sz).length;have e0:∀(L:List ByteArray) (q:List Int),kP size L [] q=L:=fun L q=>by simp[kP]
  have hp:=zI (ps.headD 0) (size:=size) fZ ;have hold:=Es La (i:=0) (by rw[hlen1];omega);have hms:=uo hs (3-act);rw[e0,aT];have htb:=Gr (k:=pick (ps.headD 0) size) (x:=lW sz (3-act)) (y:=(iG secs (ng (gN secs.length (3-act)) F)).getD 0 ⟨#[]⟩) (by rw[hms,hold]) (by rw[hms];omega) (by rw[hms];exact hs);have hts:(qw (pick (ps.headD 0) size) (lW sz (3-act)) ((iG secs (ng (gN secs.length (3-act)) F)).getD 0 ⟨#[]⟩)).size=sz:=by rw[wI (by rw[hms,hold]) (by rw[hold];omega),hold]
  generalize qw (pick (ps.headD 0) size) (lW sz (3-act)) ((iG secs (ng (gN secs.length (3-act)) F)).getD 0 ⟨#[]⟩)=t at *;have Yt:((iG secs (ng (gN secs.length (3-act)) F)).set 0 t).getD 0 ⟨#[]⟩=t:=Dh (bE (by rw[hlen1];omega));split at htb
  ·left;refine zK hs hn ha (by rw[aX,hlen1]) hS (fun s h=>?_) ?_ (fun i i1 i2=>?_) fun hlt=>?_
   ·rcases bS h with h1|h1
    ·exact La s h1
    ·rw[h1];exact hts
   ·rw[Yt,htb,getD_eq (mU _ _ 0 (hout 0 (.inl rfl)))]
   ·rw[bB fZ ];exact mU _ _ i (hout i (.inr ⟨i1,by omega⟩))
   ·rw[getD_eq (l:=secs) (i:=gN secs.length act+u)]
    ·exact hzero hlt
    ·rw[bB fZ ];exact mU _ _ _ (hout _ (.inr ⟨by omega,by omega⟩))
  ·right;exact IK hoth (by rw[hlen1];exact hn) (aX ..) (by rw[Yt,htb];exact yw sz _) (fun i hi=>by rw[bB fZ ]) Yr
inductive Out (d:Dk) (r r':List iX):Dk×Int→Prop
 |ok (d':Dk) (act u:Nat) (h:Good d' act r' u) (hl:d.left=-1→d'.left=-1) (hs:d'.size=d.size∧d'.secs.length=d.secs.length):Out d r r' (d',0)
 |lost (d':Dk) (h:Gt d' fun x=>x=r∨x=r') (h0:d'.left=0) (hl:d.left≠-1) (hs:d'.size=d.size∧d'.secs.length=d.secs.length):Out d r r' (d',20)
 |bad (e:Int) (h:e=4∨e=19):Out d r r' (iL,e)
theorem OX{d:Dk}{act:Nat}{r r':List iX}{u:Nat}(hg:Good d act r u){W:List ny}{w:ny}{a2 u2:Nat}(hok:∀x∈W,x.1<d.secs.length∧x.2.size=d.size.toNat)(Xa:w.1<d.secs.length∧w.2.size=d.size.toNat)(hpart:∀V,(∃k,V=W.take k)→Act (iG d.secs V) d.size.toNat act r u∧∀size:Int,size=d.size.toNat→∀ps,Act (kP size d.secs (toP V) ps) d.size.toNat act r u)(hfin:Act (iG (iG d.secs W) [w]) d.size.toNat a2 r' u2)(ab3:∀size:Int,size=d.size.toNat→∀ps,Act (kP size (iG d.secs W) (toP [w]) ps) d.size.toNat act r u∨Act (kP size (iG d.secs W) (toP [w]) ps) d.size.toNat a2 r' u2):
  Out d r r' (lg d (sS W w)):=by
 obtain⟨z1,z2,z3,z4⟩:=hg.sz;have hl1:(iG d.secs W).length=d.secs.length:=mR _ _;have hs1:qy d.size.toNat (iG d.secs W):=mV _ _ z4 fun x hx=>(hok x hx).2
 have hl2:(iG (iG d.secs W) [w]).length=d.secs.length:=by rw[mR,hl1]
 have hs2:qy d.size.toNat (iG (iG d.secs W) [w]):=mV _ _ hs1 fun x hx=>by
  have e:x=w:=by simpa using hx
  rw[e];exact Xa.2
 have hn2:=hg.v.n2;have hmid:=hpart W ⟨W.length,by rw[bG]⟩;rcases Db hg.v hg.p (W:=W) (w:=w) (fun x hx=>⟨(hok x hx).1,by have:=(hok x hx).2;omega⟩) ⟨Xa.1,by have:=Xa.2;omega⟩with ⟨lf,h1,h2,h3⟩|⟨h1,m,h2,h3⟩|⟨h1,p,h2,h3⟩
 ·rw[h3];exact .ok _ a2 u2 (zL z1 z2 z3 (by rw[hl2];exact hg.n) (by rw[hl2];exact hn2) hs2 h1 hfin) h2 ⟨rfl,hl2⟩
 ·rw[h3];refine .lost _ (OW z1 z2 z3 hg.n hn2 z4 (fun x hx=>hok x (dZ hx)) ?_ fun ps=>?_) rfl h1 ⟨rfl,rfl⟩
  ·exact⟨act,r,u,(hpart _ ⟨m,rfl⟩).1,.inl rfl⟩
  ·exact⟨act,r,u,(hpart _ ⟨m,rfl⟩).2 _ z1 ps,.inl rfl⟩
 ·rw[h3];have hl:(⟨d.size,iG d.secs W,toP p,0⟩:Dk).size=d.size∧(⟨d.size,iG d.secs W,toP p,0⟩:Dk).secs.length=d.secs.length:=⟨rfl,hl1⟩;refine .lost _ (OW z1 z2 z3 (by rw[hl1];exact hg.n) (by rw[hl1];exact hn2) hs1 (fun x hx=>?_) ?_ fun ps=>?_) rfl h1 hl
  ·rcases h2 with rfl|rfl
   ·simp at hx
   ·have e:x=w:=by simpa using hx
    rw[e,hl1];exact Xa
  ·rcases h2 with rfl|rfl
   ·exact⟨act,r,u,hmid.1,.inl rfl⟩
   ·exact⟨a2,r',u2,hfin,.inr rfl⟩
  ·rcases h2 with rfl|rfl
   ·have e:kP d.size (iG d.secs W) (toP []) ps=iG d.secs W:=by simp[kP,toP]
    rw[e];exact⟨act,r,u,hmid.1,.inl rfl⟩
   ·rcases ab3 _ z1 ps with h|h
    ·exact⟨act,r,u,h,.inl rfl⟩
    ·exact⟨a2,r',u2,h,.inr rfl⟩
theorem OY{d:Dk}{act:Nat}{r:List iX}{u:Nat}(hg:Good d act r u)(l:List iX):Out d r (r++l) (qa d l):=by
 obtain⟨z1,z2,z3,z4⟩:=hg.sz;unfold qa;rw[hg.open_,if_neg gu ];by_cases hok:rU l
 ·rw[if_neg (fun e=>e hok)];by_cases hne:l = []
  ·rw[if_pos hne,hne,aU];exact .ok d act u hg (fun h=>h) ⟨rfl,rfl⟩
  ·rw[if_neg hne];split
   ·exact .bad _ (.inr rfl)
   ·rename_i hroom
    simp only at hroom;have hf:=wM z2 hg.n z4 (mW.1 hg.o) hne hok fZ ;refine OX hg hf.ok hf.Vz hf.part hf.fin fun size hz ps=>?_
    rcases hf.qw size hz ps with e|e
    ·left;rw[e];exact(hf.part _ ⟨_,(bG).symm⟩).1
    ·right;rw[e];exact hf.fin
 ·rw[if_pos hok];exact .bad _ (.inl rfl)
theorem OZ{d:Dk}{act:Nat}{r:List iX}{u:Nat}(hg:Good d act r u)(l:List iX):Out d r l (wY d l):=by
 obtain⟨z1,z2,z3,z4⟩:=hg.sz;unfold wY;rw[hg.open_,if_neg gu ];by_cases hok:rU l
 ·rw[if_neg (fun e=>e hok)];split
  ·exact .bad _ (.inr rfl)
  ·rename_i hroom
   have hf:=Bb z2 hg.n z4 (mW.1 hg.o) hok fZ ;exact OX hg hf.ok hf.Vz hf.part hf.fin hf.qw
 ·rw[if_pos hok];exact .bad _ (.inl rfl)
end Go.Proofs.YtichfhpgdhdiaaaGreat
namespace Go.Proofs.YtichfhpgdhdiaaaGreat
theorem run_stuck{d:Dk}(hv:Valid d)(h0:d.left=0){W:List ny}(w:ny)(hW:Yp d.secs.length d.size W):lg d (sS W w)=(d,20):=by
 unfold sS;cases W with
 |nil =>
  simp only[eB,aO];rw[Eo hv,if_pos h0]
 |cons x W =>
  have hw:=hW x gu ;have he:=Tq hv hw;rw[if_pos h0]at he;have hd:AL d x.1 x.2=d:=by unfold AL;rw[he,if_neg gm ,if_pos rfl]
  show (if (zy d x.1 x.2)≠0 then(AL d x.1 x.2,zy d x.1 x.2)else lg (AL d x.1 x.2) (W.map some++_))=_;rw[he,if_pos gm ,hd]
theorem QD{d:Dk}(hv:Valid d)(hn:3≤d.secs.length){x:Nat×List iX×Nat}(h:jk d=(x,0)):xL (cur d) d.size.toNat=some x:=by
 have h1:mF d=0:=by unfold mF;rw[if_neg (fun e=>e (mq.2 hv)),if_neg fZ ]
 unfold jk at h;rw[if_neg (fun e=>e h1)]at h;cases ho:xL (cur d) d.size.toNat with
 |none=>rw[ho]at h;simp at h
 |some y=>rw[ho]at h;simp only[Prod.mk.injEq,and_true]at h;rw[h]
theorem O0{d:Dk}(hv:Valid d):qy d.size.toNat (cur d):=fun s hs=>by
 have:=rD d.pend d.secs hv.ss (fun w hw=>(hv.ws w hw).2.2) s hs;omega
structure O1(d:Dk)(act:Nat)(r:List iX)(u:Nat):Prop where
 v:Valid d
 n:3≤d.secs.length
 o:jk d=((act,r,u),0)
theorem O1.act{d:Dk}{act:Nat}{r:List iX}{u:Nat}(h:O1 d act r u):Act (cur d) d.size.toNat act r u:=mW.1 (QD h.v h.n h.o)
theorem Good.opn{d:Dk}{act:Nat}{r:List iX}{u:Nat}(h:Good d act r u):O1 d act r u:=⟨h.v,h.n,h.open_⟩
def oK(n sz u:Nat)(l:List iX):Int:=if ¬rU l then 4 else if l = []then 0 else if gZ n-u<(kT l sz).length then 19 else 0
def rF(n sz:Nat)(l:List iX):Int:=if ¬rU l then 4 else if gZ n<(kT l sz).length then 19 else 0
theorem Di{d:Dk}{act:Nat}{r:List iX}{u:Nat}(h:O1 d act r u)(l:List iX):qa d l=if oK d.secs.length d.size.toNat u l≠0 then(iL,oK d.secs.length d.size.toNat u l)else if l = []then(d,0)
  else lg d (sS (appW d.secs.length d.size.toNat act u l) (gN d.secs.length act+u,hd0 (kT l d.size.toNat))):=by
 by_cases hok:rU l
 ·by_cases hne:l = []
  ·have hb:oK d.secs.length d.size.toNat u l=0:=by unfold oK;rw[if_neg (c:=¬rU l) (fun e=>e hok),if_pos (c:=l = []) hne]
   rw[hb,if_neg (c:=(0:Int)≠0) gm ,if_pos (c:=l = []) hne];unfold qa;rw[h.o,if_neg gu ,if_neg (c:=¬rU l) (fun e=>e hok),if_pos (c:=l = []) hne]
  ·by_cases hr:gZ d.secs.length-u<(kT l d.size.toNat).length
   ·have hb:oK d.secs.length d.size.toNat u l=19:=by unfold oK;rw[if_neg (c:=¬rU l) (fun e=>e hok),if_neg (c:=l = []) hne,if_pos hr]
    rw[hb,if_pos (c:=(19:Int)≠0) gm ];unfold qa;rw[h.o,if_neg gu ,if_neg (c:=¬rU l) (fun e=>e hok),if_neg (c:=l = []) hne];simp only;rw[if_pos hr]
   ·have hb:oK d.secs.length d.size.toNat u l=0:=by unfold oK;rw[if_neg (c:=¬rU l) (fun e=>e hok),if_neg (c:=l = []) hne,if_neg hr]
    rw[hb,if_neg (c:=(0:Int)≠0) gm ,if_neg (c:=l = []) hne];unfold qa;rw[h.o,if_neg gu ,if_neg (c:=¬rU l) (fun e=>e hok),if_neg (c:=l = []) hne];simp only;rw[if_neg hr]
 ·have hb:oK d.secs.length d.size.toNat u l=4:=by unfold oK;rw[if_pos (c:=¬rU l) hok]
  rw[hb,if_pos (c:=(4:Int)≠0) gm ];unfold qa;rw[h.o,if_neg gu ,if_pos (c:=¬rU l) hok]
theorem O3{d:Dk}{act:Nat}{r:List iX}{u:Nat}(h:O1 d act r u)(l:List iX):wY d l=if rF d.secs.length d.size.toNat l≠0 then(iL,rF d.secs.length d.size.toNat l)
  else lg d (sS (IB d.secs.length d.size.toNat act l) (0,lW d.size.toNat (3-act))):=by
 by_cases hok:rU l
 ·by_cases hr:gZ d.secs.length<(kT l d.size.toNat).length
  ·have hb:rF d.secs.length d.size.toNat l=19:=by unfold rF;rw[if_neg (c:=¬rU l) (fun e=>e hok),if_pos hr]
   rw[hb,if_pos (c:=(19:Int)≠0) gm ];unfold wY;rw[h.o,if_neg gu ,if_neg (c:=¬rU l) (fun e=>e hok),if_pos hr]
  ·have hb:rF d.secs.length d.size.toNat l=0:=by unfold rF;rw[if_neg (c:=¬rU l) (fun e=>e hok),if_neg hr]
   rw[hb,if_neg (c:=(0:Int)≠0) gm ];unfold wY;rw[h.o,if_neg gu ,if_neg (c:=¬rU l) (fun e=>e hok),if_neg hr]
 ·have hb:rF d.secs.length d.size.toNat l=4:=by unfold rF;rw[if_pos (c:=¬rU l) hok]
  rw[hb,if_pos (c:=(4:Int)≠0) gm ];unfold wY;rw[h.o,if_neg gu ,if_pos (c:=¬rU l) hok]
theorem Tx{n sz u:Nat}{l:List iX}(h:oK n sz u l≠0):oK n sz u l=4∨oK n sz u l=19:=by
 unfold oK at h ⊢;split
 ·exact .inl rfl
 ·rename_i h1
  rw[if_neg h1]at h;split
  ·rename_i h2;rw[if_pos h2]at h;exact absurd rfl h
  ·rename_i h2
   rw[if_neg h2]at h;split
   ·exact .inr rfl
   ·rename_i h3;rw[if_neg h3]at h;exact absurd rfl h
theorem Ty{n sz:Nat}{l:List iX}(h:rF n sz l≠0):rF n sz l=4∨rF n sz l=19:=by
 unfold rF at h ⊢;split
 ·exact .inl rfl
 ·rename_i h1
  rw[if_neg h1]at h;split
  ·exact .inr rfl
  ·rename_i h3;rw[if_neg h3]at h;exact absurd rfl h
theorem sU{n sz u:Nat}{l:List iX}(h:oK n sz u l=0):rU l∧(l≠[]→(kT l sz).length≤gZ n-u):=by
 unfold oK at h;by_cases h1:rU l
 ·rw[if_neg (fun e=>e h1)]at h;refine⟨h1,fun h2=>?_⟩;rw[if_neg h2]at h;by_cases h3:gZ n-u<(kT l sz).length
  ·rw[if_pos h3]at h;exact absurd h gm
  ·omega
 ·rw[if_pos h1]at h;exact absurd h gm
theorem sV{n sz:Nat}{l:List iX}(h:rF n sz l=0):rU l∧(kT l sz).length≤gZ n:=by
 unfold rF at h;by_cases h1:rU l
 ·rw[if_neg (fun e=>e h1)]at h;refine⟨h1,?_⟩;by_cases h3:gZ n<(kT l sz).length
  ·rw[if_pos h3]at h;exact absurd h gm
  ·omega
 ·rw[if_pos h1]at h;exact absurd h gm
theorem IL{d:Dk}{act:Nat}{r:List iX}{u:Nat}(h:O1 d act r u){l:List iX}(hne:l≠[])(hb:oK d.secs.length d.size.toNat u l=0):Yp d.secs.length d.size (appW d.secs.length d.size.toNat act u l):=by
 have h1:=h.v.s1;have hf:=wM (secs:=cur d) fZ (by rw[jT];exact h.n) (O0 h.v) h.act hne (sU hb).1 (by rw[jT];exact(sU hb).2 hne);have h2:=hf.ok;rw[jT]at h2;exact fun w hw=>⟨(h2 w hw).1,by have:=(h2 w hw).2;omega⟩
theorem O4{d:Dk}{act:Nat}{r:List iX}{u:Nat}(h:O1 d act r u){l:List iX}(hb:rF d.secs.length d.size.toNat l=0):Yp d.secs.length d.size (IB d.secs.length d.size.toNat act l):=by
 have h1:=h.v.s1;have hf:=Bb (secs:=cur d) fZ (by rw[jT];exact h.n) (O0 h.v) h.act (sV hb).1 (by rw[jT];exact(sV hb).2);have h2:=hf.ok;rw[jT]at h2;exact fun w hw=>⟨(h2 w hw).1,by have:=(h2 w hw).2;omega⟩
theorem Bc{d:Dk}{act:Nat}{r:List iX}{u:Nat}(h:O1 d act r u)(h0:d.left=0)(l:List iX):qa d l=if oK d.secs.length d.size.toNat u l≠0 then(iL,oK d.secs.length d.size.toNat u l)else if l = []then(d,0)else(d,20):=by
 rw[Di h];by_cases hb:oK d.secs.length d.size.toNat u l=0
 ·by_cases hne:l = []
  ·simp only[hb,ne_eq,not_true_eq_false,if_false,hne,if_true]
  ·simp only[hb,ne_eq,not_true_eq_false,if_false,hne];exact run_stuck h.v h0 _ (IL h hne hb)
 ·rw[if_pos hb,if_pos hb]
theorem Be{d:Dk}{act:Nat}{r:List iX}{u:Nat}(h:O1 d act r u)(h0:d.left=0)(l:List iX):wY d l=if rF d.secs.length d.size.toNat l≠0 then(iL,rF d.secs.length d.size.toNat l)else(d,20):=by
 rw[O3 h];by_cases hb:rF d.secs.length d.size.toNat l=0
 ·rw[if_neg (fun e=>e hb),if_neg (fun e=>e hb),run_stuck h.v h0 _ (O4 h hb)]
 ·rw[if_pos hb,if_pos hb]
theorem Ev:∀(S:List ByteArray) (a:Nat),(ng a S).length=S.length
 |[],_=>rfl
 |s::S,a=>by show (ng (a+1) S).length+1=S.length+1;rw[Ev S]
theorem Gu(a:Nat)(S:List ByteArray)(e sz:Nat):(o5 a S e sz).length≤S.length+1:=by
 unfold o5;rw[aj,Ev];split<;>simp
theorem Lb{d:Dk}(hv:Valid d)(hp:d.pend = []){W:List ny}{w:ny}(hW:Yp d.secs.length d.size W)(hw:w.1<d.secs.length∧(w.2.size:Int)=d.size):(lg d (sS W w)).1.pend.length≤W.length+1:=by
 rcases Db hv hp hW hw with ⟨lf,h1,h2,h3⟩|⟨h1,m,h2,h3⟩|⟨h1,p,h2,h3⟩
 ·rw[h3];simp
 ·rw[h3];simp[toP];omega
 ·rw[h3];rcases h2 with rfl|rfl<;>simp[toP]
theorem O5{d:Dk}(hv:Valid d):gZ d.secs.length≤500:=by have:=hv.n2;unfold gZ;omega
theorem Tz{d:Dk}{act:Nat}{r:List iX}{u:Nat}(h:Good d act r u)(l:List iX):(qa d l).1.pend.length≤1001:=by
 rw[Di h.opn];by_cases hb:oK d.secs.length d.size.toNat u l=0
 ·rw[if_neg (fun e=>e hb)];by_cases hne:l = []
  ·rw[if_pos hne,h.p];simp
  ·rw[if_neg hne];obtain⟨z1,z2,z3,z4⟩:=h.sz;have hf:=wM z2 h.n z4 (mW.1 h.o) hne (sU hb).1 ((sU hb).2 hne);have h1:=Lb h.v h.p (W:=appW d.secs.length d.size.toNat act u l) (w:=(gN d.secs.length act+u,hd0 (kT l d.size.toNat))) (IL h.opn hne hb) ⟨hf.Vz.1,by have:=hf.Vz.2;omega⟩;have h2:=Gu (gN d.secs.length act+u) (lJ (hd0 (kT l d.size.toNat))::(kT l d.size.toNat).drop 1) (gN d.secs.length act+gZ d.secs.length) d.size.toNat;have h3:=(sU hb).2 hne;have h4:=O5 h.v;have h5:=wK hne (sz:=d.size.toNat) z2
   rw[aI,aC]at h2;have h6:(appW d.secs.length d.size.toNat act u l).length≤(kT l d.size.toNat).length+1:=by unfold appW;omega
   omega
 ·rw[if_pos hb];simp[iL]
theorem TA{d:Dk}{act:Nat}{r:List iX}{u:Nat}(h:Good d act r u)(l:List iX):(wY d l).1.pend.length≤1001:=by
 rw[O3 h.opn];by_cases hb:rF d.secs.length d.size.toNat l=0
 ·rw[if_neg (fun e=>e hb)];obtain⟨z1,z2,z3,z4⟩:=h.sz;have hf:=Bb z2 h.n z4 (mW.1 h.o) (sV hb).1 (sV hb).2;have h1:=Lb h.v h.p (W:=IB d.secs.length d.size.toNat act l) (w:=(0,lW d.size.toNat (3-act))) (O4 h.opn hb) ⟨hf.Vz.1,by have:=hf.Vz.2;omega⟩;have h2:=Gu (gN d.secs.length (3-act)) (kT l d.size.toNat) (gN d.secs.length (3-act)+gZ d.secs.length) d.size.toNat;have h3:=(sV hb).2;have h4:=O5 h.v;have h6:(IB d.secs.length d.size.toNat act l).length≤(kT l d.size.toNat).length+1:=by unfold IB;omega
  omega
 ·rw[if_pos hb];simp[iL]
structure uw where
 kind:Int
 recs:List iX
 left:Int
 ps:List Int
def vI(d:Dk)(a:uw):Dk×Int :=
 if a.kind=0 then qa d a.recs else if a.kind=1 then wY d a.recs
 else if a.kind=2 then(if d.left=-1∧0≤a.left then { d with left:=a.left.tmod 12 } else d,0)
 else if a.kind=3 then(vw d a.ps,0)else(d,0)
def xM(d:Dk)(a:uw):Dk×Int:=if (vI d a).2≠0∧(vI d a).2≠20 then(d,(vI d a).2)else vI d a
inductive VD (d:Dk) (s:List iX) (un:Option (List iX)):Prop
 |good (act u:Nat) (h:Good d act s u) (e:un=none)
 |lost (x:List iX) (e:un=some x) (h:Gt d fun y=>y=s∨y=x) (h0:d.left=0) (hb:d.pend.length≤1001)
theorem Gt.opn{d:Dk}{P:List iX→Prop}(h:Gt d P):∃act r u,O1 d act r u∧P r:=by
 obtain⟨act,r,u,h1,h2⟩:=h.now;exact⟨act,r,u,⟨h.v,h.n,h1⟩,h2⟩
theorem VD.opn{d:Dk}{s:List iX}{un:Option (List iX)}(h:VD d s un):∃act r u,O1 d act r u∧(r=s∨un=some r):=by
 rcases h with ⟨act,u,h,e⟩|⟨x,e,h,h0,hb⟩
 ·exact⟨act,s,u,h.opn,.inl rfl⟩
 ·obtain⟨act,r,u,h1,h2⟩:=h.opn;refine⟨act,r,u,h1,?_⟩;rcases h2 with rfl|rfl
  ·exact .inl rfl
  ·exact .inr e
theorem NG{d:Dk}{act:Nat}{r:List iX}{u:Nat}(h:Good d act r u)(lf:Int)(hl : -1≤lf):Good { d with left:=lf } act r u :=
 ⟨⟨h.v.s1,h.v.s2,h.v.n1,h.v.n2,h.v.ss,h.v.ws,hl⟩,h.n,h.p,h.o⟩
def after(s:List iX)(a:uw):List iX:=if a.kind=1 then a.recs else s++a.recs
def uM(d:Dk)(s:List iX)(un:Option (List iX))(a:uw):List iX :=
 if a.kind=0∨a.kind=1 then(if (xM d a).2=0 then after s a else s)
 else if a.kind=3 then(if un=some (vG (xM d a).1).1 then(vG (xM d a).1).1 else s)else s
def FD(d:Dk)(s:List iX)(un:Option (List iX))(a:uw):Option (List iX) :=
 if a.kind=0∨a.kind=1 then(if (xM d a).2≠0∧(xM d a).2=20∧d.left≠0 then some (after s a)else un)
 else if a.kind=3 then none else un
theorem O1.FH{d:Dk}{act:Nat}{r:List iX}{u:Nat}(h:O1 d act r u):vG d=(r,0):=by unfold vG;rw[h.o]
theorem O6{d:Dk}{a:uw}(h0:a.kind≠0)(h1:a.kind≠1)(h2:a.kind≠2)(h3:a.kind≠3):xM d a=(d,0):=by
 unfold xM vI;rw[if_neg h0,if_neg h1,if_neg h2,if_neg h3,if_neg gu ]
theorem TB{d:Dk}{act:Nat}{s r':List iX}{u:Nat}(h:Good d act s u){x:Dk×Int}(ho:Out d s r' x)(hpn:x.1.pend.length≤1001)(h0:d.left=0→x.2=20→x.1=d):
  let y:=if x.2≠0∧x.2≠20 then(d,x.2)else x
  VD y.1 (if y.2=0 then r' else s) (if y.2≠0∧y.2=20∧d.left≠0 then some r' else none)∧y.1.size=d.size∧y.1.secs.length=d.secs.length:=by
 rcases ho with ⟨d',a2,u2,hg,hl,hs⟩|⟨d',hL,hl0,hl,hs⟩|⟨e,he⟩
 ·exact⟨.good a2 u2 hg rfl,hs⟩
 ·refine⟨?_,hs⟩;simp only;by_cases hz:d.left=0
  ·have e:=h0 hz rfl;simp only at e;subst e;simp[hz];exact .good act u h rfl
  ·simp[hz];exact .lost r' rfl hL hl0 hpn
 ·have hy:(if (iL,e).2≠0∧(iL,e).2≠20 then(d,(iL,e).2)else(iL,e))=(d,e):=by
   rw[if_pos (by rcases he with rfl|rfl<;>decide)]
  simp only at hy ⊢;rw[hy];refine⟨?_,rfl,rfl⟩;rcases he with rfl|rfl<;>exact .good act u h rfl
theorem Lc{d:Dk}{b:Int}(hb:b=0∨b=4∨b=19){l:List iX}:
  (let x:=if b≠0 then(iL,b)else if l = []then(d,0)else(d,20)
  let y:=if x.2≠0∧x.2≠20 then(d,x.2)else x
  y.1=d∧(y.2=0→l = [])) ∧
  (let x:=if b≠0 then(iL,b)else(d,20)
  let y:=if x.2≠0∧x.2≠20 then(d,x.2)else x
  y.1=d∧y.2≠0):=by
 rcases hb with rfl|rfl|rfl
 ·by_cases hl:l = []<;>simp[hl]
 ·simp
 ·simp
theorem yx(n sz u:Nat)(l:List iX):oK n sz u l=0∨oK n sz u l=4∨oK n sz u l=19:=by
 by_cases h:oK n sz u l=0
 ·exact .inl h
 ·exact .inr (Tx h)
theorem yA(n sz:Nat)(l:List iX):rF n sz l=0∨rF n sz l=4∨rF n sz l=19:=by
 by_cases h:rF n sz l=0
 ·exact .inl h
 ·exact .inr (Ty h)
theorem Ld{d:Dk}{act:Nat}{r:List iX}{u:Nat}(h:O1 d act r u)(h0:d.left=0){a:uw}(h3:a.kind≠3):(xM d a).1=d∧((a.kind=0∨a.kind=1)→(xM d a).2=0→a.kind=0∧a.recs = []):=by
 by_cases k0:a.kind=0
 ·unfold xM vI;rw[if_pos k0,Bc h h0];have:=(Lc (d:=d) (l:=a.recs) (yx d.secs.length d.size.toNat u a.recs)).1;exact⟨this.1,fun _ e=>⟨k0,this.2 e⟩⟩
 ·by_cases k1:a.kind=1
  ·unfold xM vI;rw[if_neg k0,if_pos k1,Be h h0];have:=(Lc (d:=d) (l:=a.recs) (yA d.secs.length d.size.toNat a.recs)).2;exact⟨this.1,fun _ e=>absurd e this.2⟩
  ·by_cases k2:a.kind=2
   ·unfold xM vI;simp only[if_neg k0,if_neg k1,if_pos k2,if_neg (by omega:¬(d.left=-1∧0≤a.left))];exact⟨rfl,fun e=>by omega⟩
   ·rw[O6 k0 k1 k2 h3];exact⟨rfl,fun e=>by omega⟩
theorem NH{d:Dk}{a:uw}(h3:a.kind=3):xM d a=(vw d a.ps,0):=by
 have e:vI d a=(vw d a.ps,0):=by
  unfold vI;rw[if_neg (c:=a.kind=0) fZ ,if_neg (c:=a.kind=1) fZ ,if_neg (c:=a.kind=2) fZ ,if_pos h3]
 unfold xM;rw[e,if_neg gu ]
theorem VD.step{d:Dk}{s:List iX}{un:Option (List iX)}(h:VD d s un)(a:uw):
  VD (xM d a).1 (uM d s un a) (FD d s un a)∧(xM d a).1.size=d.size∧(xM d a).1.secs.length=d.secs.length∧(a.kind=3→vG (xM d a).1=(uM d s un a,0)):=by
 rcases h with ⟨act,u,h,e⟩|⟨x,e,h,h0,hb⟩
 ·subst e;by_cases k0:a.kind=0
  ·have ha:after s a=s++a.recs:=by unfold after;rw[if_neg fZ ]
   have:=TB h (OY h a.recs) (Tz h a.recs) fun hz he=>by
    rw[Bc h.opn hz]at he ⊢;rcases yx d.secs.length d.size.toNat u a.recs with e|e|e<;>rw[e]at he ⊢
    ·by_cases hl:a.recs = []<;>simp[hl]
    ·simp at he
    ·simp at he
   have hd:xM d a=if (qa d a.recs).2≠0∧(qa d a.recs).2≠20 then(d,(qa d a.recs).2)else qa d a.recs:=by unfold xM vI;rw[if_pos k0]
   simp only[←hd]at this;refine⟨?_,this.2.1,this.2.2,fun e=>by omega⟩;unfold uM FD;simp only[if_pos (show a.kind=0∨a.kind=1 from .inl k0),ha];exact this.1
  ·by_cases k1:a.kind=1
   ·have ha:after s a=a.recs:=by unfold after;rw[if_pos k1]
    have:=TB h (OZ h a.recs) (TA h a.recs) fun hz he=>by
     rw[Be h.opn hz]at he ⊢;rcases yA d.secs.length d.size.toNat a.recs with e|e|e<;>rw[e]at he ⊢
     ·simp
     ·simp at he
     ·simp at he
    have hd:xM d a=if (wY d a.recs).2≠0∧(wY d a.recs).2≠20 then(d,(wY d a.recs).2)else wY d a.recs:=by unfold xM vI;rw[if_neg k0,if_pos k1]
    simp only[←hd]at this;refine⟨?_,this.2.1,this.2.2,fun e=>by omega⟩;unfold uM FD;simp only[if_pos (show a.kind=0∨a.kind=1 from .inr k1),ha];exact this.1
   ·have hs:a.kind≠3→uM d s none a=s:=fun h3=>by unfold uM;rw[if_neg fZ ,if_neg h3]
    have hu:FD d s none a=none:=by unfold FD;rw[if_neg fZ ];split<;>rfl
    rw[hu];by_cases k3:a.kind=3
    ·rw[NH k3];have hl:=h.left (P:=fun y=>y=s) rfl;obtain⟨a2,r2,u2,g1,g2,g3,g4⟩:=hl.cut a.ps;subst g2;have hs3:uM d r2 none a=r2:=by unfold uM;rw[if_neg fZ ,if_pos k3,if_neg gu ]
     rw[hs3];exact⟨.good a2 u2 g1 rfl,g3,g4,fun _=>g1.opn.FH⟩
    ·rw[hs k3];by_cases k2:a.kind=2
     ·have hd:xM d a=(if d.left=-1∧0≤a.left then { d with left:=a.left.tmod 12 } else d,0):=by
       unfold xM vI;rw[if_neg k0,if_neg k1,if_pos k2,if_neg gu ]
      rw[hd];refine⟨.good act u ?_ rfl,?_,?_,fun e=>by omega⟩
      ·simp only;split
       ·rename_i hc
        exact NG h _ (by have:=Int.tmod_nonneg 12 hc.2;omega)
       ·exact h
      ·simp only;split<;>rfl
      ·simp only;split<;>rfl
     ·rw[O6 k0 k1 k2 k3];exact⟨.good act u h rfl,rfl,rfl,fun e=>by omega⟩
 ·subst e;by_cases k3:a.kind=3
  ·obtain⟨a2,r2,u2,g1,g2,g3,g4⟩:=h.cut a.ps;have hu:FD d s (some x) a=none:=by unfold FD;rw[if_neg fZ ,if_pos k3]
   have hr:=g1.opn.FH;have hs3:uM d s (some x) a=r2:=by
    unfold uM;rw[if_neg fZ ,if_pos k3,NH k3];simp only;rw[hr];rcases g2 with rfl|rfl
    ·split<;>simp_all
    ·simp
   rw[hu,hs3,NH k3];exact⟨.good a2 u2 g1 rfl,g3,g4,fun _=>hr⟩
  ·obtain⟨act,r,u,ho,hr⟩:=h.opn;have hst:=Ld ho h0 k3;rw[hst.1];refine⟨.lost x ?_ ?_ h0 hb,rfl,rfl,fun e=>by omega⟩
   ·unfold FD;by_cases hk:a.kind=0∨a.kind=1
    ·rw[if_pos hk,if_neg (fun e=>e.2.2 h0)]
    ·rw[if_neg hk,if_neg k3]
   ·have:uM d s (some x) a=s:=by
     unfold uM;by_cases hk:a.kind=0∨a.kind=1
     ·rw[if_pos hk];by_cases hz:(xM d a).2=0
      ·have:=hst.2 hk hz;rw[if_pos hz];unfold after;rw[if_neg fZ ,this.2,aU]
      ·rw[if_neg hz]
     ·rw[if_neg hk,if_neg k3]
    rw[this];exact h
end Go.Proofs.YtichfhpgdhdiaaaGreat
namespace Go.Proofs.YtichfhpgdhdiaaaGreat
def zD(n z:Nat):Dk:=⟨z,List.replicate n (jN z),[],-1⟩
theorem TD{n z:Nat}(hn:3≤n)(hn2:n≤1000)(hz:1≤z)(hz2:z≤512):Valid (zD n z) :=
 ⟨by unfold zD;simp only;omega,by unfold zD;simp only;omega,by unfold zD;simp;omega,by unfold zD;simp;omega,fun s h=>by
  unfold zD at h ⊢;rw[(fB.1 h).2,rE],fun w h=>by simp[zD]at h,by simp[zD]⟩
theorem TF{n z:Nat}(hn:3≤n)(hn2:n≤1000)(hz:1≤z)(hz2:z≤512):∃d,NC (zD n z)=(d,0)∧Good d 1 [] 0∧d.left=-1∧d.size=z∧d.secs.length=n:=by
 have hv:=TD hn hn2 hz hz2;have hsl:(zD n z).secs.length=n:=by simp[zD]
 have hc:mF (zD n z)=0:=by unfold mF;rw[if_neg (fun e=>e (mq.2 hv)),if_neg fZ ]
 have hh:=wL hn;have hsn:(zD n z).size.toNat=z:=by simp[zD]
 have f1:=nE hn (.inl rfl);have f2:=nE hn (.inr rfl);have hf:NC (zD n z)=lg (zD n z) (sS [(gN n 1,jN z),(gN n 2,jN z)] (0,lW z 1)):=by
  unfold NC;rw[if_neg (fun e=>e hc),hsl,hsn]
 have hW:Yp (zD n z).secs.length (zD n z).size [(gN n 1,jN z),(gN n 2,jN z)]:=fun w hw=>by
  rw[hsl];have e:w=(gN n 1,jN z)∨w=(gN n 2,jN z):=by simpa using hw
  rcases e with rfl|rfl<;>refine⟨by simp only;omega,?_⟩<;>simp only<;>rw[rE]<;>rfl
 have hw:(0,lW z 1).1<(zD n z).secs.length∧(((0,lW z 1):ny).2.size:Int)=(zD n z).size:=⟨by rw[hsl];simp only;omega,by simp only;rw[uo hz];rfl⟩;have hp:iG (zD n z).secs [(gN n 1,jN z),(gN n 2,jN z)]=List.replicate n (jN z):=by
  rw[l9,l9];show ((List.replicate n (jN z)).set _ _).set _ _=_;rw[List.set_replicate_self,List.set_replicate_self]
 have hp2:iG (List.replicate n (jN z)) [(0,lW z 1)]=(List.replicate n (jN z)).set 0 (lW z 1):=by rw[l9];rfl
 rcases Db hv rfl hW hw with ⟨lf,h1,h2,h3⟩|⟨h1,m,h2,h3⟩|⟨h1,p,h2,h3⟩
 ·refine⟨_,hf.trans h3,?_,h2 rfl,rfl,?_⟩
  ·rw[hp,hp2];have hs:qy z ((List.replicate n (jN z)).set 0 (lW z 1)):=fun s hs=>by
    rcases bS hs with h|rfl
    ·rw[(fB.1 h).2,rE]
    ·exact uo hz 1
   refine zL rfl hz hz2 (by simp;omega) (by simp;omega) hs h1 ?_;refine IK (L:=List.replicate n (jN z)) (.inl rfl) (by simp;omega) gu ?_ (fun i hi=>by rw[bB fZ ]) ?_
   ·rw[Dh (s:=lW z 1) (by rw[bE (by simp;omega)]),yw]
   ·rw[eF];have hl:(List.take (gZ n) (List.drop (gN n 1) (List.replicate n (jN z))))=List.replicate (gZ n) (jN z):=by
     rw[List.drop_replicate,List.take_replicate,dz fZ ]
    rw[hl];have:=KV (sz:=z) (H:=gZ n) hz (L':=List.replicate (gZ n) (jN z)) (fun s h=>by rw[(fB.1 h).2,rE]) gu (l:=[]) ⟨by simp,fun x h=>by simp at h⟩ (T:=List.replicate (gZ n) (jN z)) rfl fun s t e=>by
     have:s∈List.replicate (gZ n) (jN z):=by rw[e];simp
     rw[(fB.1 this).2,yu]
    exact this
  ·simp only[mR];exact hsl
 ·exact absurd rfl h1
 ·exact absurd rfl h1
theorem Le{d:Dk}{s:List iX}{un:Option (List iX)}(h:VD d s un)(l:List iX):
  ∃r,vG d=(r,0)∧((qa d l).2=0→vG (qa d l).1=(r++l,0))∧((wY d l).2=0→vG (wY d l).1=(l,0)):=by
 rcases h with ⟨act,u,h,e⟩|⟨x,e,h,h0,hb⟩
 ·refine⟨s,h.opn.FH,fun ha=>?_,fun ha=>?_⟩
  ·have:=OY h l;generalize qa d l=y at *;rcases this with ⟨d',a2,u2,hg,hl,hs⟩|⟨d',hL,hl0,hl,hs⟩|⟨e,he⟩
   ·exact hg.opn.FH
   ·exact absurd ha gu
   ·simp only at ha;omega
  ·have:=OZ h l;generalize wY d l=y at *;rcases this with ⟨d',a2,u2,hg,hl,hs⟩|⟨d',hL,hl0,hl,hs⟩|⟨e,he⟩
   ·exact hg.opn.FH
   ·exact absurd ha gu
   ·simp only at ha;omega
 ·obtain⟨act,r,u,ho,hr⟩:=h.opn;refine⟨r,ho.FH,fun ha=>?_,fun ha=>?_⟩
  ·rw[Bc ho h0]at ha ⊢;rcases yx d.secs.length d.size.toNat u l with e|e|e<;>rw[e]at ha ⊢
   ·by_cases hl:l = []
    ·subst hl;simp[ho.FH]
    ·simp[hl]at ha
   ·simp at ha
   ·simp at ha
  ·rw[Be ho h0]at ha;rcases yA d.secs.length d.size.toNat l with e|e|e<;>rw[e]at ha<;>simp at ha
theorem NI{d:Dk}(hv:Valid d)(hp:d.pend = [])(hn:3≤d.secs.length)(ps:List Int):vG (vw d ps)=vG d:=by
 rw[IJ hv,hp];have e:kP d.size d.secs [] ps=d.secs:=by simp[kP]
 rw[e];have h1:mF d=0:=by unfold mF;rw[if_neg (fun e=>e (mq.2 hv)),if_neg fZ ]
 have hv2:Valid ⟨d.size,d.secs,[],-1⟩:=⟨hv.s1,hv.s2,hv.n1,hv.n2,hv.ss,fun w h=>by simp at h,by simp⟩;have h2:mF ⟨d.size,d.secs,[],-1⟩=0:=by unfold mF;rw[if_neg (fun e=>e (mq.2 hv2)),if_neg (by simp only;omega)]
 have c1:cur d=d.secs:=by unfold cur;rw[hp];rfl
 have c2:cur ⟨d.size,d.secs,[],-1⟩=d.secs:=rfl;unfold vG jk;rw[if_neg (fun e=>e h2),if_neg (fun e=>e h1),c1,c2]
theorem NJ{d:Dk}{s:List iX}{un:Option (List iX)}(h:VD d s un)(hp:d.pend = [])(a:uw)(hk:a.kind=0∨a.kind=1)(he:(xM d a).2=0)(ps:List Int):
  (xM d a).1.pend = []∧∃x,vG (xM d a).1=(x,0)∧vG (vw (xM d a).1 ps)=(x,0):=by
 have hst:=(h.step a).1;obtain⟨act,r,u,ho,-⟩:=hst.opn;have key:(xM d a).1.pend = []:=by
  rcases h with ⟨act,u,h,e⟩|⟨x,e,h,h0,hb⟩
  ·subst e;have hun:FD d s none a=none:=by unfold FD;rw[if_pos hk,if_neg (fun e=>e.1 he)]
   rw[hun]at hst;rcases hst with ⟨a2,u2,h2,-⟩|⟨x,e,-,-,-⟩
   ·exact h2.p
   ·simp at e
  ·obtain⟨act,r,u,ho,hr⟩:=h.opn;rw[(Ld ho h0 fZ ).1,hp]
 refine⟨key,r,ho.FH,?_⟩;rw[NI ho.v key ho.n,ho.FH]
theorem TG{d:Dk}{s:List iX}{un:Option (List iX)}(h:VD d s un)(hl:d.left=-1)(l:List iX)(hne:l≠[])(hok:rU l):
  ∃m,Gm d=(m,0)∧(if m<need (su l).length d.size.toNat then(qa d l).2=19 else(qa d l).2=0∧Gm (qa d l).1=(m-need (su l).length d.size.toNat,0)):=by
 rcases h with ⟨act,u,h,e⟩|⟨x,e,h,h0,hb⟩
 ·have hr:∀{d:Dk} {act:Nat} {r:List iX} {u:Nat},Good d act r u→Gm d=(gZ d.secs.length-u,0):=fun h=>by unfold Gm;rw[h.open_,if_neg gu ]
  refine⟨_,hr h,?_⟩;obtain⟨z1,z2,z3,z4⟩:=h.sz;rw[←zC hne];split
  ·rename_i hc
   rw[Di h.opn];have:oK d.secs.length d.size.toNat u l=19:=by unfold oK;rw[if_neg (c:=¬rU l) (fun e=>e hok),if_neg (c:=l = []) hne,if_pos hc]
   rw[this];rfl
  ·rename_i hc
   have hb:oK d.secs.length d.size.toNat u l=0:=by unfold oK;rw[if_neg (c:=¬rU l) (fun e=>e hok),if_neg (c:=l = []) hne,if_neg hc]
   rw[Di h.opn,if_neg (fun e=>e hb),if_neg hne];have hf:=wM z2 h.n z4 (mW.1 h.o) hne hok fZ ;have hw:gN d.secs.length act+u<d.secs.length∧((hd0 (kT l d.size.toNat)).size:Int)=d.size:=⟨hf.Vz.1,by have:=hf.Vz.2;simp only at this;omega⟩;rcases Db h.v h.p (IL h.opn hne hb) (w:=(gN d.secs.length act+u,hd0 (kT l d.size.toNat))) hw with ⟨lf,h1,h2,e⟩|⟨h1,_⟩|⟨h1,_⟩
   ·rw[e];refine⟨rfl,?_⟩;have hl1:(iG (iG d.secs (appW d.secs.length d.size.toNat act u l)) [(gN d.secs.length act+u,hd0 (kT l d.size.toNat))]).length=d.secs.length:=by rw[mR,mR]
    have hs:qy d.size.toNat (iG (iG d.secs (appW d.secs.length d.size.toNat act u l)) [(gN d.secs.length act+u,hd0 (kT l d.size.toNat))]):=mV _ _ (mV _ _ z4 fun x hx=>(hf.ok x hx).2) fun x hx=>by
     have e:x=(gN d.secs.length act+u,hd0 (kT l d.size.toNat)):=by simpa using hx
     rw[e];exact hf.Vz.2
    have hg:=zL z1 z2 z3 (by rw[hl1];exact h.n) (by rw[hl1];exact h.v.n2) hs h1 hf.fin;have:=hr hg;simp only at this ⊢;rw[this,hl1];congr 1;omega
   ·exact absurd hl h1
   ·exact absurd hl h1
 ·omega
end Go.Proofs.YtichfhpgdhdiaaaGreat
namespace Go.Proofs.YtichfhpgdhdiaaaGreat
end Go.Proofs.YtichfhpgdhdiaaaGreat
