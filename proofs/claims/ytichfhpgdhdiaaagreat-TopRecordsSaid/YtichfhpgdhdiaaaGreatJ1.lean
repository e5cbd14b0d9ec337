/- Words for memory, over any program -/
import Derived.WalkKit
import Derived.WalkSpells
import Derived.WalkLawsBesides
import Derived.BigQuiet
import Derived.Lib.Hide
import Derived.Lib.SlicesS
import Derived.Deep.DeepFit
import Derived.Maps.AppendAt
set_option maxRecDepth 100000
set_option maxHeartbeats 8000000
set_option linter.unusedVariables false
set_option linter.unusedSimpArgs false
namespace Go.Proofs.YtichfhpgdhdiaaaGreat
open Go.RowKit
theorem af:type_of% @Go.Lib.hid:=Go.Lib.hid
theorem ah:type_of% @Go.RowKit.Below.refl:=Go.RowKit.Below.refl
theorem aj:type_of% @List.length_append:=List.length_append
theorem ak:type_of% @Nat.le_refl:=Nat.le_refl
theorem au:type_of% @List.getElem?_eq_getElem:=List.getElem?_eq_getElem
theorem ax:type_of% @Array.getElem?_eq_some_iff:=Array.getElem?_eq_some_iff
theorem ay:type_of% @List.getElem?_eq_some_iff:=List.getElem?_eq_some_iff
theorem aA:type_of% @List.append_assoc:=List.append_assoc
theorem aB:type_of% @Option.some.inj:=Option.some.inj
theorem aC:type_of% @List.length_drop:=List.length_drop
theorem aD:type_of% @Array.getD_eq_getD_getElem?:=Array.getD_eq_getD_getElem?
theorem aF:type_of% @List.take_of_length_le:=List.take_of_length_le
theorem aG:type_of% @List.flatMap_cons:=List.flatMap_cons
theorem aH:type_of% @List.length_take:=List.length_take
theorem aI:type_of% @List.length_cons:=List.length_cons
theorem aJ:type_of% @Go.World.size_alloc:=Go.World.size_alloc
theorem aK:type_of% @Bool.and_eq_true:=Bool.and_eq_true
theorem aL:type_of% @Array.getElem?_setIfInBounds:=Array.getElem?_setIfInBounds
theorem aM:type_of% @List.length_nil:=List.length_nil
theorem aN:type_of% @List.take_succ_eq_append_getElem:=List.take_succ_eq_append_getElem
theorem aO:type_of% @List.nil_append:=List.nil_append
theorem aP:type_of% @Nat.lt_or_ge:=Nat.lt_or_ge
theorem aQ:type_of% @List.length_singleton:=List.length_singleton
theorem aR:type_of% @List.drop_eq_getElem_cons:=List.drop_eq_getElem_cons
theorem aS:type_of% @Nat.le_trans:=Nat.le_trans
theorem aT:type_of% @Int.toNat_natCast:=Int.toNat_natCast
theorem aU:type_of% @List.append_nil:=List.append_nil
theorem aV:type_of% @List.mem_of_getElem?:=List.mem_of_getElem?
theorem aX:type_of% @List.length_set:=List.length_set
theorem aY:type_of% @List.getElem?_append_left:=List.getElem?_append_left
theorem aZ:type_of% @List.flatMap_append:=List.flatMap_append
theorem bf:type_of% @Go.RowKit.Below.heap_setCell:=Go.RowKit.Below.heap_setCell
theorem bg:type_of% @Array.getElem?_eq_getElem:=Array.getElem?_eq_getElem
theorem bq:type_of% @List.mem_append:=List.mem_append
theorem bB:type_of% @List.getElem?_set_ne:=List.getElem?_set_ne
theorem bC:type_of% @List.mem_cons:=List.mem_cons
theorem bD:type_of% @List.getElem?_append_right:=List.getElem?_append_right
theorem bE:type_of% @List.getElem?_set_self:=List.getElem?_set_self
theorem bG:type_of% @List.take_length:=List.take_length
theorem bH:type_of% @Nat.zero_add:=Nat.zero_add
theorem bI:type_of% @Array.size_setIfInBounds:=Array.size_setIfInBounds
theorem bJ:type_of% @ByteArray.size_extract:=ByteArray.size_extract
theorem bK:type_of% @List.mem_range:=List.mem_range
theorem bL:type_of% @List.length_eq_zero_iff:=List.length_eq_zero_iff
theorem bM:type_of% @Nat.lt_of_lt_of_le:=Nat.lt_of_lt_of_le
theorem bN:type_of% @List.all_eq_true:=List.all_eq_true
theorem bO:type_of% @List.take_zero:=List.take_zero
theorem bP:type_of% @List.drop_drop:=List.drop_drop
theorem bQ:type_of% @List.take_append_drop:=List.take_append_drop
theorem bR:type_of% @List.getElem?_take:=List.getElem?_take
theorem bS:type_of% @List.mem_or_eq_of_mem_set:=List.mem_or_eq_of_mem_set
theorem bT:type_of% @Nat.mul_le_mul_right:=Nat.mul_le_mul_right
theorem bU:type_of% @List.getElem?_of_mem:=List.getElem?_of_mem
theorem bV:type_of% @Bool.or_eq_true:=Bool.or_eq_true
theorem bW:type_of% @List.getD_eq_getElem?_getD:=List.getD_eq_getElem?_getD
theorem bX:type_of% @List.getElem?_drop:=List.getElem?_drop
theorem bY:type_of% @Array.any_eq_true':=Array.any_eq_true'
theorem bZ:type_of% @List.take_append_of_le_length:=List.take_append_of_le_length
theorem cu:type_of% @List.cons.injEq:=List.cons.injEq
theorem cB:type_of% @List.cons_append:=List.cons_append
theorem cK:type_of% @List.drop_left:=List.drop_left
theorem cO:type_of% @List.drop_eq_nil_of_le:=List.drop_eq_nil_of_le
theorem cZ:type_of% @List.length_map:=List.length_map
theorem dh:type_of% @Option.getD_some:=Option.getD_some
theorem di:type_of% @List.size_toArray:=List.size_toArray
theorem dm:type_of% @Array.replicate_succ:=Array.replicate_succ
theorem dw:type_of% @List.mem_singleton:=List.mem_singleton
theorem dx:type_of% @Nat.add_mul:=Nat.add_mul
theorem dz:type_of% @Nat.min_eq_left:=Nat.min_eq_left
theorem dA:type_of% @List.getElem_mem:=List.getElem_mem
theorem dB:type_of% @Array.replicate_zero:=Array.replicate_zero
theorem dD:type_of% @Nat.lt_or_eq_of_le:=Nat.lt_or_eq_of_le
theorem dF:type_of% @ByteArray.data_extract:=ByteArray.data_extract
theorem dG:type_of% @List.drop_of_length_le:=List.drop_of_length_le
theorem dH:type_of% @List.append_toArray:=List.append_toArray
theorem dI:type_of% @List.take_succ_cons:=List.take_succ_cons
theorem dJ:type_of% @List.map_cons:=List.map_cons
theorem dK:type_of% @Go.RowKit.Below.heap_alloc:=Go.RowKit.Below.heap_alloc
theorem dL:type_of% @List.push_toArray:=List.push_toArray
theorem dM:type_of% @List.drop_succ_cons:=List.drop_succ_cons
theorem dN:type_of% @List.extract_eq_take_drop:=List.extract_eq_take_drop
theorem dP:type_of% @Prod.ext:=Prod.ext
theorem dQ:type_of% @List.flatMap_nil:=List.flatMap_nil
theorem dR:type_of% @List.mem_cons_self:=List.mem_cons_self
theorem dS:type_of% @List.mem_map:=List.mem_map
theorem dU:type_of% @List.length_erase_of_mem:=List.length_erase_of_mem
theorem dW:type_of% @UInt8.toNat_ofNat_of_lt':=UInt8.toNat_ofNat_of_lt'
theorem dX:type_of% @ByteArray.ext:=ByteArray.ext
theorem dY:type_of% @List.drop_zero:=List.drop_zero
theorem dZ:type_of% @List.mem_of_mem_take:=List.mem_of_mem_take
theorem d9:type_of% @Classical.em:=Classical.em
theorem eu:type_of% @Array.getElem?_eq_none:=Array.getElem?_eq_none
theorem eB:type_of% @List.map_nil:=List.map_nil
theorem eD:type_of% @UInt64.toNat_inj:=UInt64.toNat_inj
theorem eF:type_of% @List.length_replicate:=List.length_replicate
theorem eG:type_of% @List.map_append:=List.map_append
theorem eH:type_of% @Int.natCast_mul:=Int.natCast_mul
theorem eO:type_of% @Array.toList_extract:=Array.toList_extract
theorem eP:type_of% @Nat.sub_zero:=Nat.sub_zero
theorem eU:type_of% @List.foldl_cons:=List.foldl_cons
theorem eX:type_of% @Nat.lt_succ_iff:=Nat.lt_succ_iff
theorem eY:type_of% @List.getLast?_concat:=List.getLast?_concat
theorem eZ:type_of% @Nat.lt_trichotomy:=Nat.lt_trichotomy
theorem fe:type_of% @Ne.symm:=Ne.symm
theorem fo:type_of% @Go.World.cells?_some:=Go.World.cells?_some
theorem fq:type_of% @List.drop_append_of_le_length:=List.drop_append_of_le_length
theorem fw:type_of% @Nat.add_sub_cancel_left:=Nat.add_sub_cancel_left
theorem fA:type_of% @Int.eq_ofNat_of_zero_le:=Int.eq_ofNat_of_zero_le
theorem fB:type_of% @List.mem_replicate:=List.mem_replicate
theorem fC:type_of% @Bool.eq_iff_iff:=Bool.eq_iff_iff
theorem fD:type_of% @List.set_append_right:=List.set_append_right
theorem fE:type_of% @List.getElem?_eq_none:=List.getElem?_eq_none
theorem fF:type_of% @Int.tdiv_eq_ediv_of_nonneg:=Int.tdiv_eq_ediv_of_nonneg
theorem fG:type_of% @List.getElem?_map:=List.getElem?_map
theorem fH:type_of% @Option.isNone_iff_eq_none:=Option.isNone_iff_eq_none
theorem fI:type_of% @List.any_eq_true:=List.any_eq_true
theorem fJ:type_of% @List.map_toArray:=List.map_toArray
theorem fK:type_of% @List.flatten_nil:=List.flatten_nil
theorem fM:type_of% @Nat.add_assoc:=Nat.add_assoc
theorem fO:type_of% @Array.all_eq_true':=Array.all_eq_true'
theorem fP:type_of% @Nat.add_sub_cancel:=Nat.add_sub_cancel
theorem fQ:type_of% @Nat.eq_zero_or_pos:=Nat.eq_zero_or_pos
theorem fT:type_of% @And.intro:=And.intro
theorem fU:type_of% @List.mem_filter:=List.mem_filter
theorem fV:type_of% @Nat.zero_mul:=Nat.zero_mul
theorem fZ{p:Prop}(h:p:=by omega):p:=h
theorem gm{p:Prop}(h:p:=by decide):p:=h
theorem gu{p:Prop}(h:p:=by simp):p:=h
theorem gB{p:Prop}(h:p:=by kernel_rfl):p:=h
theorem gD{n:Nat}{w:World}:Below n w w:=Below.refl n w
theorem gF{n:Nat}:n≤n:=Nat.le_refl n
theorem str_eq{x y:ByteArray}(h:x=y):(x.toList==y.toList)=true:=(Lib.bytes_beq_iff x y).2 h
theorem Hq{x y:ByteArray}(h:¬x=y):(x.toList==y.toList)=false:=(Lib.bytes_beq_false_iff x y).2 h
theorem kS{a b:Bool}(h:a=b):Ending.returned (.bool a)=.returned (.bool b):=by rw[h]
theorem jK{k:IntKind}{a b:Int}(h:a=b):Ending.returned (.int k a)=.returned (.int k b):=by rw[h]
theorem jo{n:Int}(h0 : -9223372036854775808≤n)(h1:n≤9223372036854775807):IntKind.i64.wrap n=n:=IntWalk.i64_in n fZ
def jZ(w w':World):Prop:=∃n,w'=w.drewN n
theorem jZ.refl(w:World):jZ w w:=⟨0,rfl⟩
theorem jZ.drewN{w w':World}(h:jZ w w')(n:Nat):jZ w (w'.drewN n):=by obtain⟨m,rfl⟩:=h;exact⟨m+n,World.drewN_drewN ..⟩
theorem jZ.drew{w w':World}(h:jZ w w'):jZ w w'.drew:=by obtain⟨m,rfl⟩:=h;exact⟨m+1,rfl⟩
theorem jZ.trans{a b c:World}(h:jZ a b)(k:jZ b c):jZ a c:=by obtain⟨m,rfl⟩:=k;exact h.drewN m
theorem jZ.below{w w':World}(h:jZ w w')(B:Nat):Below B w w':=by obtain⟨m,rfl⟩:=h;exact⟨rfl,rfl,rfl,ak _,fun _ _=>rfl⟩
def iM(w:World)(A:Option Addr)(vs:List Value):Prop :=
 ∀k u,vs[k]?=some u→∃b off,A=some ⟨b,off,none⟩∧w.cell? ⟨b,off+k,none⟩=some u
def Keeps(w w':World):Prop:=∀b o u,w.cell? ⟨b,o,none⟩=some u→w'.cell? ⟨b,o,none⟩=some u
theorem Keeps.refl(w:World):Keeps w w:=fun _ _ _ h=>h
theorem Keeps.trans{a b c:World}(h:Keeps a b)(k:Keeps b c):Keeps a c:=fun _ _ _ x=>k _ _ _ (h _ _ _ x)
theorem dO{w w':World}(h:Below w.heap.size w w'):Keeps w w':=fun _ _ _ x=>cell_later h x
theorem Keeps.drewN(w:World)(n:Nat):Keeps w (w.drewN n):=fun _ _ _ x=>x
theorem Keeps.drew(w:World):Keeps w w.drew:=fun _ _ _ x=>x
theorem Keeps.alloc(w:World)(o:Obj):Keeps w (w.alloc o):=fun _ _ _ x =>
 (World.cell?_alloc_lt w o _ (World.block_lt_of_cell? w _ x)).trans x
theorem jZ.keeps{w w':World}(h:jZ w w'):Keeps w w':=by obtain⟨n,rfl⟩:=h;exact Keeps.drewN w n
theorem iM.keep{w w':World}{A:Option Addr}{vs:List Value}(h:iM w A vs)(k:Keeps w w'):iM w' A vs:=fun i u hu=>by
 obtain⟨b,off,e,hc⟩:=h i u hu;exact⟨b,off,e,k _ _ _ hc⟩
theorem iM.nil(w:World)(A:Option Addr):iM w A []:=fun k u h=>by simp at h
theorem iM.kit{w:World}{ad:Addr}{vs:List Value}(h:iM w (some ad) vs):∀j u,vs[j]?=some u→w.cell? (ad.add j)=some u:=by
 intro j u hu;obtain⟨b,off,e,hc⟩:=h j u hu;cases e;have:(⟨b,off,none⟩:Addr).add j=⟨b,off+j,none⟩:=by unfold Addr.add;split<;>simp_all
 rw[this];exact hc
theorem nJ{w:World}{ad:Addr}{vs:List Value}(h:∀j u,vs[j]?=some u→w.cell? (ad.add j)=some u):iM w (some ad) vs:=by
 intro j u hu;have h0:vs[0]?=some (vs[0]'(by have:=(ay.1 hu).1;omega)):=au _;have hc0:=h 0 _ h0;have hs:ad.spot=none:=by
  have:=World.cell?_spot hc0;simpa [Addr.add] using this
 obtain⟨b,off,spot⟩:=ad;simp only at hs;subst hs;refine⟨b,off,rfl,?_⟩;have:(⟨b,off,none⟩:Addr).add j=⟨b,off+j,none⟩:=by unfold Addr.add;split<;>simp_all
 rw[←this];exact h j u hu
theorem gY(w:World)(cs:Array Value)(t:TypeId)(fr:Nat×Nat):iM (w.alloc (.cells cs t fr)) (some ⟨w.heap.size,0,none⟩) cs.toList:=by
 intro k u hu;refine⟨_,_,rfl,?_⟩;rw[World.cell?_alloc_mark];simpa using hu
theorem iM.drop{w:World}{A:Option Addr}{vs:List Value}(h:iM w A vs)(c i s:Nat)(hi:i<c∨vs.length≤i*s):
  iM w (if c=i then A else A.map (·.add (i*s))) (vs.drop (i*s)):=by
 intro k u hu;rw[bX]at hu;obtain⟨b,off,rfl,hc⟩:=h _ u hu;have hlt:=(ay.1 hu).1;rw[if_neg fZ ];refine⟨b,off+i*s,?_,by rw[←hc,fM]⟩;simp only[Option.map_some];unfold Addr.add;split<;>simp_all
theorem iM.take{w:World}{A:Option Addr}{vs:List Value}(h:iM w A vs)(n:Nat):iM w A (vs.take n):=by
 intro k u hu;rw[bR]at hu;split at hu
 ·exact h k u hu
 ·cases hu
def jF{α : Type}(sz:Nat)(R:List Value→α→Prop):List α→List Value→Prop
 |[],vs=>vs = []
 |x::xs,vs=>∃us vs',vs=us++vs'∧us.length=sz∧R us x∧jF sz R xs vs'
section
variable {α : Type}{sz:Nat}{R R':List Value→α→Prop}
theorem jF.length:∀{xs:List α} {vs:List Value},jF sz R xs vs→vs.length=xs.length*sz
 |[],vs,h=>by simp[show vs = []from h]
 |x::xs,vs,⟨us,vs',e,hl,_,hr⟩=>by
  subst e;rw[aj,hl,jF.length hr,aI,dx,Nat.one_mul,Nat.add_comm]
theorem jF.mono(hR:∀us x,R us x→R' us x):∀{xs:List α} {vs:List Value},jF sz R xs vs→jF sz R' xs vs
 |[],_,h=>h
 |_::_,_,⟨us,vs',e,hl,hr,ht⟩=>⟨us,vs',e,hl,hR _ _ hr,jF.mono hR ht⟩
theorem jF.append:∀{xs:List α} {vs:List Value},jF sz R xs vs→∀{ys:List α} {us:List Value},jF sz R ys us→jF sz R (xs++ys) (vs++us)
 |[],vs,h,ys,us,k=>by simpa [show vs = []from h] using k
 |x::xs,vs,⟨u,vs',e,hl,hr,ht⟩,ys,us,k=>⟨u,vs'++us,by rw[e,aA],hl,hr,jF.append ht k⟩
theorem jF.one{x : α}{us:List Value}(h:R us x)(hl:us.length=sz):jF sz R [x] us:=⟨us,[],by simp,hl,h,rfl⟩
theorem jF.drop:∀{xs:List α} {vs:List Value},jF sz R xs vs→∀i,jF sz R (xs.drop i) (vs.drop (i*sz))
 |xs,vs,h,0=>by simpa using h
 |[],vs,h,i+1=>by simp[show vs = []from h,jF]
 |x::xs,vs,⟨us,vs',e,hl,hr,ht⟩,i+1=>by
  subst e;have:(us++vs').drop ((i+1)*sz)=vs'.drop (i*sz):=by
   rw[dx,Nat.one_mul,Nat.add_comm,←hl,←bP,cK]
  rw[this];exact jF.drop ht i
theorem jF.take:∀{xs:List α} {vs:List Value},jF sz R xs vs→∀i,jF sz R (xs.take i) (vs.take (i*sz))
 |xs,vs,h,0=>by simp[jF]
 |[],vs,h,i+1=>by simp[jF,show vs = []from h]
 |x::xs,vs,⟨us,vs',e,hl,hr,ht⟩,i+1=>by
  subst e;have:(us++vs').take ((i+1)*sz)=us++vs'.take (i*sz):=by
   rw[dx,Nat.one_mul,Nat.add_comm,←hl,List.take_length_add_append]
  rw[this];exact⟨us,_,rfl,hl,hr,jF.take ht i⟩
theorem jF.get:∀{xs:List α} {vs:List Value},jF sz R xs vs→∀{i:Nat} {x : α},xs[i]?=some x→∃us,R us x∧us.length=sz∧∀j u,us[j]?=some u→vs[i*sz+j]?=some u
 |[],_,_,i,x,h=>by simp at h
 |y::xs,vs,⟨us,vs',e,hl,hr,ht⟩,0,x,h=>by
  subst e;simp at h;subst h;refine⟨us,hr,hl,fun j u hu=>?_⟩;have hlt:=(ay.1 hu).1;rw[fV,bH,aY hlt];exact hu
 |y::xs,vs,⟨us,vs',e,hl,hr,ht⟩,i+1,x,h=>by
  subst e;simp at h;obtain⟨us',h1,h2,h3⟩:=jF.get ht h;refine⟨us',h1,h2,fun j u hu=>?_⟩;rw[bD (by rw[hl,dx,Nat.one_mul];omega),hl];have:(i+1)*sz+j-sz=i*sz+j:=by rw[dx,Nat.one_mul];omega
  rw[this];exact h3 j u hu
end
def Sl{α : Type}(w:World)(sz:Nat)(R:List Value→α→Prop)(v:Value)(xs:List α):Prop :=
 ∃A c vs,v=.slice A xs.length c∧xs.length≤c∧c≤maxLen∧iM w A vs∧jF sz R xs vs
section
variable {α : Type}{sz:Nat}{R R':List Value→α→Prop}{w w':World}{v:Value}{xs:List α}
theorem Sl.keep(h:Sl w sz R v xs)(k:Keeps w w')(hR:∀us x,R us x→R' us x):Sl w' sz R' v xs:=by
 obtain⟨A,c,vs,e,h1,h2,h3,h4⟩:=h;exact⟨A,c,vs,e,h1,h2,h3.keep k,h4.mono hR⟩
theorem Sl.nil(w:World)(sz:Nat)(R:List Value→α→Prop):Sl w sz R (.slice none 0 0) []:=⟨none,0,[],rfl,by simp,by simp,iM.nil _ _,rfl⟩
theorem Sl.get{A:Option Addr}{c n:Nat}(h:Sl w sz R (.slice A n c) xs){i:Nat}{x : α}(hi:xs[i]?=some x)(hsz:0<sz):
  ∃b off us,A=some ⟨b,off,none⟩∧R us x∧us.length=sz∧∀j u,us[j]?=some u→w.cell? ⟨b,off+i*sz+j,none⟩=some u:=by
 obtain⟨A',c',vs,e,h1,h2,h3,h4⟩:=h;cases e;obtain⟨us,r1,r2,r3⟩:=h4.get hi;have h0:us[0]?=some (us[0]' fZ ):=au _;obtain⟨b,off,rfl,_⟩:=h3 _ _ (r3 0 _ h0);refine⟨b,off,us,rfl,r1,r2,fun j u hu=>?_⟩;obtain⟨b',off',e,hc⟩:=h3 _ _ (r3 j u hu);cases e;rw[fM];exact hc
theorem Sl.form(h:Sl w sz R v xs):∃A c,v=.slice A xs.length c∧xs.length≤c∧c≤9223372036854775807:=by
 obtain⟨A,c,vs,e,h1,h2,_⟩:=h;exact⟨A,c,e,h1,by unfold maxLen at h2;omega⟩
theorem Sl.sliced{A:Option Addr}{c n:Nat}(h:Sl w sz R (.slice A n c) xs){i j:Nat}(hij:i≤j)(hj:j≤n):
  Sl w sz R (sliced A i j c sz) ((xs.drop i).take (j-i)):=by
 obtain⟨A',c',vs,e,h1,h2,h3,h4⟩:=h;cases e;have hlen:=h4.length;refine⟨_,c-i,(vs.drop (i*sz)).take ((j-i)*sz),?_,?_,by omega,(h3.drop c i sz ?_).take _,(h4.drop i).take _⟩
 ·unfold Go.sliced;congr 1;simp;omega
 ·simp;omega
 ·by_cases hc:i<c
  ·exact .inl hc
  ·right;rw[hlen,show xs.length=i by omega];exact ak _
theorem Sl.length_le(h:Sl w sz R v xs):xs.length≤9223372036854775807:=by
 obtain⟨_,_,_,h1,h2⟩:=h.form;omega
end
def RG:List Value→ByteArray→Prop:=fun us s=>us = [.string s]
def Strs(w:World)(v:Value)(xs:List ByteArray):Prop:=Sl w 1 RG v xs
theorem Strs.keep{w w':World}{v:Value}{xs:List ByteArray}(h:Strs w v xs)(k:Keeps w w'):Strs w' v xs:=Sl.keep h k fun _ _ h=>h
theorem Strs.get{w:World}{xs:List ByteArray}{A:Option Addr}{c n:Nat}(h:Strs w (.slice A n c) xs){i:Nat}(hi:i<xs.length):
  ∃b off,A=some ⟨b,off,none⟩∧w.cell? ⟨b,off+i,none⟩=some (.string xs[i]):=by
 obtain⟨b,off,us,e,r,_,hc⟩:=Sl.get h (au hi) fZ ;have hc0:=hc 0 (.string xs[i]) (by rw[show us=_ from r];rfl);exact⟨b,off,e,by simpa using hc0⟩
theorem Strs.form{w:World}{v:Value}{xs:List ByteArray}(h:Strs w v xs):∃A c,v=.slice A xs.length c∧xs.length≤c∧c≤9223372036854775807:=Sl.form h
abbrev Hk:=Int×List ByteArray×List ByteArray
def HkR(w:World):List Value→Hk→Prop:=fun us h=>∃vo vn,us = [.int .i64 h.1,vo,vn]∧Strs w vo h.2.1∧Strs w vn h.2.2∧-9223372036854775808≤h.1∧h.1≤9223372036854775807
def YS(w:World)(v:Value)(hs:List Hk):Prop:=Sl w 3 (HkR w) v hs
theorem HkR.keep{w w':World}(k:Keeps w w'):∀us x,HkR w us x→HkR w' us x:=fun _ _ ⟨vo,vn,e,h1,h2,h3⟩=>⟨vo,vn,e,h1.keep k,h2.keep k,h3⟩
theorem YS.keep{w w':World}{v:Value}{hs:List Hk}(h:YS w v hs)(k:Keeps w w'):YS w' v hs:=Sl.keep h k (HkR.keep k)
theorem YS.form{w:World}{v:Value}{xs:List Hk}(h:YS w v xs):∃A c,v=.slice A xs.length c∧xs.length≤c∧c≤9223372036854775807:=Sl.form h
theorem YS.get{w:World}{hs:List Hk}{A:Option Addr}{c n:Nat}(h:YS w (.slice A n c) hs){i:Nat}(hi:i<hs.length):
  ∃b off vo vn,A=some ⟨b,off,none⟩∧w.cell? ⟨b,off+i*3,none⟩=some (.int .i64 hs[i].1)∧w.cell? ⟨b,off+i*3+1,none⟩=some vo∧w.cell? ⟨b,off+i*3+2,none⟩=some vn ∧
   Strs w vo hs[i].2.1∧Strs w vn hs[i].2.2∧-9223372036854775808≤hs[i].1∧hs[i].1≤9223372036854775807:=by
 obtain⟨b,off,us,e,⟨vo,vn,rfl,h1,h2,h3,h4⟩,_,hc⟩:=Sl.get h (au hi) fZ ;exact⟨b,off,vo,vn,e,hc 0 _ rfl,hc 1 _ rfl,hc 2 _ rfl,h1,h2,h3,h4⟩
def Ow{α : Type}(w:World)(base:Nat)(e:TypeId)(sz:Nat)(R:List Value→α→Prop)(v:Value)(xs:List α):Prop :=
 ∃vs,w.ownsRow base e sz v xs.length vs∧jF sz R xs vs
section
variable {α : Type}{sz:Nat}{R R':List Value→α→Prop}{w w':World}{v:Value}{xs:List α}{base:Nat}{e:TypeId}
theorem Ow.nil(w:World)(base:Nat)(e:TypeId)(sz:Nat)(R:List Value→α→Prop):Ow w base e sz R (.slice none 0 0) []:=⟨[],World.ownsRow_nil _ _ _ _,rfl⟩
theorem Ow.sl(h:Ow w base e sz R v xs):Sl w sz R v xs:=by
 obtain⟨vs,ho,he⟩:=h;rcases ho.2 with ⟨rfl,hn⟩|⟨g,cap,cur,rfl,h1,h2,h3,h4,h5,h6⟩
 ·have:xs = []:=List.eq_nil_of_length_eq_zero hn;subst this;exact Sl.nil _ _ _
 ·exact⟨_,cap,vs,rfl,h3,h4,nJ (ho.cells (g:=g) rfl),he⟩
theorem Ow.keep(h:Ow w base e sz R v xs)(hg:w.grownBy w' none)(hR:∀us x,R us x→R' us x):Ow w' base e sz R' v xs:=by
 obtain⟨vs,ho,he⟩:=h;refine⟨vs,ho.kept hg ?_,he.mono hR⟩;cases hv:v.ownBlock
 ·exact .inl rfl
 ·right;simp
end
theorem iF{w w':World}(h:Below w.heap.size w w'):w.grownBy w' none:=⟨h.os,h.tape,h.output,h.size,fun k hk _=>h.block k hk⟩
theorem below_drewN'{B:Nat}{a w:World}(h:Below B a w)(n:Nat):Below B a (w.drewN n):=⟨h.os,h.tape,h.output,h.size,h.block⟩
section
variable {P:Program}(w:World)
end
end Go.Proofs.YtichfhpgdhdiaaaGreat
namespace Go.Proofs.YtichfhpgdhdiaaaGreat
open Go.RowKit
def gV(w:World)(g:Nat)(t:TypeId)(cs:Array Value):Prop:=w.heap[g]?=some (.cells cs t (0,0))
section
variable {w w':World}{g:Nat}{t:TypeId}{cs:Array Value}
theorem gV.lt(h:gV w g t cs):g<w.heap.size:=(ax.1 h).1
theorem gV.cell(h:gV w g t cs){j:Nat}{u:Value}(hj:cs[j]?=some u):w.cell? ⟨g,j,none⟩=some u:=by
 rw[cell_of_row w g j cs t (0,0) h];exact hj
theorem gV.frozen(h:gV w g t cs)(j:Nat):w.frozen? ⟨g,j,none⟩=false:=by
 unfold gV at h;simp[World.frozen?,h]
theorem gV.new(w:World)(cs:Array Value)(t:TypeId):gV (w.alloc (.cells cs t)) w.heap.size t cs:=heap_alloc_new w _
theorem gV.drewN(h:gV w g t cs)(n:Nat):gV (w.drewN n) g t cs:=h
theorem gV.drew(h:gV w g t cs):gV w.drew g t cs:=h
theorem gV.alloc(h:gV w g t cs)(o:Obj):gV (w.alloc o) g t cs:=(dK w o g h.lt).trans h
theorem gV.set(h:gV w g t cs)(i:Nat)(u:Value):gV (w.setCell ⟨g,i,none⟩ u) g t (cs.setIfInBounds i u):=by
 unfold gV at h ⊢;simp[World.setCell,Array.getElem?_modify,h]
theorem gV.far(h:gV w g t cs){p:Addr}(hp:g≠p.block)(u:Value):gV (w.setCell p u) g t cs:=(bf w p u g hp).trans h
theorem gV.below{B:Nat}(h:gV w g t cs)(hb:Below B w w')(hg:g<B):gV w' g t cs:=(hb.block g hg).trans h
theorem gV.keep(h:gV w g t cs)(hb:Below w.heap.size w w'):gV w' g t cs:=(hb.block g h.lt).trans h
theorem gV.grown{row:Option Nat}(h:gV w g t cs)(hb:w.grownBy w' row)(hg:some g≠row):gV w' g t cs:=(hb.block g h.lt hg).trans h
theorem gV.IZ(h:gV w g t cs):iM w (some ⟨g,0,none⟩) cs.toList:=by
 intro k u hu;exact⟨_,_,rfl,by rw[bH];exact h.cell (by simpa using hu)⟩
theorem gV.own(h:gV w g t cs){base:Nat}(hb:base≤g){cap sz n:Nat}(hc:cs.size=cap*sz)(hm:cap≤maxLen)(hn:n≤cap):
  w.ownsRow base t sz (.slice (some ⟨g,0,none⟩) n cap) n (cs.toList.take (n*sz)):=by
 refine⟨?_,.inr ⟨g,cap,cs,rfl,hb,h,hn,hm,hc,rfl⟩⟩;rw[aH,Array.length_toList,hc];exact dz (bT _ hn)
end
theorem xO{z:Value}(hz:z.cells=#[z])(n:Nat):madeCells z.cells n=Array.replicate n z:=by
 rw[hz];apply Array.ext
 ·simp[madeCells]
 ·intro i h1 h2;simp[madeCells,Nat.mod_one]
section
variable {P:Program}(w:World)
theorem Ch{ops:Array Oper}{rest:List Oper}{o:Oper}{a:Act}{Q:Exit→Act→World→Prop}(hgd:o.guard=none)(l c:Operand)(t:TypeId)(hop:o.op=Op.makeSlice t l c)(e:TypeId)(i:TypeInfo)(z:Value)(h1:P.underlying t=some (.slice e))(h2:P.info? e=some i)(h3:i.zero=some z)(h4:i.size=1)(hz:z.cells=#[z])(kl kc:IntKind)(L C:Int)(n:Nat)(hl:a.eval l=.int kl L)(hc:a.eval c=.int kc C)(hL:L=(n:Int))(hC:C=(n:Int))(b2:i.bytes*n≤281474976710656)(b3:n≤9223372036854775807)(hK:∀g w',w.heap.size≤g→gV w' g e (Array.replicate n z)→Below w.heap.size w w'→wpList P ops Q rest (a.put o.dst (.slice (some ⟨g,0,none⟩) n n)) w'):
  wpList P ops Q (o::rest) a w:=by
 refine wpList_plain hgd fun K hK'=>?_
 subst hL;subst hC;have hb:(i.bytes:Int)*(n:Int)≤281474976710656:=by
  have h:((i.bytes*n:Nat):Int)≤281474976710656:=by omega
  rwa [eH]at h
 have hrun:=run_make (P:=P) w t e i z h1 h2 h3 kl kc n n fZ fZ hb fZ ;simp only[aT,h4,Nat.mul_one]at hrun;rw[xO hz]at hrun;unfold Oper.wp;simp[execOp,hop,hl,hc,hrun,Result.andThen];exact hK' _ _ (hK _ _ (ak _) (gV.new _ _ _) ((ah _ _).alloc (ak _) _))
theorem iE{ops:Array Oper}{rest:List Oper}{o:Oper}{a:Act}{Q:Exit→Act→World→Prop}(hgd:o.guard=none)(s x:Operand)(t:TypeId)(ho:o.op=.call { callee:=.builtin .append,args:=#[s,x],argTypes:=#[t,t] })(base:Nat)(e:TypeId)(i:TypeInfo)(z:Value)(size bytes:Nat)(ht:P.underlying t=some (.slice e))(hi:P.info? e=some i)(hz:i.zero=some z)(hsize:i.size=size)(hby:i.bytes=bytes)(hzs:z.cells.size=size)(hsz:0<size)(v:Value)(n:Nat)(xs:List Value)(hs:a.eval s=v)(hown:w.ownsRow base e size v n xs)(A:Option Addr)(m c:Nat)(news:List Value)(hx:a.eval x=.slice A m c)(hl:news.length=m*size)(hr:iM w A news)(h1:∀u∈news,u.oneCell'=true)(h63:n+m≤9223372036854775807)(hbytes:(n+m)*bytes≤140737488355328)(hbase:base≤w.heap.size)(h:∀v' w',w'.ownsRow base e size v' (n+m) (xs++news)→w.grownBy w' v.ownBlock→(v'.ownBlock=v.ownBlock∨v'.ownBlock=some w.heap.size)→wpList P ops Q rest (a.put o.dst v') w'):
  wpList P ops Q (o::rest) a w:=by
 refine wpList_plain hgd fun K hK=>?_
 have h63':n+m≤maxLen:=by unfold maxLen;omega
 rcases A with _|ad
 ·have hn:news = []:=by
   cases news with
   |nil=>rfl
   |cons u us =>
    obtain⟨_,_,e,_⟩:=hr 0 u rfl;cases e
  subst hn;have hm:m=0:=by
   have h2:m*size=0:=hl.symm;rcases Nat.mul_eq_zero.1 h2 with h|h
   ·exact h
   ·omega
  subst hm;have hrun:(Builtin.append_ #[t,t] o.type #[v,.slice none 0 c]).run P w=.ok v w:=by
   rcases hown.2 with ⟨rfl,rfl⟩|⟨g,cap,cur,rfl,_,_,hnc,_⟩
   ·simp[Builtin.append_,run_underlying ht,sizeOf,typeInfo,hi,Builtin.lenOf,Builtin.firstCells]
   ·simp[Builtin.append_,run_underlying ht,sizeOf,typeInfo,hi,Builtin.lenOf,Builtin.firstCells,hnc,storeCells]
  unfold Oper.wp execOp;simp only[ho,resolve,invoke,builtin,Sem.run_bind,Sem.run_pure,Result.andThen_ok,fJ,dJ,eB,hs,hx,hrun];exact hK _ _ (h v w (by simpa using hown) (World.grownBy.refl w _) (.inl rfl))
 ·obtain⟨v',w',hrun,h2,h3,_,h5⟩:=run_append_own_at (P:=P) w base t o.type e i z size bytes ht hi hz hsize hby hzs hsz v n xs hown ad m c news hl hr.kit h1 h63' hbytes hbase;unfold Oper.wp execOp;simp only[ho,resolve,invoke,builtin,Sem.run_bind,Sem.run_pure,Result.andThen_ok,fJ,dJ,eB,hs,hx,hrun];exact hK _ _ (h v' w' h2 h3 h5)
end
theorem jf{P:Program}(w:World){ops:Array Oper}{o:Oper}{a:Act}{K:Act→World→Prop}{Q:Exit→Act→World→Prop}{E:Prop}(hgd:o.guard=none)(s x:Operand)(t:TypeId)(ho:o.op=.call { callee:=.builtin .append,args:=#[s,x],argTypes:=#[t,t] })(base:Nat)(e:TypeId)(i:TypeInfo)(z:Value)(size bytes:Nat)(ht:P.underlying t=some (.slice e))(hi:P.info? e=some i)(hz:i.zero=some z)(hsize:i.size=size)(hby:i.bytes=bytes)(hzs:z.cells.size=size)(hsz:0<size)(v:Value)(n:Nat)(xs:List Value)(hs:a.eval s=v)(hown:w.ownsRow base e size v n xs)(A:Option Addr)(m c:Nat)(news:List Value)(hx:a.eval x=.slice A m c)(hl:news.length=m*size)(hr:iM w A news)(h1:∀u∈news,u.oneCell'=true)(h63:n+m≤9223372036854775807)(hbytes:(n+m)*bytes≤140737488355328)(hbase:base≤w.heap.size)(h:∀v' w',w'.ownsRow base e size v' (n+m) (xs++news)→w.grownBy w' v.ownBlock→(v'.ownBlock=v.ownBlock∨v'.ownBlock=some w.heap.size)→K (a.put o.dst v') w'):
  if Region.wanted o (yielded ops a.tmps)=true then Oper.wp P o a w K Q else E:=by
 have hw:Region.wanted o (yielded ops a.tmps)=true:=by simp[Region.wanted,hgd]
 rw[if_pos hw];have h63':n+m≤maxLen:=by unfold maxLen;omega
 rcases A with _|ad
 ·have hn:news = []:=by
   cases news with
   |nil=>rfl
   |cons u us =>
    obtain⟨_,_,e,_⟩:=hr 0 u rfl;cases e
  subst hn;have hm:m=0:=by
   have h2:m*size=0:=hl.symm;rcases Nat.mul_eq_zero.1 h2 with h|h
   ·exact h
   ·omega
  subst hm;have hrun:(Builtin.append_ #[t,t] o.type #[v,.slice none 0 c]).run P w=.ok v w:=by
   rcases hown.2 with ⟨rfl,rfl⟩|⟨g,cap,cur,rfl,_,_,hnc,_⟩
   ·simp[Builtin.append_,run_underlying ht,sizeOf,typeInfo,hi,Builtin.lenOf,Builtin.firstCells]
   ·simp[Builtin.append_,run_underlying ht,sizeOf,typeInfo,hi,Builtin.lenOf,Builtin.firstCells,hnc,storeCells]
  unfold Oper.wp execOp;simp only[ho,resolve,invoke,builtin,Sem.run_bind,Sem.run_pure,Result.andThen_ok,fJ,dJ,eB,hs,hx,hrun];exact h v w (by simpa using hown) (World.grownBy.refl w _) (.inl rfl)
 ·obtain⟨v',w',hrun,h2,h3,_,h5⟩:=run_append_own_at (P:=P) w base t o.type e i z size bytes ht hi hz hsize hby hzs hsz v n xs hown ad m c news hl hr.kit h1 h63' hbytes hbase;unfold Oper.wp execOp;simp only[ho,resolve,invoke,builtin,Sem.run_bind,Sem.run_pure,Result.andThen_ok,fJ,dJ,eB,hs,hx,hrun];exact h v' w' h2 h3 h5
section
variable {P:Program}{α : Type}{sz:Nat}{R:List Value→α→Prop}
end
structure Agree(M:Nat→Prop)(w w':World):Prop where
 size:w.heap.size≤w'.heap.size
 block:∀b,b<w.heap.size→¬M b→w'.heap[b]?=w.heap[b]?
theorem Agree.refl(M:Nat→Prop)(w:World):Agree M w w:=⟨ak _,fun _ _ _=>rfl⟩
theorem Agree.trans{M:Nat→Prop}{a b c:World}(h:Agree M a b)(k:Agree M b c):Agree M a c :=
 ⟨aS h.size k.size,fun i hi hn=>(k.block i (bM hi h.size) hn).trans (h.block i hi hn)⟩
theorem Agree.mono{M M':Nat→Prop}{a b:World}(h:Agree M a b)(hm:∀i,i<a.heap.size→M i→M' i):Agree M' a b :=
 ⟨h.size,fun i hi hn=>h.block i hi fun hM=>hn (hm i hi hM)⟩
theorem jC{a b:World}(h:Below a.heap.size a b)(M:Nat→Prop):Agree M a b:=⟨h.size,fun i hi _=>h.block i hi⟩
theorem qm{a b:World}{row:Option Nat}(h:a.grownBy b row){M:Nat→Prop}(hm:∀g,row=some g→M g):Agree M a b :=
 ⟨h.size,fun i hi hn=>h.block i hi fun e=>hn (hm i e.symm)⟩
theorem Agree.alloc{M:Nat→Prop}(w:World)(o:Obj):Agree M w (w.alloc o):=⟨by simp,fun i hi _=>dK w o i hi⟩
theorem Agree.setCell{M:Nat→Prop}(w:World){p:Addr}(hp:M p.block)(u:Value):Agree M w (w.setCell p u) :=
 ⟨by simp[World.setCell],fun i _ hn=>bf w p u i (fun e=>hn (e▸hp))⟩
theorem Agree.set1(w:World)(b o:Nat)(u:Value):Agree (fun g=>g=b) w (w.setCell ⟨b,o,none⟩ u):=Agree.setCell (M:=fun g=>g=b) w (p:=⟨b,o,none⟩) rfl u
theorem Agree.drewN{M:Nat→Prop}(w:World)(n:Nat):Agree M w (w.drewN n):=⟨ak _,fun _ _ _=>rfl⟩
def xu(w:World)(M:Nat→Prop)(φ : World→Prop):Prop:=∀w',Agree M w w'→φ w'
theorem xu.now{w:World}{M:Nat→Prop}{φ : World→Prop}(h:xu w M φ):φ w:=h w (Agree.refl _ _)
theorem xu.go{w w':World}{M:Nat→Prop}{φ : World→Prop}(h:xu w M φ)(k:Agree M w w'):xu w' M φ:=fun _ h'=>h _ (k.trans h')
theorem xu.mono{w:World}{M M':Nat→Prop}{φ : World→Prop}(h:xu w M φ)(hm:∀i,i<w.heap.size→M' i→M i):xu w M' φ:=fun _ k=>h _ (k.mono hm)
theorem xu.imp{w:World}{M:Nat→Prop}{φ ψ : World→Prop}(h:xu w M φ)(hi:∀w,φ w→ψ w):xu w M ψ:=fun _ k=>hi _ (h _ k)
theorem ZN{w:World}{M:Nat→Prop}{φ ψ : World→Prop}(h:xu w M φ)(k:xu w M ψ):xu w M fun w=>φ w∧ψ w:=fun w' a=>⟨h w' a,k w' a⟩
theorem iw{w:World}{base:Nat}{e:TypeId}{sz n:Nat}{v:Value}{xs:List Value}(h:w.ownsRow base e sz v n xs):∃A c,v=.slice A n c:=by
 rcases h.2 with ⟨rfl,rfl⟩|⟨g,cap,cur,rfl,_⟩
 ·exact⟨_,_,rfl⟩
 ·exact⟨_,_,rfl⟩
section
variable {w:World}
theorem I5{g g':Nat}{t t':TypeId}{cs cs':Array Value}(h:gV w g t cs)(h':gV w g' t' cs')(hne:t≠t'):g≠g':=by
 rintro rfl;unfold gV at h h';rw[h]at h';injection h' with h';injection h' with _ ht;exact hne ht
theorem ig{base:Nat}{e:TypeId}{size n:Nat}{v:Value}{xs:List Value}(h:w.ownsRow base e size v n xs){g:Nat}{t:TypeId}{cs:Array Value}(hg:gV w g t cs)(hne:e≠t):v.ownBlock≠some g:=by
 rcases h.2 with ⟨rfl,_⟩|⟨g',cap,cur,rfl,_,hh,_⟩
 ·simp[Value.ownBlock]
 ·intro he;have e1:g'=g:=by simpa [Value.ownBlock] using he
  exact I5 (t:=e) hh hg hne e1
end
theorem iY{w:World}{M:Nat→Prop}{base:Nat}{e:TypeId}{sz n:Nat}{v:Value}{xs:List Value}(h:w.ownsRow base e sz v n xs)(hM:∀g,v.ownBlock=some g→¬M g):
  xu w M fun w'=>w'.ownsRow base e sz v n xs:=by
 intro w' k;refine⟨h.1,?_⟩;rcases h.2 with hn|⟨g,cap,cur,rfl,hb,hg,rest⟩
 ·exact .inl hn
 ·exact .inr ⟨g,cap,cur,rfl,hb,(k.block g (ax.1 hg).1 (hM g rfl)).trans hg,rest⟩
theorem zl{w:World}{M:Nat→Prop}{g:Nat}{t:TypeId}{cs:Array Value}(h:gV w g t cs)(hM:¬M g):xu w M fun w'=>gV w' g t cs :=
 fun _ k=>(k.block g h.lt hM).trans h
end Go.Proofs.YtichfhpgdhdiaaaGreat
namespace Go.Proofs.YtichfhpgdhdiaaaGreat
structure Dk where
 size:Int
 secs:List ByteArray
 pend:List (Int×ByteArray)
 left:Int
def iL:Dk:=⟨0,[],[],0⟩
def uZ(n:Nat)(size rest:Int):List (Int×ByteArray)→Int
 |[]=>rest
 |w::l=>if w.1<0∨(n:Int)≤w.1 then 2 else if (w.2.size:Int)≠size then 11 else uZ n size rest l
def AA(size rest:Int):List ByteArray→Int
 |[]=>rest
 |s::l=>if (s.size:Int)≠size then 11 else AA size rest l
def Ec(left:Int):Int:=if left < -1 then 2 else 0
def sJ(d:Dk):Int :=
 if d.size<1∨512<d.size∨d.secs.length<1∨1000<d.secs.length then 2
 else AA d.size (uZ d.secs.length d.size (Ec d.left) d.pend) d.secs
structure Valid(d:Dk):Prop where
 s1:1≤d.size
 s2:d.size≤512
 n1:1≤d.secs.length
 n2:d.secs.length≤1000
 ss:∀s∈d.secs,(s.size:Int)=d.size
 ws:∀w∈d.pend,0≤w.1∧w.1<d.secs.length∧(w.2.size:Int)=d.size
 lf : -1≤d.left
theorem Gi{n:Nat}{size rest:Int}:∀{l:List (Int×ByteArray)},uZ n size rest l=0↔(∀w∈l,0≤w.1∧w.1<n∧(w.2.size:Int)=size)∧rest=0
 |[]=>by simp[uZ]
 |w::l=>by
  rw[uZ];by_cases h:w.1<0∨(n:Int)≤w.1
  ·rw[if_pos h];constructor
   ·intro h';omega
   ·rintro⟨h',_⟩;have:=h' w dR;omega
  ·rw[if_neg h];by_cases h2:(w.2.size:Int)=size
   ·rw[if_neg (by simpa using h2),Gi (l:=l)];simp only[bC,forall_eq_or_imp];constructor
    ·rintro⟨a,b⟩;exact⟨⟨⟨by omega,by omega,h2⟩,a⟩,b⟩
    ·rintro⟨⟨_,a⟩,b⟩;exact⟨a,b⟩
   ·rw[if_pos h2];constructor
    ·intro h';omega
    ·rintro⟨h',_⟩;exact absurd (h' w dR).2.2 h2
theorem Gj{size rest:Int}:∀{l:List ByteArray},AA size rest l=0↔(∀s∈l,(s.size:Int)=size)∧rest=0
 |[]=>by simp[AA]
 |s::l=>by
  rw[AA];by_cases h2:(s.size:Int)=size
  ·rw[if_neg (by simpa using h2),Gj (l:=l)];simp only[bC,forall_eq_or_imp];constructor
   ·rintro⟨a,b⟩;exact⟨⟨h2,a⟩,b⟩
   ·rintro⟨⟨_,a⟩,b⟩;exact⟨a,b⟩
  ·rw[if_pos h2];constructor
   ·intro h';omega
   ·rintro⟨h',_⟩;exact absurd (h' s dR) h2
theorem mq{d:Dk}:sJ d=0↔Valid d:=by
 unfold sJ;by_cases h:d.size<1∨512<d.size∨d.secs.length<1∨1000<d.secs.length
 ·rw[if_pos h];constructor
  ·intro h';omega
  ·intro v;have:=v.s1;have:=v.s2;have:=v.n1;have:=v.n2;omega
 ·rw[if_neg h,Gj,Gi];constructor
  ·rintro⟨a,b,c⟩;refine⟨by omega,by omega,by omega,by omega,a,b,?_⟩;unfold Ec at c;split at c<;>omega
  ·intro v;refine⟨v.ss,v.ws,?_⟩;unfold Ec;rw[if_neg (by have:=v.lf;omega)]
section
variable {n:Nat}{size rest:Int}{l:List ByteArray}{p:List (Int×ByteArray)}{k:Nat}
theorem SH(h:k<l.length)(hb:¬(l[k].size:Int)=size):AA size rest (l.drop k)=11:=by
 rw[aR h,AA,if_pos hb]
theorem WK(h:k<l.length)(hb:(l[k].size:Int)=size):AA size rest (l.drop k)=AA size rest (l.drop (k+1)):=by
 rw[aR h,AA,if_neg (by simpa using hb)]
theorem SI(h:¬k<l.length):AA size rest (l.drop k)=rest:=by
 rw[dG fZ ];rfl
theorem Nr(h:k<p.length)(hb:p[k].1<0∨(n:Int)≤p[k].1):uZ n size rest (p.drop k)=2:=by
 rw[aR h,uZ,if_pos hb]
theorem SK(h:k<p.length)(h0:¬(p[k].1<0∨(n:Int)≤p[k].1))(hb:¬(p[k].2.size:Int)=size):uZ n size rest (p.drop k)=11:=by
 rw[aR h,uZ,if_neg h0,if_pos hb]
theorem WL(h:k<p.length)(h0:¬(p[k].1<0∨(n:Int)≤p[k].1))(hb:(p[k].2.size:Int)=size):uZ n size rest (p.drop k)=uZ n size rest (p.drop (k+1)):=by
 rw[aR h,uZ,if_neg h0,if_neg (by simpa using hb)]
theorem SL(h:¬k<p.length):uZ n size rest (p.drop k)=rest:=by
 rw[dG fZ ];rfl
end
def si(l:List ByteArray)(w:Int×ByteArray):List ByteArray:=l.set w.1.toNat w.2
def cur(d:Dk):List ByteArray:=d.pend.foldl si d.secs
def jV(n:Int):Int:=if 0<n then n-1 else n
theorem KJ(l:List ByteArray)(w:Int×ByteArray):(si l w).length=l.length:=by simp[si]
theorem lF:∀(p:List (Int×ByteArray)) (l:List ByteArray),(p.foldl si l).length=l.length
 |[],_=>rfl
 |w::p,l=>by rw[eU,lF p,KJ]
theorem jT(d:Dk):(cur d).length=d.secs.length:=lF _ _
theorem Ci{α β : Type}(f : α→β→α)(a : α)(p:List β){k:Nat}(h:k<p.length):(p.take (k+1)).foldl f a=f ((p.take k).foldl f a) p[k]:=by
 rw[aN h,List.foldl_append];rfl
def zy(d:Dk)(i:Int)(s:ByteArray):Int :=
 if sJ d≠0 then 1 else if i<0∨(d.secs.length:Int)≤i then 2 else if (s.size:Int)≠d.size then 11 else if d.left=0 then 20 else 0
def AL(d:Dk)(i:Int)(s:ByteArray):Dk :=
 if zy d i s=0 then { d with pend:=d.pend++[(i,s)],left:=jV d.left } else if zy d i s=20 then d else iL
def Kw(d:Dk):Int:=if sJ d≠0 then 1 else if d.left=0 then 20 else 0
def Qp(d:Dk):Dk:=if Kw d=0 then⟨d.size,cur d,[],jV d.left⟩else if Kw d=20 then d else iL
def pick(n size:Int):Nat:=(n.tmod (size+1)).natAbs
def qw(k:Nat)(data old:ByteArray):ByteArray:=data.extract 0 k++old.extract k old.size
def kP(size:Int):List ByteArray→List (Int×ByteArray)→List Int→List ByteArray
 |l,[],_=>l
 |l,w::ws,ps=>kP size (l.set w.1.toNat (qw (pick (ps.headD 0) size) w.2 (l.getD w.1.toNat ⟨#[]⟩))) ws ps.tail
def vw(d:Dk)(ps:List Int):Dk:=if sJ d≠0 then iL else⟨d.size,kP d.size d.secs d.pend ps,[],-1⟩
theorem Iw(n size:Int)(h:1≤size):(pick n size:Int)≤size:=by
 unfold pick;have h1:=Int.tmod_lt_of_pos n (show 0<size+1 by omega);have h2 : -(size+1)<n.tmod (size+1):=by
  have:=Int.tmod_lt_of_pos (-n) (show 0<size+1 by omega);rw[Int.neg_tmod]at this;omega
 omega
theorem wI{k:Nat}{data old:ByteArray}(h1:data.size=old.size)(h2:k≤old.size):(qw k data old).size=old.size:=by
 simp[qw,ByteArray.size_append,bJ];omega
end Go.Proofs.YtichfhpgdhdiaaaGreat
