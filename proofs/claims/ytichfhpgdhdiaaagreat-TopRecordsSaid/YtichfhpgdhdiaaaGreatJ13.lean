/- Maps of the call -/
import Derived.Maps.Keyed
import Derived.Maps.OwnOps
import Derived.DeepKeys4
import Derived.Test.YtichfhpgdhdiaaaGreatJ1
import Derived.Test.YtichfhpgdhdiaaaGreatJ3
set_option maxRecDepth 100000
set_option maxHeartbeats 8000000
set_option linter.unusedVariables false
set_option linter.unusedSimpArgs false
namespace Go.Proofs.YtichfhpgdhdiaaaGreat
open Go.RowKit Go.MapKept
open Go.WideElems (Fit rd rd_key rd_mk)
open Go.Maps (Keyed)
open Go.ChangeMaps (setBlock)
def R0:Value→Option (DataW Unit×List MemPlace):=fun _=>some (.nil,[])
def oM{K:Type}(P:Program)(k:TypeId)(kv:K→Value)(w:World)(b n:Nat)(f:K→Option Value):Prop :=
 ∃es clock,w.heap[b]?=some (.map es clock)∧Fit P k R0 es clock∧es.size≤n∧(∀e∈es.toList,∃x,e.key=kv x∧f x=some e.val)∧∀x v,f x=some v→∃e∈es.toList,e.key=kv x∧e.val=v
section
variable {K:Type}[DecidableEq K]{P:Program}{k t e:TypeId}{kv:K→Value}{w w':World}{b n:Nat}{f:K→Option Value}
def uD(f:K→Option Value)(x:K)(v:Value):K→Option Value:=fun y=>if y=x then some v else f y
omit [DecidableEq K] in
theorem oM.lt(h:oM P k kv w b n f):b<w.heap.size:=by
 obtain⟨es,clock,hb,_⟩:=h;exact(ax.1 hb).1
omit [DecidableEq K] in
theorem oM.of_heap(h:oM P k kv w b n f)(hh:w'.heap[b]?=w.heap[b]?):oM P k kv w' b n f:=by
 obtain⟨es,clock,hb,r⟩:=h;exact⟨es,clock,hh.trans hb,r⟩
omit [DecidableEq K] in
theorem oM.keep(h:oM P k kv w b n f)(hb:Below w.heap.size w w'):oM P k kv w' b n f:=h.of_heap (hb.block b h.lt)
omit [DecidableEq K] in
theorem oM.grown{row:Option Nat}(h:oM P k kv w b n f)(hb:w.grownBy w' row)(hr:some b≠row):oM P k kv w' b n f:=h.of_heap (hb.block b h.lt hr)
omit [DecidableEq K] in
theorem oM.alloc(h:oM P k kv w b n f)(o:Obj):oM P k kv (w.alloc o) b n f:=h.of_heap (dK w o b h.lt)
omit [DecidableEq K] in
theorem pJ(w:World):oM P k kv (w.alloc (.map #[] 0)) w.heap.size 0 (fun _=>none) :=
 ⟨#[],0,heap_alloc_new w _,⟨by simp,stamped_empty 0,by simp⟩,by simp,by simp,by simp⟩
omit [DecidableEq K] in
theorem oM.mono(h:oM P k kv w b n f){m:Nat}(hm:n≤m):oM P k kv w b m f:=by
 obtain⟨es,clock,hb,F,hs,r⟩:=h;exact⟨es,clock,hb,F,by omega,r⟩
theorem vK(w:World)(b:Nat)(o:Obj):w.grownBy (setBlock w b o) (some b):=by
 refine⟨rfl,rfl,rfl,by simp[setBlock],fun i hi hne=>?_⟩;show (w.heap.setIfInBounds b o)[i]?=_;rw[Array.getElem?_setIfInBounds_ne (by rintro rfl;exact hne rfl)]
theorem oM.store(h:oM P k kv w b n f)(Kd:Keyed P k)(ht:P.underlying t=some (.map k e))(hn:n<maxLen)(hinj:∀x y,kv x=kv y→x=y)(x:K)(v:Value){kl:Lit}(hkey:keyOf P k (kv x)=some kl):
  ∃w',(Instr.mapUpdate t (.map (some b)) (kv x) v).run P w=.ok () w'∧oM P k kv w' b (n+1) (uD f x v)∧w.grownBy w' (some b)∧w'.heap.size=w.heap.size:=by
 obtain⟨es,clock,hb,F,hs,h1,h2⟩:=h;have hlt:=(ax.1 hb).1;have hset:∀o,(setBlock w b o).heap[b]?=some o:=fun o=>by simp[setBlock,hlt]
 rcases Kd.find w hkey es.toList F.keys with ⟨g1,g2⟩|⟨j,e0,g1,g2,g3⟩
 ·refine⟨setBlock w b (.map (es.push ⟨kv x,v,clock⟩) (clock+1)),?_,⟨_,_,hset _,⟨by simp;omega,stamped_push F.stamped g2,?_⟩,by simp;omega,?_,?_⟩,vK _ _ _,by simp[setBlock]⟩
  ·simp[Instr.mapUpdate,run_underlying ht,MapKept.run_getObj_map hb,Kd.check w false hkey,g1,MapKept.run_setObj_map _ hb,Result.andThen,setBlock]
  ·intro y hy;simp only[Array.toList_push,bq,dw]at hy;rcases hy with hy|rfl
   ·exact F.reads y hy
   ·exact⟨_,rd_mk hkey rfl⟩
  ·intro y hy;simp only[Array.toList_push,bq,dw]at hy;rcases hy with hy|rfl
   ·obtain⟨z,hz,hf⟩:=h1 y hy;refine⟨z,hz,?_⟩;unfold uD;rw[if_neg (by rintro rfl;exact g2 y hy hz),hf]
   ·exact⟨x,rfl,by unfold uD;rw[if_pos rfl]⟩
  ·intro y u hy;unfold uD at hy;split at hy
   ·subst y;cases hy;exact⟨⟨kv x,v,clock⟩,by simp,rfl,rfl⟩
   ·obtain⟨z,hz,r⟩:=h2 y u hy;exact⟨z,by simp only[Array.toList_push,bq];exact .inl hz,r⟩
 ·have hj:es[j]?=some e0:=by simpa using g2
  have hjl:j<es.toList.length:=(ay.1 g2).1;have hkeyf:∀e',es[j]?=some e'→({ e' with key:=kv x,val:=v }:MapEntry).key=e'.key:=fun e' he'=>by rw[hj]at he';cases he';exact g3.symm
  have hlist:(es.modify j (fun e'=>{ e' with key:=kv x,val:=v })).toList=es.toList.set j { e0 with key:=kv x,val:=v }:=by rw[Array.toList_modify,Go.ChangeMaps.modify_eq_set _ _ _ _ g2]
  have who:∀y∈es.toList.set j { e0 with key:=kv x,val:=v },y={ e0 with key:=kv x,val:=v }∨(y∈es.toList∧y.key≠kv x):=by
   intro y hy;obtain⟨i,hi,ey⟩:=List.getElem_of_mem hy;rw[List.getElem_set]at ey;split at ey
   ·exact .inl ey.symm
   ·rename_i hne
    have hi':i<es.toList.length:=by simpa using hi
    refine .inr ⟨ey▸dA hi',?_⟩;rw[←g3];exact Go.WideElems.other_key F g2 (by rw[au hi',ey]) (fun e1=>hne e1.symm)
  refine⟨setBlock w b (.map (es.modify j (fun e'=>{ e' with key:=kv x,val:=v })) clock),?_,⟨_,_,hset _,⟨by simpa using F.size,stamped_modify F.stamped _ _ (fun _ _=>rfl) (fun e' _ he'=>hkeyf e' he'),?_⟩,by simp;omega,?_,?_⟩,vK _ _ _,by simp[setBlock]⟩
  ·simp[Instr.mapUpdate,run_underlying ht,MapKept.run_getObj_map hb,Kd.check w false hkey,g1,hj,g3,Kd.stays w hkey,MapKept.run_setObj_map _ hb,Result.andThen,setBlock]
  ·intro y hy;rw[hlist]at hy;rcases who y hy with rfl|⟨hy',_⟩
   ·exact⟨_,rd_mk hkey rfl⟩
   ·exact F.reads y hy'
  ·intro y hy;rw[hlist]at hy;rcases who y hy with rfl|⟨hy',hne⟩
   ·exact⟨x,rfl,by unfold uD;rw[if_pos rfl]⟩
   ·obtain⟨z,hz,hf⟩:=h1 y hy';refine⟨z,hz,?_⟩;unfold uD;rw[if_neg (by rintro rfl;exact hne hz),hf]
  ·intro y u hy;unfold uD at hy;rw[hlist];split at hy
   ·subst y;cases hy;exact⟨{ e0 with key:=kv x,val:=v },List.mem_iff_getElem.2 ⟨j,by simpa using hjl,by simp⟩,rfl,rfl⟩
   ·rename_i hne
    obtain⟨z,hz,hzk,hzv⟩:=h2 y u hy;obtain⟨i,hi,ez⟩:=List.getElem_of_mem hz;refine⟨z,List.mem_iff_getElem.2 ⟨i,by simpa using hi,?_⟩,hzk,hzv⟩;rw[List.getElem_set,if_neg,ez];rintro rfl;have:z=e0:=by
     have h5:=au hi;rw[ez,g2]at h5;exact(aB h5).symm
    subst this;exact hne (hinj _ _ (hzk.symm.trans g3))
omit [DecidableEq K] in
theorem oM.look(c:Bool)(h:oM P k kv w b n f)(Kd:Keyed P k)(ht:P.underlying t=some (.map k e))(hinj:∀x y,kv x=kv y→x=y){z:Value}(hz:(zeroValue e).run P w=.ok z w)(x:K){kl:Lit}(hkey:keyOf P k (kv x)=some kl):
  (Instr.lookup t (.map (some b)) (kv x) c).run P w=.ok (if c then .tuple #[(f x).getD z,.bool (f x).isSome]else(f x).getD z) w:=by
 obtain⟨es,clock,hb,F,hs,h1,h2⟩:=h;rcases Go.Maps.fit_look (H:=Unit) c Kd ht hz hb F hkey with ⟨hr,hno,_⟩|⟨e0,y,he,hk,hr,_⟩
 ·have:f x=none:=by
   cases hf:f x with
   |none=>rfl
   |some v =>
    obtain⟨e1,he1,hk1,_⟩:=h2 x v hf;exact absurd hk1 (hno e1 he1)
  rw[hr,this];rfl
 ·obtain⟨x',hx',hf⟩:=h1 e0 he;have:x'=x:=hinj _ _ (hx'.symm.trans hk);subst this;rw[hr,hf];rfl
end
theorem kC{K:Type}[DecidableEq K]{P:Program}(w:World){ops:Array Oper}{rest:List Oper}{o:Oper}{a:Act}{Q:Exit→Act→World→Prop}(hg:o.guard=none)(m x y:Operand)(t:TypeId)(hop:o.op=Op.mapUpdate t m x y){k e:TypeId}(Kd:Keyed P k)(ht:P.underlying t=some (.map k e)){kv:K→Value}(hinj:∀x y,kv x=kv y→x=y){b n:Nat}{f:K→Option Value}(h:oM P k kv w b n f)(hn:n<maxLen)(hm:a.eval m=.map (some b))(key:K)(hx:a.eval x=kv key){kl:Lit}(hkey:keyOf P k (kv key)=some kl)(v:Value)(hv:a.eval y=v)(hd:o.dst=none)(hK:∀w',oM P k kv w' b (n+1) (uD f key v)→w.grownBy w' (some b)→w'.heap.size=w.heap.size→wpList P ops Q rest a w'):
  wpList P ops Q (o::rest) a w:=by
 refine wpList_plain hg fun K' hK'=>?_
 obtain⟨w1,hrun,h1,h2,h3⟩:=h.store Kd ht hn hinj key v hkey;unfold Oper.wp;simp[execOp,hop,hm,hx,hv,hrun,Result.andThen];refine hK' _ _ ?_;simpa [Act.put,hd] using hK _ h1 h2 h3
theorem kR{K:Type}{P:Program}(c:Bool)(w:World){ops:Array Oper}{rest:List Oper}{o:Oper}{a:Act}{Q:Exit→Act→World→Prop}(hg:o.guard=none)(m x:Operand)(t:TypeId)(hop:o.op=Op.lookup t m x c){k e:TypeId}(Kd:Keyed P k)(ht:P.underlying t=some (.map k e)){kv:K→Value}(hinj:∀x y,kv x=kv y→x=y){b n:Nat}{f:K→Option Value}(h:oM P k kv w b n f){z:Value}(hz:(zeroValue e).run P w=.ok z w)(hm:a.eval m=.map (some b))(key:K)(hx:a.eval x=kv key){kl:Lit}(hkey:keyOf P k (kv key)=some kl)(hK:wpList P ops Q rest (a.put o.dst (if c then .tuple #[(f key).getD z,.bool (f key).isSome]else(f key).getD z)) w):
  wpList P ops Q (o::rest) a w:=by
 refine wpList_plain hg fun K' hK'=>?_
 have hrun:=h.look c Kd ht hinj hz key hkey;unfold Oper.wp;simp[execOp,hop,hm,hx,hrun,Result.andThen];exact hK' _ _ hK
end Go.Proofs.YtichfhpgdhdiaaaGreat
