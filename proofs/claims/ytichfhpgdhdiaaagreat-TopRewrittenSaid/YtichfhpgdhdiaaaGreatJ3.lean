/- Short forms of the laws of drawn regions and of promises -/
import Derived.Test.YtichfhpgdhdiaaaGreatJ2
set_option maxRecDepth 100000
set_option maxHeartbeats 8000000
set_option linter.unusedVariables false
set_option linter.unusedSimpArgs false
namespace Go.Proofs.YtichfhpgdhdiaaaGreat
open Go.RowKit
theorem SA{α : Type}:(∀(l:List α) (i:Nat) (x : α),l.toArray.setIfInBounds i x=(l.set i x).toArray)∧(∀(a : α) (l:List α) (x : α),(a::l).set 0 x=x::l)∧(∀(a : α) (l:List α) (n:Nat) (x : α),(a::l).set (n+1) x=a::l.set n x) :=
 ⟨fun _ _ _=>List.setIfInBounds_toArray ..,fun _ _ _=>rfl,fun _ _ _ _=>rfl⟩
theorem GA{α : Type}:(∀(l:List α) (i:Nat),l.toArray[i]?=l[i]?)∧(∀(a : α) (l:List α),(a::l)[0]?=some a)∧(∀(a : α) (l:List α) (n:Nat),(a::l)[n+1]?=l[n]?) :=
 ⟨fun _ _=>List.getElem?_toArray ..,fun _ _=>rfl,fun _ _ _=>rfl⟩
section
variable {P:Program}{ops:Array Oper}{Q:Exit→Act→World→Prop}{md:Region.Mode}{S:World→Prop}{z:Nat}{f:Nat}{listed:Array Bool}{a:Act}{w:World}
theorem gP(i:Nat){oi:Oper}{v:Value}{q:Prop}(k:q)(hi:ops[i]?=some oi:=by(simp only[GA];rfl))(hs:Region.noSelect ops=true:=by kernel_rfl)(hf:Region.free md ops listed i=true:=by kernel_rfl)(hr:(Region.ready md ops listed).contains i=true:=by kernel_rfl)(hz:(i != z)=true:=by kernel_rfl)(hy:YieldsIf P ops (fun _=>True) oi v a:=by(refine Or.inl ⟨by rfl,fun w _=>?_⟩;go_simp;try with_reducible rfl))(hQ:∀c a w,Q (.panic c) (a.put oi.dst v) w→Q (.panic c) a w:=by exact fun _ _ _ h=>h)(hn:q→kF P md ops Q S z f (listed.setIfInBounds i true) (a.put oi.dst v) w:=by(intro k;simp only[Act.put,SA];exact k)):kF P md ops Q S z (f+1) listed a w:=kF.free hi hs hf hr hQ hz hy (hn k)
theorem jm(i:Nat){oi:Oper}{q:Prop}(k:q)(hi:ops[i]?=some oi:=by(simp only[GA];rfl))(hs:Region.noSelect ops=true:=by kernel_rfl)(hf:Region.free md ops listed i=true:=by kernel_rfl)(hr:(Region.ready md ops listed).contains i=true:=by kernel_rfl)(hz:(i != z)=true:=by kernel_rfl)(hy:YieldsIf P ops (fun _=>True) oi undef a:=by(exact Or.inr ⟨by rfl,rfl⟩))(hQ:∀c a w,Q (.panic c) (a.put oi.dst undef) w→Q (.panic c) a w:=by exact fun _ _ _ h=>h)(hn:q→kF P md ops Q S z f (listed.setIfInBounds i true) (a.put oi.dst undef) w:=by(intro k;simp only[Act.put,SA];exact k)):kF P md ops Q S z (f+1) listed a w:=kF.free hi hs hf hr hQ hz hy (hn k)
theorem jr(i:Nat)(skip:List Nat){oi:Oper}{v:Value}{q:Prop}(k:q)(hi:ops[i]?=some oi:=by(simp only[GA];rfl))(hs:Region.noSelect ops=true:=by kernel_rfl)(hf:Region.free md ops listed i=true:=by kernel_rfl)(hr:(Region.ready md ops listed).contains i=true:=by kernel_rfl)(hz:(xI md ops z skip&&!skip.contains i&&decide (i<z))=true:=by kernel_rfl)(hy:YieldsIf P ops S oi v a:=by(refine Or.inl ⟨by rfl,fun w hSw=>?_⟩;(try dsimp only at hSw);go_split_ands;go_simp;try with_reducible rfl))(hQ:∀c a w,Q (.panic c) (a.put oi.dst v) w→Q (.panic c) a w:=by exact fun _ _ _ h=>h)(hn:q→kF P md ops Q S z f (listed.setIfInBounds i true) (a.put oi.dst v) w:=by(intro k;simp only[Act.put,SA];exact k)):kF P md ops Q S z (f+1) listed a w:=Qw hi hs hf hr hQ skip hz hy (hn k)
theorem kF.lt(i:Nat){oi:Oper}(h:∀K:Act→World→Prop,(∀a' w',kF P md ops Q S z f (listed.setIfInBounds i true) a' w'→K a' w')→Oper.wp P oi a w K Q)(hi:ops[i]?=some oi:=by(simp only[GA];rfl))(hr:Region.ready md ops listed = [i]:=by first|kernel_rfl|rfl)(hw:Region.wanted oi (yielded ops a.tmps)=true:=by first|rfl|kernel_rfl)(hz:(listed.setIfInBounds i true).getD z false=true:=by first|rfl|kernel_rfl):kF P md ops Q S z (f+1) listed a w:=kF.late hi hr hw hz h
theorem kF.on(i:Nat){oi:Oper}(h:∀K:Act→World→Prop,(∀a' w',S w'→kF P md ops Q S z f (listed.setIfInBounds i true) a' w'→K a' w')→Oper.wp P oi a w K Q)(hi:ops[i]?=some oi:=by(simp only[GA];rfl))(hr:Region.ready md ops listed = [i]:=by first|kernel_rfl|rfl)(hw:Region.wanted oi (yielded ops a.tmps)=true:=by first|rfl|kernel_rfl):kF P md ops Q S z (f+1) listed a w:=kF.only hi hr hw h
theorem Cy(i:Nat){oi:Oper}(h:if Region.wanted oi (yielded ops a.tmps)=true then Oper.wp P oi a w (fun a' w'=>kF P md ops Q S z f (listed.setIfInBounds i true) a' w') Q else False)(hi:ops[i]?=some oi:=by(simp only[GA];rfl))(hr:Region.ready md ops listed = [i]:=by first|kernel_rfl|rfl)(hz:(listed.setIfInBounds i true).getD z false=true:=by first|rfl|kernel_rfl):kF P md ops Q S z (f+1) listed a w:=Tj hi hr hz h
theorem iP{Q:Exit→Act→World→Prop}(h:Q .normal a w)(hr:Region.ready md ops listed = []:=by kernel_rfl):kF P md ops (NoPanic Q) S z 0 listed a w:=kF.done hr (NoPanic.normal h)
theorem wF{Q:Exit→Act→World→Prop}(h:Q .normal a w)(hr:Region.ready md ops listed = []:=by kernel_rfl):kF P md ops (uL Q) S z 0 listed a w:=kF.done hr (uL.normal h)
end
theorem iq{m:Nat}{A:Nat→Prop}{B C:Nat→Nat→Prop}(f:∀j d,j<m→A j→B j d→C j d)(j d:Nat)(h1:j<m:=by decide)(h2:A j:=by kernel_rfl)(h3:B j d:=by kernel_rfl):C j d:=f j d h1 h2 h3
theorem qH{m:Nat}{B C:Nat→Nat→Prop}(f:∀j d,j<m→B j d→C j d)(j d:Nat)(h1:j<m:=by decide)(h3:B j d:=by kernel_rfl):C j d:=f j d h1 h3
theorem kZ{ops:Array Oper}{m:Nat}{a a0:Act}(hold:∀t,(∀j,j<m→jW ops j≠some t)→a.tmps[t]?=a0.tmps[t]?)(t:Nat)(v:Value)(h1:a0.tmps[t]?=some v:=by rfl)(h2:((List.range m).all fun j=>decide (jW ops j≠some t))=true:=by kernel_rfl):a.tmps.getD t undef=v:=by
 rw[aD,hold t fun j hj=>by simpa using bN.1 h2 j (bK.2 hj),h1];rfl
theorem kL{ops:Array Oper}{m:Nat}{a a0:Act}(ds:List Nat)(hdf:a.defers=a0.defers)(hlen:a.tmps.size=a0.tmps.size)(hold:∀t,(∀j,j<m→jW ops j≠some t)→a.tmps[t]?=a0.tmps[t]?)(hc:((List.range m).all fun j=>match jW ops j with|none=>true|some d=>ds.contains d)=true:=by kernel_rfl):
  ∃u:Nat→Value,(∀d,a.tmps.getD d undef=u d)∧a={ tmps:=ds.foldl (fun t d=>t.setIfInBounds d (u d)) a0.tmps,defers:=a0.defers } :=
 ⟨fun d=>a.tmps.getD d undef,fun _=>rfl,Tm ds hdf hlen fun t ht=>hold t fun j hj hd=>ht (by
  have h:=bN.1 hc j (bK.2 hj);rw[hd]at h;simpa using h)⟩
theorem hTr{w w1 w2:World}(A:Hid (Below w.heap.size w w1))(b:Below w1.heap.size w1 w2):Hid (Below w.heap.size w w2):=af (A.out.trans (b.mono A.out.size))
theorem gV.cl{w:World}{g:Nat}{t:TypeId}{cs:Array Value}(h:gV w g t cs)(j:Nat){u:Value}(hj:cs[j]?=some u:=by exact rfl):w.cell? ⟨g,j,none⟩=some u:=h.cell hj
theorem PH{p:Prop}(h:p:=by(repeat' (first|exact h|rcases i with _|i))):p:=h
theorem PO0{p:Prop}(h:p:=by(unfold Oper.wp;simp only[execOp,Act.eval];go_simp;exact hK _ w1 rfl gD)):p:=h
theorem iJ{A p:Prop}(a:A)(h:A→p:=by(intro x1;have x1:_=_:=x1;unfold Oper.wp;simp only[execOp,Act.eval,x1];go_simp;exact hK _ w1 rfl gD)):p:=h a
theorem yM{A B p:Prop}(a:A)(b:B)(h:A→B→p:=by(intro x1 x2;have x1:_=_:=x1;have x2:_=_:=x2;unfold Oper.wp;simp only[execOp,Act.eval,x1,x2];go_simp;exact hK _ w1 rfl gD)):p:=h a b
theorem qM{A p q:Prop}(a:A)(k:q)(h:A→q→p:=by(intro x1 k;have x1:_=_:=x1;unfold Oper.wp;simp only[execOp,Act.eval,x1];go_simp;exact k)):p:=h a k
theorem sM{A B p q:Prop}(a:A)(b:B)(k:q)(h:A→B→q→p:=by(intro x1 x2 k;have x1:_=_:=x1;have x2:_=_:=x2;unfold Oper.wp;simp only[execOp,Act.eval,x1,x2];go_simp;exact k)):p:=h a b k
theorem PX3{A B C p q:Prop}(a:A)(b:B)(c:C)(k:q)(h:A→B→C→q→p:=by(intro x1 x2 x3 k;have x1:_=_:=x1;have x2:_=_:=x2;have x3:_=_:=x3;unfold Oper.wp;simp only[execOp,Act.eval,x1,x2,x3];go_simp;exact k)):p:=h a b c k
theorem PX4{A B C D p q:Prop}(a:A)(b:B)(c:C)(d:D)(k:q)(h:A→B→C→D→q→p:=by(intro x1 x2 x3 x4 k;have x1:_=_:=x1;have x2:_=_:=x2;have x3:_=_:=x3;have x4:_=_:=x4;unfold Oper.wp;simp only[execOp,Act.eval,x1,x2,x3,x4];go_simp;exact k)):p:=h a b c d k
section
variable {w:World}{g:Nat}{t:TypeId}{cs:Array Value}
theorem JO(h:gV w g t cs):w.frozen? ⟨g,0,none⟩=false∧w.frozen? ⟨g,1,none⟩=false:=⟨h.frozen 0,h.frozen 1⟩
theorem fz3(h:gV w g t cs):w.frozen? ⟨g,0,none⟩=false∧w.frozen? ⟨g,1,none⟩=false∧w.frozen? ⟨g,2,none⟩=false:=⟨h.frozen 0,h.frozen 1,h.frozen 2⟩
theorem fz4(h:gV w g t cs):w.frozen? ⟨g,0,none⟩=false∧w.frozen? ⟨g,1,none⟩=false∧w.frozen? ⟨g,2,none⟩=false∧w.frozen? ⟨g,3,none⟩=false:=⟨h.frozen 0,h.frozen 1,h.frozen 2,h.frozen 3⟩
theorem QM(h:gV w g t cs):w.frozen? ⟨g,0,none⟩=false∧w.frozen? ⟨g,1,none⟩=false∧w.frozen? ⟨g,2,none⟩=false∧w.frozen? ⟨g,3,none⟩=false∧w.frozen? ⟨g,4,none⟩=false∧w.frozen? ⟨g,5,none⟩=false∧w.frozen? ⟨g,6,none⟩=false:=⟨h.frozen 0,h.frozen 1,h.frozen 2,h.frozen 3,h.frozen 4,h.frozen 5,h.frozen 6⟩
theorem mP(h:gV w g t cs):w.frozen? ⟨g,0,none⟩=false∧w.frozen? ⟨g,1,none⟩=false∧w.frozen? ⟨g,2,none⟩=false∧w.frozen? ⟨g,3,none⟩=false∧w.frozen? ⟨g,4,none⟩=false∧w.frozen? ⟨g,5,none⟩=false∧w.frozen? ⟨g,6,none⟩=false∧w.frozen? ⟨g,7,none⟩=false∧w.frozen? ⟨g,8,none⟩=false:=⟨h.frozen 0,h.frozen 1,h.frozen 2,h.frozen 3,h.frozen 4,h.frozen 5,h.frozen 6,h.frozen 7,h.frozen 8⟩
end
end Go.Proofs.YtichfhpgdhdiaaaGreat
namespace Go.Proofs.YtichfhpgdhdiaaaGreat
open Go.RowKit
section
variable {P:Program}{ops:Array Oper}{Q:Exit→Go.Act→World→Prop}{md:Region.Mode}{F:Fence}{n:Nat}
theorem Jh(hF:Ff F){id:Nat}{l:List Oper}{a0:Go.Act}{w:World}(hm:P.follows .mixedOrders=true)(hd:l.all (fun o=>!nL o)=true)(m:Nat)(φ : Nat→Value→World→Prop)(z:Nat)(hB:Ej .any l.toArray m a0.tmps.size=true)(hφ : ∀i v w w',φ i v w→Below w.heap.size w w'→φ i v w')(hstep:∀i o,i<m→l.toArray[i]?=some o→∀a w1,a.defers=a0.defers→a.tmps.size=a0.tmps.size→(∀t,(∀j,j<m→jW l.toArray j≠some t)→a.tmps[t]?=a0.tmps[t]?)→Below w.drew.heap.size w.drew w1 →
   (∀j d,j<m→(o.after.any fun e=>Region.binds .any e&&decide (e.on=j))=true→jW l.toArray j=some d→φ j (a.tmps.getD d undef) w1) →
   ∀K:Go.Act→World→Prop,(∀v w',φ i v w'→Below w1.heap.size w1 w'→K (a.put o.dst v) w')→o.wp P a w1 K (uL Q))(hfin:∀a w1,a.defers=a0.defers→a.tmps.size=a0.tmps.size→(∀t,(∀j,j<m→jW l.toArray j≠some t)→a.tmps[t]?=a0.tmps[t]?)→Below w.drew.heap.size w.drew w1→(∀j d,j<m→jW l.toArray j=some d→φ j (a.tmps.getD d undef) w1) →
   kF P .any l.toArray (uL Q) (fun _=>True) z (l.toArray.size-m) (vC m l.toArray.size) a w1):(Code.region id l.toArray true).wpIn F n P Q a0 w:=by
 refine wpIn_mono (wpIn_region_any hm (pE hF (fun o ho=>by simpa using bN.1 hd o (by simpa using ho)) (fun⟨_,_,h⟩=>h) _ _ _ _ ?_)) uL.imp;have hm2:m≤l.toArray.size:=by
  have h:=IA hB;simp only[yg,aK,decide_eq_true_eq]at h;exact h.1
 have h:=BP (gv:=fun _=>true) (P:=P) (md:=.any) (Q:=uL Q) (g:=l.toArray.size-m) (IA hB) hφ (fun _ _ _ _ _ ho hg=>by rw[yh hB ho]at hg;cases hg) (fun _ _ _ _ ho hon=>(KM hB ho hon).elim) (fun i o hi ho _=>hstep i o hi ho) (fun listed a w1 hls hp hl hcl=>?_) m (List.range m) (Array.replicate l.toArray.size false) a0 w.drew gu (fun i hi _=>bK.2 hi) gu
  ⟨rfl,rfl,fun _ _=>rfl,fun i d hi hl=>(by rw[getD_replicate_false]at hl;cases hl),fun i h1 h2=>getD_in (by simpa using h2) (getD_replicate_false _ _),ah _ _⟩ (oG _)
 ·rw[show m+(l.toArray.size-m)=l.toArray.size by omega]at h;exact h
 ·have e:=AU hls hl hp.late;have hA:=hfin a w1 hp.df hp.len (fun t ht=>hp.old t fun j hj _=>ht j hj) hp.jM (fun j d hj hd=>hp.new j d hj (hl j hj) hd);rw[e]at hcl ⊢;exact pz _ _ _ _ (hA hcl (.inr trivial))
end
end Go.Proofs.YtichfhpgdhdiaaaGreat
namespace Go.Proofs.YtichfhpgdhdiaaaGreat
open Go.RowKit
def X9{α : Type}(M:Nat→Prop)(h:Nat)(id:Nat)(I:List α→World→Prop)(Ix:World→Prop)(xs:List α)(W:World):Exit→Act→World→Prop
 |.normal,_,W'=>KeepsOthers W W'∧iZ M h W W'∧I xs W'
 |.exit j,_,W'=>j=id∧KeepsOthers W W'∧iZ M h W W'∧Ix W'
 |_,_,_=>False
theorem Jg{α : Type}{P:Program}{n:Nat}{g:Operand}{ps:Array Tmp}{assign body:Code}{Q:Exit→Act→World→Prop}{a:Act}{w:World}{gf:Nat}{lb:Array Value}(hg:a.eval g=.func (.func gf) #[] lb)(eg:∀args w,(callFunc gf args).run P w=.ok (.enter gf args) w)(enc : α→Value)(hps:ps.size=1)(G:List α→α→Prop)(xs:List α)(M:Nat→Prop)(I:List α→World→Prop)(Ix:World→Prop)(id:Nat)(Vx:∀pre W W',Below W.heap.size W W'→I pre W→I pre W')(ME:∀pre W r o o',w.heap.size≤r→I pre W→W.heap[r]?=some o→o.isCells=false→I pre (W.putObj r o'))(Vy:∀W W',Below W.heap.size W W'→Ix W→Ix W')(hXp:∀W r o o',w.heap.size≤r→Ix W→W.heap[r]?=some o→o.isCells=false→Ix (W.putObj r o'))(h0:I [] w)(hit:∀(l:Nat) (J:List α→World→Prop) (Jx:World→Prop),(∀pre W W',Below W.heap.size W W'→J pre W→J pre W')→(∀W W',Below W.heap.size W W'→Jx W→Jx W') →
   (∀pre x W,J pre W→G pre x→YieldAt Fence.wide (n-1-1) P l #[enc x] W fun e W'=>(e=.returned (.bool true)∧J (pre++[x]) W'∨e=.returned (.bool false)∧Jx W')∧iZ M w.heap.size W W') →
   ∀W,Below w.heap.size w W→J [] W→CallsIn Fence.wide (n-1) P gf (#[.func (.yield l) #[] #[]]++lb) W fun e W'=>(∃v,e=.returned v)∧(J xs W'∨Jx W'))(up : α→World→World)(hup:∀x W,Below W.heap.size W (up x W))(a₁ : α→World→Act)(hassign:∀(l:Nat) (x : α) (W:World) (K:Act→World→Prop),K (a₁ x W) (up x W) →
   assign.wpIn (Fence.wide.inRound l) (n-1-1) P (Exit.then K (fun _ _ _=>False)) { tmps:=(ps.zip #[enc x]).foldl (fun t (p,v)=>t.setIfInBounds p v) a.tmps,defers:=[] } W)(hbody:∀(l:Nat) (pre:List α) (x : α) (W W':World),w.heap.size+2≤W.heap.size→(∃r o o',(up x W).heap[r]?=some o∧o.isCells=false∧W'=(up x W).putObj r o')→I pre W'→G pre x →
   body.wpIn (Fence.wide.inRound l) (n-1-1) P (X9 M w.heap.size id I Ix (pre++[x]) W') (a₁ x W) W')(hdone:∀(D:Nat) (W:World),w.heap.size≤D→I xs W→W.heap[D]?=some (.deferred (some []))→Q .normal { a with defers:={ target:=.collected D,args:=#[] }::a.defers } W)(hstop:∀(D:Nat) (W:World),w.heap.size≤D→Ix W→W.heap[D]?=some (.deferred (some []))→(Code.exit id).wpIn Fence.wide n P Q { a with defers:={ target:=.collected D,args:=#[] }::a.defers } W):
  (Code.rangeFunc g ps assign body).wpIn Fence.wide n P Q a w:=by
 refine wpIn_rangeFunc ?_;intro fn hfn;obtain⟨rec,hrec⟩:∃rec:LoopState→Option Code→Loop,rec=fun st pe=>{ state:=st,pending:=pe,fn,tmps:=a.tmps,params:=ps,assign,body,defers:=w.heap.size }:=⟨_,rfl⟩
 obtain⟨W1,hW1⟩:∃W1,(w.alloc (.deferred (some []))).alloc (.loop (rec .ready none))=W1:=⟨_,rfl⟩;have hL1:W1.heap[w.heap.size+1]?=some (.loop (rec .ready none)):=by
  rw[←hW1];have:=World.alloc_heap_new (w.alloc (.deferred (some []))) (.loop (rec .ready none));rwa [aJ]at this
 have hK1:W1.heap[w.heap.size]?=some (.deferred (some [])):=by
  rw[←hW1];exact(dK _ _ _ gu ).trans (World.alloc_heap_new w _)
 have hB1:Below w.heap.size w W1:=by rw[←hW1];exact((ah _ _).alloc (ak _) _).alloc gu _
 have hI1:I [] W1:=Vx _ _ _ hB1 h0;have hs1:w.heap.size+2≤W1.heap.size:=by have:=(ax.1 hL1).1;omega
 refine⟨w.heap.size+1,[{ target:=.collected w.heap.size,args:=#[] }],W1,{ target:=.fn (.func gf) lb,args:=#[.func (.yield (w.heap.size+1)) #[] #[]] },W1,gf,
  #[.func (.yield (w.heap.size+1)) #[] #[]]++lb, W1, ?_, ?_, fun _ _=>trivial, ?_, (fun h=>by cases h), ?_⟩
 ·rw[←hW1,hrec];exact run_enterLoop_outer _ _ _ _ _
 ·simp only[resolve,hg];simp[go_sem]
 ·simp[invoke,go_sem,eg]
 ·refine(hit (w.heap.size+1) (fun pre W=>(I pre W∧w.heap.size+2≤W.heap.size)∧W.heap[w.heap.size+1]?=some (.loop (rec .ready none))∧W.heap[w.heap.size]?=some (.deferred (some [])))
   (fun W=>Ix W∧W.heap[w.heap.size+1]?=some (.loop (rec .done (some (.exit id))))∧W.heap[w.heap.size]?=some (.deferred (some [])))
   (fun pre W W' hb h=>⟨⟨Vx _ _ _ hb h.1.1,aS h.1.2 hb.size⟩,(hb.block _ (ax.1 h.2.1).1).trans h.2.1,(hb.block _ (ax.1 h.2.2).1).trans h.2.2⟩)
   (fun W W' hb h=>⟨Vy _ _ hb h.1,(hb.block _ (ax.1 h.2.1).1).trans h.2.1,(hb.block _ (ax.1 h.2.2).1).trans h.2.2⟩) ?_ W1 hB1 ⟨⟨hI1,hs1⟩,hL1,hK1⟩).mono ?_
  ·rintro pre x W ⟨⟨hi,hh⟩,hl,hk⟩ hlen;have hlt:w.heap.size+1<W.heap.size:=(ax.1 hl).1;have hy:=run_yield (P:=P) (args:=#[enc x]) hl (by rw[hrec];exact hps.symm);rw[hrec]at hy;have om:=hup x W;have Iy:=(om.block _ hlt).trans hl;have oW:=(om.block _ (ax.1 hk).1).trans hk;have hi9:=Vx _ _ _ om hi;refine⟨fn,_,assign,body,hy,roundIn_of_wpIn hfn (hassign _ x W _ ⟨_,run_beginRound Iy (by rw[hrec]),?_⟩)⟩;have hu:∀o',∃r o o'',(up x W).heap[r]?=some o∧o.isCells=false∧(up x W).putObj (w.heap.size+1) o'=(up x W).putObj r o'':=fun o'=>⟨_,_,o',Iy,rfl,rfl⟩
   have Zj:w.heap.size+1<(up x W).heap.size:=(ax.1 Iy).1;have hT9:iZ M w.heap.size W (up x W):=iK om;have hl2:((up x W).putObj (w.heap.size+1) (.loop { rec .ready none with state:=.busy })).heap[w.heap.size+1]?=some (.loop { rec .ready none with state:=.busy }):=World.putObj_heap_same Zj;have hk2:((up x W).putObj (w.heap.size+1) (.loop { rec .ready none with state:=.busy })).heap[w.heap.size]?=some (.deferred (some [])):=(World.putObj_heap_other fZ ).trans oW;have hb2:iZ M w.heap.size W ((up x W).putObj (w.heap.size+1) (.loop { rec .ready none with state:=.busy })):=hT9.trans (iZ.put fZ )
   refine wpIn_mono (hbody _ pre x W _ hh (hu _) (ME _ _ _ _ _ fZ hi9 Iy rfl) hlen) ?_;rintro e a3 W3 hp;cases e with
   |normal =>
    obtain⟨hk3,hb3,hi3⟩:=hp;have hl3:=hk3.same _ _ hl2 rfl;have hr:=run_endRound (P:=P) none hl3;rw[hrec]at hr;have hlt3:=(ax.1 hl3).1;refine⟨_,_,hr,.inl ⟨rfl,⟨ME _ _ _ _ _ fZ hi3 hl3 rfl,by rw[iT];omega⟩,?_,(World.putObj_heap_other fZ ).trans (hk3.same _ _ hk2 rfl)⟩,(hb2.trans hb3).trans (iZ.put fZ )⟩;rw[hrec];exact World.putObj_heap_same (ax.1 hl3).1
   |ret=>exact hp.elim
   |exit j =>
    obtain⟨rfl,hk3,hb3,hi3⟩:=hp;have hl3:=hk3.same _ _ hl2 rfl;have hr:=run_endRound (P:=P) (some (.exit j)) hl3;rw[hrec]at hr;refine⟨_,_,hr,.inr ⟨rfl,hXp _ _ _ _ fZ hi3 hl3 rfl,?_,(World.putObj_heap_other fZ ).trans (hk3.same _ _ hk2 rfl)⟩,(hb2.trans hb3).trans (iZ.put fZ )⟩;rw[hrec];exact World.putObj_heap_same (ax.1 hl3).1
   |goto t=>exact hp.elim
   |panic ch=>exact hp.elim
   |outgrown=>exact hp.elim
  ·rintro e W2 ⟨⟨v,rfl⟩,⟨⟨hi,_⟩,hl,hk⟩|⟨hi,hl,hk⟩⟩;rotate_left
   ·have:=run_endLoop (P:=P) hl (by rw[hrec];simp);rw[hrec]at this;exact⟨some (.exit id),_,this,hstop w.heap.size _ (ak _) (hXp _ _ _ _ fZ hi hl rfl) ((World.putObj_heap_other fZ ).trans hk)⟩
   have:=run_endLoop (P:=P) hl (by rw[hrec];simp);rw[hrec]at this;exact⟨none,_,this,hdone w.heap.size _ (ak _) (ME _ _ _ _ _ fZ hi hl rfl) ((World.putObj_heap_other fZ ).trans hk)⟩
end Go.Proofs.YtichfhpgdhdiaaaGreat
namespace Go.Proofs.YtichfhpgdhdiaaaGreat
def FE(t w:List UInt8)(e:Nat):Prop:=e≤t.length∧w <:+ t.take e∧∀e',e'<e→¬w <:+ t.take e'
theorem FE.uniq{t w:List UInt8}{e e':Nat}(h:FE t w e)(k:FE t w e'):e=e':=by
 rcases eZ e e' with h1|h1|h1
 ·exact absurd h.2.1 (k.2.2 e h1)
 ·exact h1
 ·exact absurd k.2.1 (h.2.2 e' h1)
def Ai(t w:List UInt8):Prop:=∃e,e≤t.length∧w <:+ t.take e
theorem FE.Rh{t w:List UInt8}{e:Nat}(h:FE t w e):Ai t w:=⟨e,h.1,h.2.1⟩
theorem Ai.first{t w:List UInt8}(h:Ai t w):∃e,FE t w e:=by
 obtain⟨e,h1,h2⟩:=h
 induction e using Nat.strongRecOn with
 |ind e ih =>
  by_cases hx:∃e',e'<e∧w <:+ t.take e'
  ·obtain⟨e',h3,h4⟩:=hx;exact ih e' h3 fZ h4
  ·exact⟨e,h1,h2,fun e' h3 h4=>hx ⟨e',h3,h4⟩⟩
theorem Ai.suffix{t w w':List UInt8}(h:Ai t w)(k:w' <:+ w):Ai t w':=by
 obtain⟨e,h1,h2⟩:=h;exact⟨e,h1,k.trans h2⟩
theorem Ai.app{t w:List UInt8}(h:Ai t w)(c:UInt8):Ai (t++[c]) w:=by
 obtain⟨e,h1,h2⟩:=h;exact⟨e,by simp;omega,by rw[bZ h1];exact h2⟩
theorem FE.app{t w:List UInt8}{e:Nat}(h:FE t w e)(c:UInt8):FE (t++[c]) w e:=by
 obtain⟨h1,h2,h3⟩:=h;refine⟨by simp;omega,by rw[bZ h1];exact h2,fun e' h4=>?_⟩;rw[bZ fZ ];exact h3 e' h4
theorem Ai.snoc{t w:List UInt8}{c:UInt8}(h:Ai (t++[c]) w):Ai t w∨w <:+ t++[c]:=by
 obtain⟨e,h1,h2⟩:=h;by_cases he:e≤t.length
 ·left;rw[bZ he]at h2;exact⟨e,he,h2⟩
 ·right;have:e=(t++[c]).length:=by simp at h1 ⊢;omega
  rw[this,bG]at h2;exact h2
theorem FE.new{t w:List UInt8}{c:UInt8}(h:w <:+ t++[c])(hn:¬Ai t w):FE (t++[c]) w (t.length+1):=by
 refine⟨by simp,by rw[aF gu ];exact h,fun e' h1 h2=>?_⟩;rw[bZ fZ ]at h2;exact hn ⟨e',by omega,h2⟩
theorem l8{a b t:List UInt8}(ha:a <:+ t)(hb:b <:+ t)(h:a.length≤b.length):a <:+ b:=List.suffix_of_suffix_length_le ha hb h
theorem RD{a b:List UInt8}(h:a <:+ b)(hl:b.length≤a.length):a=b:=h.eq_of_length_le hl
theorem JD{w t:List UInt8}{c:UInt8}(h:w <:+ t++[c])(hw:w≠[]):∃w',w=w'++[c]∧w' <:+ t:=by
 obtain⟨p,hp⟩:=h;have hl:w.dropLast++[w.getLast hw]=w:=List.dropLast_concat_getLast hw;rw[←hl,←aA]at hp;have h1:=List.append_inj_right' hp rfl;have h2:=List.append_inj_left' hp rfl;refine⟨w.dropLast,?_,⟨p,h2⟩⟩;simp only[cu,and_true]at h1;rw[←h1,hl]
theorem yQ{w t:List UInt8}(c:UInt8)(h:w <:+ t):w++[c] <:+ t++[c]:=by
 obtain⟨p,hp⟩:=h;exact⟨p,by rw[←hp,aA]⟩
theorem lD{w t:List UInt8}{c d:UInt8}(h:w++[c] <:+ t++[d]):c=d∧w <:+ t:=by
 obtain⟨p,hp⟩:=h;rw[←aA]at hp;have h1:=List.append_inj_right' hp rfl;have h2:=List.append_inj_left' hp rfl;simp only[cu,and_true]at h1;exact⟨h1,⟨p,h2⟩⟩
theorem Ai.pre{t w:List UInt8}{c:UInt8}(h:Ai t (w++[c])):Ai t w:=by
 obtain⟨e,h1,h2⟩:=h;have hl:=h2.length_le;rw[aj,aH,aQ]at hl;have he:0<e:=by omega
 have e1:t.take e=t.take (e-1)++[t[e-1]' fZ ]:=by
  have:=aN (l:=t) (i:=e-1) fZ ;rwa [show e-1+1=e by omega]at this
 rw[e1]at h2;exact⟨e-1,by omega,(lD h2).2⟩
structure lu where
 V:Nat→Prop
 len:Nat→Nat
 link:Nat→Option Nat
 fin:Nat→Nat
 go:Nat→UInt8→Option Nat
def lu.tO(A:lu)(L:Nat→List UInt8)(v:Nat)(w:List UInt8):Prop:=A.V v∧w <:+ L v∧∀u,A.link v=some u→A.len u<w.length
structure lu.Inv(A:lu)(L:Nat→List UInt8)(t:List UInt8)(last:Nat):Prop where
 pos:A.V 0
 len:∀v,A.V v→(L v).length=A.len v
 root:L 0 = []∧A.link 0=none
 link:∀v,A.V v→v≠0→∃u,A.link v=some u∧A.V u∧A.len u<A.len v∧L u <:+ L v
 step:∀v c u,A.V v→A.go v c=some u→A.V u∧u≠0∧∀w,A.tO L v w→A.tO L u (w++[c])
 all:∀v c w,A.tO L v w→Ai t (w++[c])→∃u,A.go v c=some u
 fin:∀v w,A.tO L v w→FE t w (A.fin v)
 last:A.V last∧L last=t
 one:∀v u w,A.tO L v w→A.tO L u w→v=u
 mem:∀w,Ai t w→∃v,A.tO L v w
 ends : ∀v w e, A.tO L v w→e≤t.length→w <:+ t.take e→L v <:+ t.take e
section
variable {A:lu}{L:Nat→List UInt8}{t:List UInt8}{last:Nat}
theorem lu.Inv.self(h:A.Inv L t last){v:Nat}(hv:A.V v):A.tO L v (L v):=by
 refine⟨hv,List.suffix_refl _,fun u hu=>?_⟩;rw[h.len v hv];by_cases h0:v=0
 ·subst h0;rw[h.root.2]at hu;cases hu
 ·obtain⟨u',h1,_,h2,_⟩:=h.link v hv h0;rw[h1]at hu;cases hu;exact h2
theorem lu.Inv.empty(h:A.Inv L t last):A.tO L 0 []:=by
 have:=h.self h.pos;rwa [h.root.1]at this
theorem lu.Inv.vX(h:A.Inv L t last){v:Nat}{w:List UInt8}(hw:A.tO L v w):w.length≤A.len v:=by
 have:=hw.2.1.length_le;rwa [h.len v hw.1]at this
theorem lu.Inv.Rh(h:A.Inv L t last){v:Nat}{w:List UInt8}(hw:A.tO L v w):Ai t w:=(h.fin v w hw).Rh
theorem lu.tO.mid{v:Nat}{a b w:List UInt8}(ha:A.tO L v a)(hb:A.tO L v b)(h1:a.length≤w.length)(h2:w <:+ b):A.tO L v w :=
 ⟨ha.1,h2.trans hb.2.1,fun u hu=>by have:=ha.2.2 u hu;omega⟩
theorem lu.Inv.gap(h:A.Inv L t last){v u x:Nat}{T:List UInt8}(hv:A.V v)(hu:A.link v=some u)(hx:A.V x)(hvT:L v <:+ T)(hxT:L x <:+ T)(h1:A.len x<A.len v):A.len x≤A.len u:=by
 rcases aP (A.len u) (A.len x)with h2|h2
 ·exfalso;have h3:L x <:+ L v:=l8 hxT hvT (by rw[h.len x hx,h.len v hv];omega);have h4:A.tO L v (L x):=⟨hv,h3,fun u' hu'=>by rw[hu]at hu';cases hu';rw[h.len x hx];exact h2⟩;have:=h.one v x _ h4 (h.self hx);subst this;omega
 ·exact h2
def upd{α : Type}(f:Nat→α)(k:Nat)(a : α):Nat→α:=fun i=>if i=k then a else f i
theorem upd_same{α : Type}(f:Nat→α)(k:Nat)(a : α):upd f k a k=a:=if_pos rfl
theorem upd_ne{α : Type}(f:Nat→α){k i:Nat}(a : α)(h:i≠k):upd f k a i=f i:=if_neg h
def lu.split(A:lu)(p q part:Nat)(c:UInt8):lu where
 V v:=A.V v∨v=part
 len:=upd A.len part (A.len p+1)
 link:=upd (upd A.link part (A.link q)) q (some part)
 fin:=upd A.fin part (A.fin q)
 go v x:=if v=part then A.go q x else if x=c∧A.go v c=some q∧A.len v≤A.len p then some part else A.go v x
def r9(L:Nat→List UInt8)(p part:Nat)(c:UInt8):Nat→List UInt8:=upd L part (L p++[c])
section
variable {p q part:Nat}{c:UInt8}
theorem lu.Inv.PN(h:A.Inv L t last)(hp:A.V p)(hq:A.go p c=some q)(hl:A.len p+1<A.len q)(hf:¬A.V part)(v:Nat)(w:List UInt8):
  (A.split p q part c).tO (r9 L p part c) v w↔(v≠part∧v≠q∧A.tO L v w)∨(v=q∧A.tO L q w∧A.len p+1<w.length)∨(v=part∧A.tO L q w∧w.length≤A.len p+1):=by
 obtain⟨vq,q0,Vi⟩:=h.step p c q hp hq;have hpq:=Vi _ (h.self hp);have ML:q≠part:=fun e=>hf (e▸vq)
 have hLp:(L p++[c]).length=A.len p+1:=by simp[h.len p hp]
 unfold lu.tO;by_cases e1:v=part
 ·subst e1;have e2:v≠q:=ML.symm;have el:r9 L p v c v=L p++[c]:=upd_same _ _ _;have ek:(A.split p q v c).link v=A.link q:=by
   show upd (upd A.link v (A.link q)) q (some v) v=_;rw[upd_ne _ _ e2,upd_same]
  rw[el,ek];constructor
  ·rintro⟨_,h2,h3⟩;refine .inr (.inr ⟨rfl,⟨vq,h2.trans hpq.2.1,fun u hu=>?_⟩,by have:=h2.length_le;omega⟩);have h4:=h3 u hu;have hu':A.V u:=by
    obtain⟨u',h5,h6,_⟩:=h.link q vq q0;rw[h5]at hu;cases hu;exact h6
   have h7:u≠v:=fun e=>hf (e▸hu')
   rw[show (A.split p q v c).len u=A.len u from upd_ne _ _ h7]at h4;exact h4
  ·rintro(⟨h1,_⟩|⟨h1,_⟩|⟨_,⟨_,h2,h3⟩,h4⟩)
   ·exact absurd rfl h1
   ·exact absurd h1 e2
   ·refine⟨.inr rfl,l8 h2 hpq.2.1 fZ ,fun u hu=>?_⟩;have hu':A.V u:=by
     obtain⟨u',h5,h6,_⟩:=h.link q vq q0;rw[h5]at hu;cases hu;exact h6
    have h7:u≠v:=fun e=>hf (e▸hu')
    rw[show (A.split p q v c).len u=A.len u from upd_ne _ _ h7];exact h3 u hu
 ·have el:r9 L p part c v=L v:=upd_ne _ _ e1;rw[el];by_cases e2:v=q
  ·subst e2;have ek:(A.split p v part c).link v=some part:=upd_same _ _ _;rw[ek];have en:(A.split p v part c).len part=A.len p+1:=upd_same _ _ _;constructor
   ·rintro⟨_,h2,h3⟩;have h4:=h3 part rfl;rw[en]at h4;refine .inr (.inl ⟨rfl,⟨vq,h2,fun u hu=>?_⟩,h4⟩);have:=hpq.2.2 u hu;omega
   ·rintro(⟨_,h1,_⟩|⟨_,⟨_,h2,h3⟩,h4⟩|⟨h1,_⟩)
    ·exact absurd rfl h1
    ·exact⟨.inl vq,h2,fun u hu=>by cases hu;rw[en];exact h4⟩
    ·exact absurd h1 e1
  ·have ek:(A.split p q part c).link v=A.link v:=by
    show upd (upd A.link part (A.link q)) q (some part) v=_;rw[upd_ne _ _ e2,upd_ne _ _ e1]
   rw[ek];have key:A.V v→∀u,A.link v=some u→(A.split p q part c).len u=A.len u:=fun hv u hu=>by
    have h7:u≠part:=fun e=>by
     subst e;by_cases h0:v=0
     ·subst h0;rw[h.root.2]at hu;cases hu
     ·obtain⟨u',h5,h6,_⟩:=h.link v hv h0;rw[h5]at hu;cases hu;exact hf h6
    exact upd_ne _ _ h7
   constructor
   ·rintro⟨h1,h2,h3⟩;have hv:A.V v:=h1.resolve_right e1;exact .inl ⟨e1,e2,hv,h2,fun u hu=>by rw[←key hv u hu];exact h3 u hu⟩
   ·rintro(⟨_,_,hv,h2,h3⟩|⟨h1,_⟩|⟨h1,_⟩)
    ·exact⟨.inl hv,h2,fun u hu=>by rw[key hv u hu];exact h3 u hu⟩
    ·exact absurd h1 e2
    ·exact absurd h1 e1
theorem lu.Inv.split(h:A.Inv L t last)(hp:A.V p)(hq:A.go p c=some q)(hl:A.len p+1<A.len q)(hf:¬A.V part):(A.split p q part c).Inv (r9 L p part c) t last:=by
 have hc:=h.PN hp hq hl hf;obtain⟨vq,q0,Vi⟩:=h.step p c q hp hq;have hpq:=Vi _ (h.self hp);have ML:q≠part:=fun e=>hf (e▸vq)
 have h0p:(0:Nat)≠part:=fun e=>hf (e▸h.pos)
 have hLp:(L p++[c]).length=A.len p+1:=by simp[h.len p hp]
 have hL:∀v,A.V v→r9 L p part c v=L v:=fun v hv=>upd_ne _ _ fun e=>hf (e▸hv)
 have hlen:∀v,A.V v→(A.split p q part c).len v=A.len v:=fun v hv=>upd_ne _ _ fun e=>hf (e▸hv)
 have hpart:(A.split p q part c).len part=A.len p+1:=upd_same _ _ _;have Ho:r9 L p part c part=L p++[c]:=upd_same _ _ _;have old:∀v w,A.tO L v w→∃u,(A.split p q part c).tO (r9 L p part c) u w:=fun v w hw=>by
  by_cases e2:v=q
  ·subst e2;rcases aP (A.len p+1) w.length with h1|h1
   ·exact⟨v,(hc _ _).2 (.inr (.inl ⟨rfl,hw,h1⟩))⟩
   ·exact⟨part,(hc _ _).2 (.inr (.inr ⟨rfl,hw,h1⟩))⟩
  ·exact⟨v,(hc _ _).2 (.inl ⟨fun e=>hf (e▸hw.1),e2,hw⟩)⟩
 refine⟨.inl h.pos,fun v hv=>?_,⟨by rw[hL 0 h.pos];exact h.root.1,?_⟩,fun v hv h0=>?_,fun v x u hv hg=>?_,fun v x w hw ho=>?_,fun v w hw=>?_,⟨.inl h.last.1,by rw[hL _ h.last.1];exact h.last.2⟩,fun v u w hv hu=>?_,fun w ho=>?_,fun v w e hw he hs=>?_⟩
 ·rcases hv with hv|rfl
  ·rw[hL v hv,hlen v hv];exact h.len v hv
  ·rw[Ho,hpart];exact hLp
 ·show upd (upd A.link part (A.link q)) q (some part) 0=none;rw[upd_ne _ _ q0.symm,upd_ne _ _ h0p];exact h.root.2
 ·by_cases e1:v=part
  ·subst e1;obtain⟨u,h1,h2,h3,h4⟩:=h.link q vq q0;have h5:=hpq.2.2 u h1;refine⟨u,?_,.inl h2,?_,?_⟩
   ·show upd (upd A.link v (A.link q)) q (some v) v=_;rw[upd_ne _ _ ML.symm,upd_same];exact h1
   ·rw[hlen u h2,hpart];omega
   ·rw[hL u h2,Ho];exact l8 h4 hpq.2.1 (by rw[h.len u h2];omega)
  ·have hv':A.V v:=hv.resolve_right e1;by_cases e2:v=q
   ·subst e2;exact⟨part,upd_same _ _ _,.inr rfl,by rw[hpart,hlen v hv'];exact hl,by rw[Ho,hL v hv'];exact hpq.2.1⟩
   ·obtain⟨u,h1,h2,h3,h4⟩:=h.link v hv' h0;refine⟨u,?_,.inl h2,by rw[hlen u h2,hlen v hv'];exact h3,by rw[hL u h2,hL v hv'];exact h4⟩;show upd (upd A.link part (A.link q)) q (some part) v=_;rw[upd_ne _ _ e2,upd_ne _ _ e1];exact h1
 ·
  by_cases e1:v=part
  ·subst e1;have hg':A.go q x=some u:=by
    have:(A.split p q v c).go v x=A.go q x:=if_pos rfl;rw[this]at hg;exact hg
   obtain⟨vu,u0,hs⟩:=h.step q x u vq hg';refine⟨.inl vu,u0,fun w hw=>?_⟩;rcases(hc _ _).1 hw with ⟨h1,_⟩|⟨h1,_⟩|⟨_,h1,h2⟩
   ·exact absurd rfl h1
   ·exact absurd h1 ML.symm
   ·have h3:=hs w h1;by_cases e2:u=q
    ·subst e2;exfalso;have h4:=h.vX (hs _ (h.self vq));rw[aj,h.len u vq,aQ]at h4;omega
    ·exact(hc _ _).2 (.inl ⟨fun e=>hf (e▸vu),e2,h3⟩)
  ·have hv':A.V v:=hv.resolve_right e1;have hge:(A.split p q part c).go v x=if x=c∧A.go v c=some q∧A.len v≤A.len p then some part else A.go v x:=if_neg e1;rw[hge]at hg;by_cases hr:x=c∧A.go v c=some q∧A.len v≤A.len p
   ·rw[if_pos hr]at hg;obtain rfl:=aB hg;obtain⟨rfl,h1,h2⟩:=hr;obtain⟨_,_,hs⟩:=h.step v x q hv' h1;refine⟨.inr rfl,h0p.symm,fun w hw=>?_⟩;have hw':A.tO L v w:=by
     rcases(hc _ _).1 hw with ⟨_,_,h3⟩|⟨h3,h4,h5⟩|⟨h3,_⟩
     ·exact h3
     ·rw[h3];exact h4
     ·exact absurd h3 e1
    have h4:=h.vX hw';exact(hc _ _).2 (.inr (.inr ⟨rfl,hs w hw',by simp;omega⟩))
   ·rw[if_neg hr]at hg;obtain⟨vu,u0,hs⟩:=h.step v x u hv' hg;refine⟨.inl vu,u0,fun w hw=>?_⟩;have hw':A.tO L v w:=by
     rcases(hc _ _).1 hw with ⟨_,_,h3⟩|⟨h3,h4,h5⟩|⟨h3,_⟩
     ·exact h3
     ·rw[h3];exact h4
     ·exact absurd h3 e1
    have h3:=hs w hw';by_cases e2:u=q
    ·subst e2;have h4:=hs _ (h.self hv');have h5:x=c:=by
      rcases Nat.le_total (L v++[x]).length (L p++[c]).length with hh|hh
      ·exact(lD (l8 h4.2.1 hpq.2.1 hh)).1
      ·exact(lD (l8 hpq.2.1 h4.2.1 hh)).1.symm
     subst h5;have h6:A.len p<A.len v:=by
      rcases aP (A.len p) (A.len v)with hh|hh
      ·exact hh
      ·exact absurd ⟨rfl,hg,hh⟩ hr
     have h7:A.len p+1<(w++[x]).length:=by
      rcases aP (A.len p) w.length with hh|hh
      ·simp;omega
      ·exfalso;have h8:w <:+ L p:=by
        have:=l8 h3.2.1 hpq.2.1 (by simp[h.len p hp];omega);exact(lD this).2
       have h9:L p <:+ L v:=by
        have:=l8 hpq.2.1 h4.2.1 (by simp[h.len p hp,h.len v hv'];omega);exact(lD this).2
       have h10:A.tO L v (L p):=hw'.mid (h.self hv') (by rw[h.len p hp];exact hh) h9;have:=h.one v p _ h10 (h.self hp);subst this;omega
     exact(hc _ _).2 (.inr (.inl ⟨rfl,h3,h7⟩))
    ·exact(hc _ _).2 (.inl ⟨fun e=>hf (e▸vu),e2,h3⟩)
 ·
  rcases(hc _ _).1 hw with ⟨e1,e2,h1⟩|⟨rfl,h1,h2⟩|⟨rfl,h1,h2⟩
  ·obtain⟨u,hu⟩:=h.all v x w h1 ho;have hge:(A.split p q part c).go v x=if x=c∧A.go v c=some q∧A.len v≤A.len p then some part else A.go v x:=if_neg e1;rw[hge];split
   ·exact⟨_,rfl⟩
   ·exact⟨u,hu⟩
  ·obtain⟨u,hu⟩:=h.all v x w h1 ho;have hge:(A.split p v part c).go v x=if x=c∧A.go v c=some v∧A.len v≤A.len p then some part else A.go v x:=if_neg ML;rw[hge];split
   ·exact⟨_,rfl⟩
   ·exact⟨u,hu⟩
  ·obtain⟨u,hu⟩:=h.all q x w h1 ho;exact⟨u,by have:(A.split p q v c).go v x=A.go q x:=if_pos rfl;rw[this];exact hu⟩
 ·
  rcases(hc _ _).1 hw with ⟨e1,e2,h1⟩|⟨rfl,h1,h2⟩|⟨rfl,h1,h2⟩
  ·rw[show (A.split p q part c).fin v=A.fin v from upd_ne _ _ e1];exact h.fin v w h1
  ·rw[show (A.split p v part c).fin v=A.fin v from upd_ne _ _ ML];exact h.fin v w h1
  ·rw[show (A.split p q v c).fin v=A.fin q from upd_same _ _ _];exact h.fin q w h1
 ·
  rcases(hc _ _).1 hv with ⟨e1,e2,h1⟩|⟨rfl,h1,h2⟩|⟨rfl,h1,h2⟩<;>rcases(hc _ _).1 hu with ⟨e3,e4,h3⟩|⟨rfl,h3,h4⟩|⟨rfl,h3,h4⟩
  ·exact h.one v u w h1 h3
  ·exact absurd (h.one v u w h1 h3) e2
  ·exact absurd (h.one v q w h1 h3) e2
  ·exact absurd (h.one v u w h1 h3).symm e4
  ·rfl
  ·omega
  ·exact absurd (h.one q u w h1 h3).symm e4
  ·omega
  ·rfl
 ·obtain⟨v,hv⟩:=h.mem w ho;exact old v w hv
 ·rcases(hc _ _).1 hw with ⟨e1,e2,h1⟩|⟨rfl,h1,h2⟩|⟨rfl,h1,h2⟩
  ·rw[hL v h1.1];exact h.ends v w e h1 he hs
  ·rw[hL v vq];exact h.ends v w e h1 he hs
  ·rw[Ho];exact hpq.2.1.trans (h.ends q w e h1 he hs)
end
def lu.ext(A:lu)(t:List UInt8)(whole lk:Nat)(go':Nat→UInt8→Option Nat):lu where
 V v:=A.V v∨v=whole
 len:=upd A.len whole (t.length+1)
 link:=upd A.link whole (some lk)
 fin:=upd A.fin whole (t.length+1)
 go:=go'
section
variable {whole lk:Nat}{c:UInt8}{go':Nat→UInt8→Option Nat}
theorem qR{w:List UInt8}(h:w <:+ t):Ai t w:=⟨t.length,ak _,by rw[bG];exact h⟩
theorem lu.Inv.yR(h:A.Inv L t last){v:Nat}{w:List UInt8}(hw:A.tO L v w)(hs:w <:+ t):L v <:+ t:=by
 have:=h.ends v w t.length hw (ak _) (by rw[bG];exact hs);rwa [bG]at this
theorem lu.Inv.ext(h:A.Inv L t last)(hf:¬A.V whole)(vl:A.V lk)(hlk:L lk <:+ t++[c])(H1:∀w,w <:+ t→(Ai t (w++[c])↔w.length+1≤A.len lk))(g1:∀v,A.V v→L v <:+ t→A.len lk≤A.len v→go' v c=some whole)(g2:∀v x,A.V v→¬(x=c∧L v <:+ t∧A.len lk≤A.len v)→go' v x=A.go v x)(g3:∀x,go' whole x=none):
  (A.ext t whole lk go').Inv (upd L whole (t++[c])) (t++[c]) whole:=by
 have h0w:(0:Nat)≠whole:=fun e=>hf (e▸h.pos)
 have hL:∀v,A.V v→upd L whole (t++[c]) v=L v:=fun v hv=>upd_ne _ _ fun e=>hf (e▸hv)
 have hLw:upd L whole (t++[c]) whole=t++[c]:=upd_same _ _ _;have hlen:∀v,A.V v→(A.ext t whole lk go').len v=A.len v:=fun v hv=>upd_ne _ _ fun e=>hf (e▸hv)
 have hlw:(A.ext t whole lk go').len whole=t.length+1:=upd_same _ _ _;have Fs:(A.ext t whole lk go').link whole=some lk:=upd_same _ _ _;have hk:∀v,A.V v→(A.ext t whole lk go').link v=A.link v:=fun v hv=>upd_ne _ _ fun e=>hf (e▸hv)
 have RF:∀v u,A.V v→A.link v=some u→A.V u:=fun v u hv hu=>by
  by_cases h0:v=0
  ·subst h0;rw[h.root.2]at hu;cases hu
  ·obtain⟨u',h5,h6,_⟩:=h.link v hv h0;rw[h5]at hu;cases hu;exact h6
 have hc:∀v w,(A.ext t whole lk go').tO (upd L whole (t++[c])) v w↔(v≠whole∧A.tO L v w)∨(v=whole∧w <:+ t++[c]∧A.len lk<w.length):=fun v w=>by
  unfold lu.tO;by_cases e1:v=whole
  ·subst e1;rw[hLw,Fs];constructor
   ·rintro⟨_,h2,h3⟩;have h4:=h3 lk rfl;rw[hlen lk vl]at h4;exact .inr ⟨rfl,h2,h4⟩
   ·rintro(⟨h1,_⟩|⟨_,h2,h3⟩)
    ·exact absurd rfl h1
    ·exact⟨.inr rfl,h2,fun u hu=>by cases hu;rw[hlen lk vl];exact h3⟩
  ·constructor
   ·rintro⟨h1,h2,h3⟩;have hv:A.V v:=h1.resolve_right e1;rw[hL v hv]at h2;rw[hk v hv]at h3;exact .inl ⟨e1,hv,h2,fun u hu=>by have:=h3 u hu;rwa [hlen u (RF v u hv hu)]at this⟩
   ·rintro(⟨_,hv,h2,h3⟩|⟨h1,_⟩)
    ·rw[hL v hv,hk v hv];exact⟨.inl hv,h2,fun u hu=>by rw[hlen u (RF v u hv hu)];exact h3 u hu⟩
    ·exact absurd h1 e1
 have hnew:∀w,w <:+ t++[c]→A.len lk<w.length→¬Ai t w:=fun w hw hl ho=>by
  have hne:w≠[]:=by rintro rfl;simp at hl
  obtain⟨w',rfl,hw'⟩:=JD hw hne;have:=(H1 w' hw').1 ho;simp at hl;omega
 have hll:A.len lk≤t.length:=by
  obtain⟨e,he,hs⟩:=h.Rh (h.self vl);have:=hs.length_le;rw[h.len lk vl,aH]at this;omega
 refine⟨.inl h.pos,fun v hv=>?_,⟨by rw[hL 0 h.pos];exact h.root.1,by rw[hk 0 h.pos];exact h.root.2⟩,fun v hv h0=>?_,fun v x u hv hg=>?_,fun v x w hw ho=>?_,fun v w hw=>?_,⟨.inr rfl,hLw⟩,fun v u w hv hu=>?_,fun w ho=>?_,fun v w e hw he hs=>?_⟩
 ·rcases hv with hv|rfl
  ·rw[hL v hv,hlen v hv];exact h.len v hv
  ·rw[hLw,hlw];simp
 ·rcases hv with hv|rfl
  ·obtain⟨u,h1,h2,h3,h4⟩:=h.link v hv h0;exact⟨u,by rw[hk v hv];exact h1,.inl h2,by rw[hlen u h2,hlen v hv];exact h3,by rw[hL u h2,hL v hv];exact h4⟩
  ·exact⟨lk,Fs,.inl vl,by rw[hlen lk vl,hlw];omega,by rw[hL lk vl,hLw];exact hlk⟩
 ·by_cases e1:v=whole
  ·subst e1;rw[show (A.ext t v lk go').go v x=none from g3 x]at hg;cases hg
  ·have hv':A.V v:=hv.resolve_right e1;have hg':go' v x=some u:=hg;by_cases hr:x=c∧L v <:+ t∧A.len lk≤A.len v
   ·obtain⟨rfl,h1,h2⟩:=hr;rw[g1 v hv' h1 h2]at hg';obtain rfl:=aB hg';refine⟨.inr rfl,h0w.symm,fun w hw=>?_⟩;rcases(hc _ _).1 hw with ⟨_,h3⟩|⟨h3,_⟩
    ·have hwt:w <:+ t:=h3.2.1.trans h1;refine(hc _ _).2 (.inr ⟨rfl,yQ _ hwt,?_⟩);rcases aP (A.len lk) (w++[x]).length with hh|hh
     ·exact hh
     ·exfalso;have h4:=(H1 w hwt).2 (by simpa using hh);obtain⟨u',hu'⟩:=h.all v x w h3 h4;have h5:=h.Rh ((h.step v x u' hv' hu').2.2 _ (h.self hv'));have h6:=(H1 (L v) h1).1 h5;rw[h.len v hv']at h6;omega
    ·exact absurd h3 e1
   ·rw[g2 v x hv' hr]at hg';obtain⟨vu,u0,hs⟩:=h.step v x u hv' hg';refine⟨.inl vu,u0,fun w hw=>?_⟩;rcases(hc _ _).1 hw with ⟨_,h3⟩|⟨h3,_⟩
    ·exact(hc _ _).2 (.inl ⟨fun e=>hf (e▸vu),hs w h3⟩)
    ·exact absurd h3 e1
 ·rcases(hc _ _).1 hw with ⟨e1,h1⟩|⟨rfl,h1,h2⟩
  ·show ∃u,go' v x=some u;by_cases hr:x=c∧L v <:+ t∧A.len lk≤A.len v
   ·obtain⟨rfl,h3,h4⟩:=hr;exact⟨_,g1 v h1.1 h3 h4⟩
   ·rw[g2 v x h1.1 hr];by_cases hot:Ai t (w++[x])
    ·exact h.all v x w h1 hot
    ·exfalso;rcases ho.snoc with h3|h3
     ·exact hot h3
     ·obtain⟨rfl,h4⟩:=lD h3;have h5:=h.yR h1 h4;have h6:¬w.length+1≤A.len lk:=fun hh=>hot ((H1 w h4).2 hh)
      have h7:=h.vX h1;exact hr ⟨rfl,h5,by omega⟩
  ·exfalso;have h3:=hnew w h1 h2;rcases ho.snoc with h4|h4
   ·exact h3 h4.pre
   ·exact h3 (qR (lD h4).2)
 ·rcases(hc _ _).1 hw with ⟨e1,h1⟩|⟨rfl,h1,h2⟩
  ·rw[show (A.ext t whole lk go').fin v=A.fin v from upd_ne _ _ e1];exact(h.fin v w h1).app c
  ·rw[show (A.ext t v lk go').fin v=t.length+1 from upd_same _ _ _];exact FE.new h1 (hnew w h1 h2)
 ·rcases(hc _ _).1 hv with ⟨e1,h1⟩|⟨rfl,h1,h2⟩<;>rcases(hc _ _).1 hu with ⟨e3,h3⟩|⟨rfl,h3,h4⟩
  ·exact h.one v u w h1 h3
  ·exact absurd (h.Rh h1) (hnew w h3 h4)
  ·exact absurd (h.Rh h3) (hnew w h1 h2)
  ·rfl
 ·have key:Ai t w→∃v,(A.ext t whole lk go').tO (upd L whole (t++[c])) v w:=fun hot=>by
   obtain⟨v,hv⟩:=h.mem w hot;exact⟨v,(hc _ _).2 (.inl ⟨fun e=>hf (e▸hv.1),hv⟩)⟩
  rcases ho.snoc with h1|h1
  ·exact key h1
  ·rcases aP (A.len lk) w.length with h2|h2
   ·exact⟨whole,(hc _ _).2 (.inr ⟨rfl,h1,h2⟩)⟩
   ·exact key ((h.Rh (h.self vl)).suffix (l8 h1 hlk (by rw[h.len lk vl];exact h2)))
 ·rcases(hc _ _).1 hw with ⟨e1,h1⟩|⟨rfl,h1,h2⟩
  ·rw[hL v h1.1];rcases aP t.length e with h2|h2
   ·have ee:(t++[c]).take e=t++[c]:=aF (by simp;omega);rw[ee]at hs ⊢;by_cases hw0:w = []
    ·subst hw0;have:=h.one v 0 [] h1 h.empty;subst this;rw[h.root.1];exact List.nil_suffix
    ·obtain⟨w',rfl,hw'⟩:=JD hs hw0;have h3:=(H1 w' hw').1 (h.Rh h1);have h4:w'++[c] <:+ L lk:=l8 hs hlk (by rw[h.len lk vl];simpa using h3);obtain⟨e',h5,h6⟩:=h.Rh (h.self vl);have h7:=h.ends v _ e' h1 h5 (h4.trans h6);rcases Nat.le_total (L v).length (L lk).length with h8|h8
     ·exact(l8 h7 h6 h8).trans hlk
     ·have h9:L lk <:+ L v:=l8 h6 h7 h8;have h10:A.tO L v (L lk):=h1.mid (h.self h1.1) h4.length_le h9;have:=h.one v lk _ h10 (h.self vl);rw[this];exact hlk
   ·rw[bZ h2]at hs ⊢;exact h.ends v w e h1 h2 hs
  ·rw[hLw];rcases aP t.length e with h3|h3
   ·rw[aF (by simp;omega)];exact List.suffix_refl _
   ·rw[bZ h3]at hs;exact absurd ⟨e,h3,hs⟩ (hnew w h1 h2)
theorem lu.Inv.VS(h:A.Inv L t last)(hn:∀v,A.V v→L v <:+ t→A.go v c=none):∀w,w <:+ t→(Ai t (w++[c])↔w.length+1≤A.len 0):=fun w hw=>by
 have h0:A.len 0=0:=by rw[←h.len 0 h.pos,h.root.1];rfl
 rw[h0];constructor
 ·intro ho;obtain⟨v,hv⟩:=h.mem w (qR hw);obtain⟨u,hu⟩:=h.all v c w hv ho;rw[hn v hv.1 (h.yR hv hw)]at hu;cases hu
 ·intro hh;omega
theorem lu.Inv.OB(h:A.Inv L t last){p q:Nat}(hp:A.V p)(hpt:L p <:+ t)(hq:A.go p c=some q)(hlq:A.len q=A.len p+1)(hn:∀v,A.V v→L v <:+ t→A.len p<A.len v→A.go v c=none):
  A.V q∧L q=L p++[c]∧L q <:+ t++[c]∧∀w,w <:+ t→(Ai t (w++[c])↔w.length+1≤A.len q):=by
 obtain⟨vq,q0,hs⟩:=h.step p c q hp hq;have h1:=hs _ (h.self hp);have h2:L p++[c]=L q:=RD h1.2.1 (by rw[h.len q vq,hlq];simp[h.len p hp]);refine⟨vq,h2.symm,by rw[←h2];exact yQ c hpt,fun w hw=>?_⟩;rw[hlq];constructor
 ·intro ho;obtain⟨v,hv⟩:=h.mem w (qR hw);obtain⟨u,hu⟩:=h.all v c w hv ho;have h3:=h.vX hv;rcases aP (A.len p) (A.len v)with h4|h4
  ·rw[hn v hv.1 (h.yR hv hw) h4]at hu;cases hu
  ·omega
 ·intro hh;have h3:w <:+ L p:=l8 hw hpt (by rw[h.len p hp];omega);exact(h.Rh h1).suffix (yQ c h3)
end
end
def qU:lu where
 V v:=v=0
 len _:=0
 link _:=none
 fin _:=0
 go _ _:=none
theorem Dr:qU.Inv (fun _=>[]) [] 0:=by
 have hc:∀v w,qU.tO (fun _=>[]) v w→v=0∧w = []:=fun v w ⟨h1,h2,_⟩=>⟨h1,List.suffix_nil.1 h2⟩
 refine⟨rfl,fun _ _=>rfl,⟨rfl,rfl⟩,fun v hv h0=>absurd hv h0,fun v c u _ h=>(by cases h),fun v c w _ ho=>?_,fun v w hw=>?_,⟨rfl,rfl⟩,fun v u w h1 h2=>(hc v w h1).1.trans (hc u w h2).1.symm,fun w ho=>?_,fun v w e _ _ _=>List.nil_suffix⟩
 ·obtain⟨e,_,h⟩:=ho;simp at h
 ·obtain⟨_,rfl⟩:=hc v w hw;exact⟨Nat.zero_le _,List.nil_suffix,fun e' h=>by have:qU.fin v=0:=rfl;omega⟩
 ·obtain⟨e,_,h⟩:=ho;simp at h;exact⟨0,rfl,by rw[h];exact List.suffix_refl _,fun u hu=>by cases hu⟩
end Go.Proofs.YtichfhpgdhdiaaaGreat
namespace Go.Proofs.YtichfhpgdhdiaaaGreat
structure Nd where
 len:Nat
 link:Option Nat
 fin:Nat
 edge:Option Nat
structure Ed where
 letter:UInt8
 tto:Nat
 next:Option Nat
def lT(own:Nat→Nat)(v:Nat):Nat→Option Nat
 |0=>none
 |k+1=>if own k=v then some k else lT own v k
theorem mK{own:Nat→Nat}{v:Nat}:∀{k j:Nat},lT own v k=some j→j<k∧own j=v∧∀i,j<i→i<k→own i≠v
 |0,j,h=>(by cases h)
 |k+1,j,h=>by
  unfold lT at h;split at h
  ·rename_i e
   cases h;exact⟨by omega,e,fun i h1 h2=>by omega⟩
  ·rename_i e
   obtain⟨h1,h2,h3⟩:=mK h;refine⟨by omega,h2,fun i h4 h5=>?_⟩;rcases aP i k with h6|h6
   ·exact h3 i h4 h6
   ·have:i=k:=by omega
    rw[this];exact e
theorem vE{own:Nat→Nat}{v:Nat}:∀{k:Nat},lT own v k=none→∀i,i<k→own i≠v
 |0,h,i,hi=>by omega
 |k+1,h,i,hi=>by
  unfold lT at h;split at h
  ·cases h
  ·rename_i e
   rcases aP i k with h6|h6
   ·exact vE h i h6
   ·have:i=k:=by omega
    rw[this];exact e
theorem ul{own own':Nat→Nat}{v:Nat}:∀{k:Nat},(∀i,i<k→own i=own' i)→lT own v k=lT own' v k
 |0,_=>rfl
 |k+1,h=>by
  unfold lT;rw[h k fZ ,ul fun i hi=>h i fZ ]
theorem BX{own:Nat→Nat}{v k:Nat}(h:own k≠v):lT own v (k+1)=lT own v k:=if_neg h
theorem Ml{own:Nat→Nat}{v k:Nat}(h:own k=v):lT own v (k+1)=some k:=if_pos h
theorem EY{own:Nat→Nat}{v:Nat}:∀{k:Nat},(∀i,i<k→own i≠v)→lT own v k=none
 |0,_=>rfl
 |k+1,h=>by rw[BX (h k fZ ),EY fun i hi=>h i fZ ]
structure tH(ns:List Nd)(es:List Ed)(own:Nat→Nat)(A:lu):Prop where
 V:∀v,A.V v↔v<ns.length
 node:∀v x,ns[v]?=some x→x.len=A.len v∧x.link=A.link v∧x.fin=A.fin v∧x.edge=lT own v es.length
 next:∀e x,es[e]?=some x→own e<ns.length∧x.tto<ns.length∧x.next=lT own (own e) e
 go1:∀e x,es[e]?=some x→A.go (own e) x.letter=some x.tto
 Nz:∀v c u,v<ns.length→A.go v c=some u→∃e x,es[e]?=some x∧own e=v∧x.letter=c∧x.tto=u
 one:∀e e' x x',es[e]?=some x→es[e']?=some x'→own e=own e'→x.letter=x'.letter→e=e'
structure lu.Eqv(A B:lu):Prop where
 V:∀v,A.V v↔B.V v
 len:∀v,A.V v→A.len v=B.len v
 link:∀v,A.V v→A.link v=B.link v
 fin:∀v,A.V v→A.fin v=B.fin v
 go:∀v x,A.V v→A.go v x=B.go v x
section
variable {ns:List Nd}{es:List Ed}{own:Nat→Nat}{A B:lu}
theorem tH.congr(h:tH ns es own A)(k:A.Eqv B):tH ns es own B:=by
 have hV:∀v,v<ns.length→A.V v:=fun v hv=>(h.V v).2 hv
 refine⟨fun v=>(k.V v).symm.trans (h.V v),fun v x hx=>?_,h.next,fun e x hx=>?_,fun v c u hv hg=>?_,h.one⟩
 ·have hv:=hV v (ay.1 hx).1;obtain⟨h1,h2,h3,h4⟩:=h.node v x hx;exact⟨h1.trans (k.len v hv),h2.trans (k.link v hv),h3.trans (k.fin v hv),h4⟩
 ·rw[←k.go _ _ (hV _ (h.next e x hx).1)];exact h.go1 e x hx
 ·rw[←k.go _ _ (hV v hv)]at hg;exact h.Nz v c u hv hg
def Il(es:List Ed)(own:Nat→Nat)(v:Nat)(c:UInt8)(e:Option Nat):Prop :=
 ∃k,k≤es.length∧e=lT own v k∧∀e' x,k≤e'→es[e']?=some x→own e'=v→x.letter≠c
theorem tH.Ng(h:tH ns es own A){v:Nat}{x:Nd}(hx:ns[v]?=some x)(c:UInt8):Il es own v c x.edge :=
 ⟨es.length,ak _,(h.node v x hx).2.2.2,fun e' y h1 h2 _=>by
  have:=(ay.1 h2).1;omega⟩
theorem Il.at{v:Nat}{c:UInt8}{j:Nat}(s:Il es own v c (some j)):∃y,es[j]?=some y∧own j=v:=by
 obtain⟨k,h1,h2,_⟩:=s;obtain⟨h3,h4,_⟩:=mK h2.symm;exact⟨_,au fZ ,h4⟩
theorem tH.Qb(h:tH ns es own A){v:Nat}{c:UInt8}{j:Nat}{y:Ed}(s:Il es own v c (some j))(hy:es[j]?=some y)(hc:y.letter≠c):Il es own v c y.next:=by
 obtain⟨k,h1,h2,h3⟩:=s;obtain⟨h4,h5,h6⟩:=mK h2.symm;refine⟨j,by omega,by rw[(h.next j y hy).2.2,h5],fun e' x h7 h8 h9=>?_⟩;rcases aP e' k with h10|h10
 ·rcases aP j e' with h11|h11
  ·exact absurd h9 (h6 e' h11 h10)
  ·have:e'=j:=by omega
   subst this;rw[hy]at h8;cases h8;exact hc
 ·exact h3 e' x h10 h8 h9
theorem tH.Qc(h:tH ns es own A){v:Nat}{c:UInt8}(hv:v<ns.length)(s:Il es own v c none):A.go v c=none:=by
 obtain⟨k,h1,h2,h3⟩:=s;cases hg:A.go v c with
 |none=>rfl
 |some u =>
  obtain⟨e,x,h4,h5,h6,h7⟩:=h.Nz v c u hv hg;rcases aP e k with h8|h8
  ·exact absurd h5 (vE h2.symm e h8)
  ·exact absurd h6 (h3 e x h8 h4 h5)
theorem tH.Qd(h:tH ns es own A){v:Nat}{c:UInt8}{j:Nat}{y:Ed}(s:Il es own v c (some j))(hy:es[j]?=some y)(hc:y.letter=c):A.go v c=some y.tto∧own j=v:=by
 obtain⟨_,_,h5⟩:=s.at;have:=h.go1 j y hy;rw[h5,hc]at this;exact⟨this,h5⟩
def lu.Tn(A:lu)(v:Nat)(c:UInt8)(u:Nat):lu:={ A with go:=fun v' x=>if v'=v∧x=c then some u else A.go v' x }
def lu.node(A:lu)(n l:Nat)(lk:Option Nat)(f:Nat):lu where
 V v:=A.V v∨v=n
 len:=upd A.len n l
 link:=upd A.link n lk
 fin:=upd A.fin n f
 go v x:=if v=n then none else A.go v x
def lu.rW(A:lu)(v:Nat)(lk:Option Nat):lu:={ A with link:=upd A.link v lk }
theorem tH.add(h:tH ns es own A){v:Nat}{x:Nd}{c:UInt8}{u:Nat}(hx:ns[v]?=some x)(hu:u<ns.length)(hg:A.go v c=none):
  tH (ns.set v { x with edge:=some es.length }) (es++[⟨c,u,x.edge⟩]) (upd own es.length v) (A.Tn v c u):=by
 have hv:=(ay.1 hx).1;have low:∀e y,(es++[(⟨c,u,x.edge⟩:Ed)])[e]?=some y→(e<es.length∧es[e]?=some y)∨(e=es.length∧y=⟨c,u,x.edge⟩):=fun e y hy=>by
  rcases eZ e es.length with h1|h1|h1
  ·rw[aY h1]at hy;exact .inl ⟨h1,hy⟩
  ·subst h1;rw[bD (ak _)]at hy;simp at hy;exact .inr ⟨rfl,hy.symm⟩
  ·rw[fE (by simp;omega)]at hy;cases hy
 have ow:∀e,e<es.length→upd own es.length v e=own e:=fun e he=>upd_ne _ _ fZ
 have on:upd own es.length v es.length=v:=upd_same _ _ _;have hh:∀w k,k≤es.length→lT (upd own es.length v) w k=lT own w k:=fun w k hk=>ul fun i hi=>ow i fZ
 have fresh:∀e y,es[e]?=some y→own e=v→y.letter≠c:=fun e y hy ho hl=>by
  have:=h.go1 e y hy;rw[ho,hl,hg]at this;cases this
 refine⟨fun w=>by rw[aX];exact h.V w,fun w y hy=>?_,fun e y hy=>?_,fun e y hy=>?_,fun w d q hw hq=>?_,fun e e' y y' hy hy' ho hl=>?_⟩
 ·have hlen:(es++[(⟨c,u,x.edge⟩:Ed)]).length=es.length+1:=by simp
  rw[hlen];by_cases e1:w=v
  ·subst e1;rw[bE hv]at hy;cases hy;obtain⟨h1,h2,h3,h4⟩:=h.node w x hx;exact⟨h1,h2,h3,(Ml on).symm⟩
  ·rw[bB (fun e=>e1 e.symm)]at hy;obtain⟨h1,h2,h3,h4⟩:=h.node w y hy;refine⟨h1,h2,h3,?_⟩;rw[BX (by rw[on];exact fun e=>e1 e.symm),hh w _ (ak _)];exact h4
 ·rw[aX];rcases low e y hy with ⟨h1,h2⟩|⟨rfl,rfl⟩
  ·obtain⟨h3,h4,h5⟩:=h.next e y h2
   rw[ow e h1];exact⟨h3,h4,by rw[hh _ _ fZ ];exact h5⟩
  ·rw[on];exact⟨hv,hu,by rw[hh _ _ (ak _)];exact(h.node v x hx).2.2.2⟩
 ·rcases low e y hy with ⟨h1,h2⟩|⟨rfl,rfl⟩
  ·rw[ow e h1];show (if own e=v∧y.letter=c then some u else A.go (own e) y.letter)=_;rw[if_neg fun hc=>fresh e y h2 hc.1 hc.2];exact h.go1 e y h2
  ·rw[on];exact if_pos ⟨rfl,rfl⟩
 ·rw[aX]at hw;have hq':(if w=v∧d=c then some u else A.go w d)=some q:=hq;by_cases hc:w=v∧d=c
  ·rw[if_pos hc]at hq';cases hq';refine⟨es.length,⟨c,u,x.edge⟩,by simp,by rw[on];exact hc.1.symm,hc.2.symm,rfl⟩
  ·rw[if_neg hc]at hq';obtain⟨e,y,h1,h2,h3⟩:=h.Nz w d q hw hq';have he:=(ay.1 h1).1;exact⟨e,y,by rw[aY he];exact h1,by rw[ow e he];exact h2,h3⟩
 ·rcases low e y hy with ⟨h1,h2⟩|⟨rfl,rfl⟩<;>rcases low e' y' hy' with ⟨h3,h4⟩|⟨rfl,rfl⟩
  ·rw[ow e h1,ow e' h3]at ho;exact h.one e e' y y' h2 h4 ho hl
  ·rw[ow e h1,on]at ho;exact absurd hl (fresh e y h2 ho)
  ·rw[ow e' h3,on]at ho;exact absurd hl.symm (fresh e' y' h4 ho.symm)
  ·rfl
theorem tH.Yf(h:tH ns es own A)(l:Nat)(lk:Option Nat)(f:Nat):tH (ns++[⟨l,lk,f,none⟩]) es own (A.node ns.length l lk f):=by
 have low:∀w y,(ns++[(⟨l,lk,f,none⟩:Nd)])[w]?=some y→(w<ns.length∧ns[w]?=some y)∨(w=ns.length∧y=⟨l,lk,f,none⟩):=fun e y hy=>by
  rcases eZ e ns.length with h1|h1|h1
  ·rw[aY h1]at hy;exact .inl ⟨h1,hy⟩
  ·subst h1;rw[bD (ak _)]at hy;simp at hy;exact .inr ⟨rfl,hy.symm⟩
  ·rw[fE (by simp;omega)]at hy;cases hy
 have far:∀e,e<es.length→own e≠ns.length:=fun e he hc=>by
  have:=(h.next e _ (au he)).1;omega
 have hlen:(ns++[(⟨l,lk,f,none⟩:Nd)]).length=ns.length+1:=by simp
 refine⟨fun w=>?_,fun w y hy=>?_,fun e y hy=>?_,fun e y hy=>?_,fun w d q hw hq=>?_,h.one⟩
 ·rw[hlen];show A.V w∨w=ns.length↔_;rw[h.V w];omega
 ·rcases low w y hy with ⟨h1,h2⟩|⟨rfl,rfl⟩
  ·have hne:w≠ns.length:=by omega
   obtain⟨h3,h4,h5,h6⟩:=h.node w y h2;exact⟨h3.trans (upd_ne _ _ hne).symm,h4.trans (upd_ne _ _ hne).symm,h5.trans (upd_ne _ _ hne).symm,h6⟩
  ·exact⟨(upd_same _ _ _).symm,(upd_same _ _ _).symm,(upd_same _ _ _).symm,(EY far).symm⟩
 ·rw[hlen];obtain⟨h3,h4,h5⟩:=h.next e y hy
  exact⟨by omega,by omega,h5⟩
 ·have:=(h.next e y hy).1;show (if own e=ns.length then none else A.go (own e) y.letter)=_;rw[if_neg fZ ];exact h.go1 e y hy
 ·have hq':(if w=ns.length then none else A.go w d)=some q:=hq;by_cases e1:w=ns.length
  ·rw[if_pos e1]at hq';cases hq'
  ·rw[if_neg e1]at hq';exact h.Nz w d q fZ hq'
theorem tH.rW(h:tH ns es own A){v:Nat}{x:Nd}(hx:ns[v]?=some x)(lk:Option Nat):tH (ns.set v { x with link:=lk }) es own (A.rW v lk):=by
 have hv:=(ay.1 hx).1;refine⟨fun w=>by rw[aX];exact h.V w,fun w y hy=>?_,fun e y hy=>by rw[aX];exact h.next e y hy,h.go1,fun w d q hw hq=>h.Nz w d q (by rw[aX]at hw;exact hw) hq,h.one⟩;by_cases e1:w=v
 ·subst e1;rw[bE hv]at hy;cases hy;obtain⟨h1,h2,h3,h4⟩:=h.node w x hx;exact⟨h1,(upd_same _ _ _).symm,h3,h4⟩
 ·rw[bB (fun e=>e1 e.symm)]at hy;obtain⟨h1,h2,h3,h4⟩:=h.node w y hy;exact⟨h1,h2.trans (upd_ne _ _ e1).symm,h3,h4⟩
theorem tH.abL(h:tH ns es own A){e:Nat}{y:Ed}{u:Nat}(hy:es[e]?=some y)(hu:u<ns.length):tH ns (es.set e { y with tto:=u }) own (A.Tn (own e) y.letter u):=by
 have he:=(ay.1 hy).1;have low:∀e' z,(es.set e { y with tto:=u })[e']?=some z→(e'=e∧z={ y with tto:=u })∨(e'≠e∧es[e']?=some z):=fun e' z hz=>by
  by_cases e1:e'=e
  ·subst e1;rw[bE he]at hz;cases hz;exact .inl ⟨rfl,rfl⟩
  ·rw[bB (fun e=>e1 e.symm)]at hz;exact .inr ⟨e1,hz⟩
 refine⟨h.V,fun w z hz=>by rw[aX];exact h.node w z hz,fun e' z hz=>?_,fun e' z hz=>?_,fun w d q hw hq=>?_,fun e1 e2 z1 z2 h1 h2 ho hl=>?_⟩
 ·rcases low e' z hz with ⟨rfl,rfl⟩|⟨_,h2⟩
  ·obtain⟨h3,_,h5⟩:=h.next e' y hy
   exact⟨h3,hu,h5⟩
  ·exact h.next e' z h2
 ·rcases low e' z hz with ⟨rfl,rfl⟩|⟨h1,h2⟩
  ·exact if_pos ⟨rfl,rfl⟩
  ·show (if own e'=own e∧z.letter=y.letter then some u else A.go (own e') z.letter)=_;rw[if_neg fun hc=>h1 (h.one e' e z y h2 hy hc.1 hc.2)];exact h.go1 e' z h2
 ·have hq':(if w=own e∧d=y.letter then some u else A.go w d)=some q:=hq;by_cases hc:w=own e∧d=y.letter
  ·rw[if_pos hc]at hq';cases hq';exact⟨e,{ y with tto:=u },bE he,hc.1.symm,hc.2.symm,rfl⟩
  ·rw[if_neg hc]at hq';obtain⟨e',z,h1,h2,h3,h4⟩:=h.Nz w d q hw hq';refine⟨e',z,?_,h2,h3,h4⟩;rw[bB ?_]
   ·exact h1
   ·rintro rfl;rw[hy]at h1;cases h1;exact hc ⟨h2.symm,h3.symm⟩
 ·rcases low e1 z1 h1 with ⟨rfl,rfl⟩|⟨h3,h4⟩<;>rcases low e2 z2 h2 with ⟨rfl,rfl⟩|⟨h5,h6⟩
  ·rfl
  ·exact h.one _ _ y z2 hy h6 ho hl
  ·exact h.one _ _ z1 y h4 hy ho hl
  ·exact h.one _ _ z1 z2 h4 h6 ho hl
end
end Go.Proofs.YtichfhpgdhdiaaaGreat
