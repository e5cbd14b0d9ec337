/- A range over a function whose iterator keeps its state in one box -/
import Derived.RangeFuncBox
import Derived.RangeFuncLeaves
import Derived.Shelf.Abstract
import Derived.OwnWalkIn
import Derived.TacticsInMore
import Derived.LoopNIn
import Derived.LoopIn
import Derived.Test.YtichfhpgdhdiaaaGreatJ1
import Derived.StillTailTactics
import Derived.OrdersIn
import Derived.RangeFuncCalls
import Derived.StillTail
import Derived.OrdersHeld
import Derived.RegionTactic
import Derived.Deep.RegionHeld3
set_option maxRecDepth 100000
set_option maxHeartbeats 8000000
set_option linter.unusedVariables false
set_option linter.unusedSimpArgs false
namespace Go.Proofs.YtichfhpgdhdiaaaGreat
open Go.RowKit
def OC{α : Type}(Bn:Nat)(I:List α→World→Prop)(xs:List α)(W:World):Exit→Act→World→Prop
 |.normal,_,W'=>KeepsOthers W W'∧W'.heap[Bn]?=W.heap[Bn]?∧I xs W'
 |_,_,_=>False
theorem yS{α : Type}{P:Program}{n:Nat}{g:Operand}{ps:Array Tmp}{assign body:Code}{Q:Exit→Act→World→Prop}{a:Act}{w:World}{gf:Nat}{lb:Array Value}(hg:a.eval g=.func (.func gf) #[] lb)(eg:∀args w,(callFunc gf args).run P w=.ok (.enter gf args) w)(enc : α→Value)(hps:ps.size=1)(N:Nat)(xs:List α)(Bn:Nat)(I:List α→World→Prop)(hIa:∀pre W o,I pre W→I pre (W.alloc o))(ME:∀pre W r o o',w.heap.size≤r→I pre W→W.heap[r]?=some o→o.isCells=false→I pre (W.putObj r o'))(hIs:∀pre W v,I pre W→I pre (W.setCell ⟨Bn,0,none⟩ v))(h0:I [] w)(hBn:∃t cs,gV w Bn t cs)(hit:∀(l:Nat) (J:List α→World→Prop),(∀pre W v,J pre W→J pre (W.setCell ⟨Bn,0,none⟩ v)) →
   (∀pre x W,J pre W→pre.length<N→YieldAt Fence.wide (n-1-1) P l #[enc x] W fun e W'=>e=.returned (.bool true)∧J (pre++[x]) W'∧W'.heap[Bn]?=W.heap[Bn]?) →
   ∀W,W.heap[Bn]?=w.heap[Bn]?→J [] W→CallsIn Fence.wide (n-1) P gf (#[.func (.yield l) #[] #[]]++lb) W fun e W'=>(∃v,e=.returned v)∧J xs W')(a₁ : α→Act)(hassign:∀(l:Nat) (x : α) (W:World) (K:Act→World→Prop),K (a₁ x) W →
   assign.wpIn (Fence.wide.inRound l) (n-1-1) P (Exit.then K (fun _ _ _=>False)) { tmps:=(ps.zip #[enc x]).foldl (fun t (p,v)=>t.setIfInBounds p v) a.tmps,defers:=[] } W)(hbody:∀(l:Nat) (pre:List α) (x : α) (W:World),I pre W→pre.length<N→body.wpIn (Fence.wide.inRound l) (n-1-1) P (OC Bn I (pre++[x]) W) (a₁ x) W)(hdone:∀(D:Nat) (W:World),w.heap.size≤D→I xs W→W.heap[D]?=some (.deferred (some []))→Q .normal { a with defers:={ target:=.collected D,args:=#[] }::a.defers } W):
  (Code.rangeFunc g ps assign body).wpIn Fence.wide n P Q a w:=by
 refine wpIn_rangeFunc ?_;intro fn hfn;obtain⟨t0,cs0,hB0⟩:=hBn;have hBlt:=hB0.lt;obtain⟨rec,hrec⟩:∃rec:LoopState→Option Code→Loop,rec=fun st pe=>{ state:=st,pending:=pe,fn,tmps:=a.tmps,params:=ps,assign,body,defers:=w.heap.size }:=⟨_,rfl⟩
 obtain⟨W1,hW1⟩:∃W1,(w.alloc (.deferred (some []))).alloc (.loop (rec .ready none))=W1:=⟨_,rfl⟩;have hL1:W1.heap[w.heap.size+1]?=some (.loop (rec .ready none)):=by
  rw[←hW1];have:=World.alloc_heap_new (w.alloc (.deferred (some []))) (.loop (rec .ready none));rwa [aJ]at this
 have hK1:W1.heap[w.heap.size]?=some (.deferred (some [])):=by
  rw[←hW1];exact(dK _ _ _ gu ).trans (World.alloc_heap_new w _)
 have hI1:I [] W1:=by rw[←hW1];exact hIa _ _ _ (hIa _ _ _ h0)
 have hB1:W1.heap[Bn]?=w.heap[Bn]?:=by
  rw[←hW1];exact(dK _ _ _ (by simp;omega)).trans (dK w _ _ hBlt)
 refine⟨w.heap.size+1,[{ target:=.collected w.heap.size,args:=#[] }],W1,{ target:=.fn (.func gf) lb,args:=#[.func (.yield (w.heap.size+1)) #[] #[]] },W1,gf,
  #[.func (.yield (w.heap.size+1)) #[] #[]]++lb, W1, ?_, ?_, fun _ _=>trivial, ?_, (fun h=>by cases h), ?_⟩
 ·rw[←hW1,hrec];exact run_enterLoop_outer _ _ _ _ _
 ·simp only[resolve,hg];simp[go_sem]
 ·simp[invoke,go_sem,eg]
 ·refine(hit (w.heap.size+1) (fun pre W=>I pre W∧W.heap[w.heap.size+1]?=some (.loop (rec .ready none))∧W.heap[w.heap.size]?=some (.deferred (some [])))
   (fun pre W v h=>⟨hIs _ _ _ h.1,(bf W ⟨Bn,0,none⟩ v _ (by simp;omega)).trans h.2.1,(bf W ⟨Bn,0,none⟩ v _ (by simp;omega)).trans h.2.2⟩) ?_ W1 hB1 ⟨hI1,hL1,hK1⟩).mono ?_
  ·rintro pre x W ⟨hi,hl,hk⟩ hlen;have hlt:w.heap.size+1<W.heap.size:=(ax.1 hl).1;have hy:=run_yield (P:=P) (args:=#[enc x]) hl (by rw[hrec];exact hps.symm);rw[hrec]at hy;refine⟨fn,_,assign,body,hy,roundIn_of_wpIn hfn (hassign _ x W _ ⟨_,run_beginRound hl (by rw[hrec]),?_⟩)⟩;have hl2:(W.putObj (w.heap.size+1) (.loop { rec .ready none with state:=.busy })).heap[w.heap.size+1]?=some (.loop { rec .ready none with state:=.busy }):=World.putObj_heap_same hlt;have hk2:(W.putObj (w.heap.size+1) (.loop { rec .ready none with state:=.busy })).heap[w.heap.size]?=some (.deferred (some [])):=(World.putObj_heap_other fZ ).trans hk
   have hb2:(W.putObj (w.heap.size+1) (.loop { rec .ready none with state:=.busy })).heap[Bn]?=W.heap[Bn]?:=World.putObj_heap_other fZ ;refine wpIn_mono (hbody _ pre x _ (ME _ _ _ _ _ fZ hi hl rfl) hlen) ?_;rintro e a3 W3 hp;cases e with
   |normal =>
    obtain⟨hk3,hb3,hi3⟩:=hp;have hl3:=hk3.same _ _ hl2 rfl;have hr:=run_endRound (P:=P) none hl3;rw[hrec]at hr;refine⟨_,_,hr,rfl,⟨ME _ _ _ _ _ fZ hi3 hl3 rfl,?_,(World.putObj_heap_other fZ ).trans (hk3.same _ _ hk2 rfl)⟩,((World.putObj_heap_other fZ ).trans hb3).trans hb2⟩;rw[hrec];exact World.putObj_heap_same (ax.1 hl3).1
   |ret=>exact hp.elim
   |exit id=>exact hp.elim
   |goto t=>exact hp.elim
   |panic ch=>exact hp.elim
   |outgrown=>exact hp.elim
  ·rintro e W2 ⟨⟨v,rfl⟩,hi,hl,hk⟩;have:=run_endLoop (P:=P) hl (by rw[hrec];simp);rw[hrec]at this;exact⟨none,_,this,hdone w.heap.size _ (ak _) (ME _ _ _ _ _ fZ hi hl rfl) ((World.putObj_heap_other fZ ).trans hk)⟩
end Go.Proofs.YtichfhpgdhdiaaaGreat
namespace Go.Proofs.YtichfhpgdhdiaaaGreat
open Go.RowKit
def Ff(F:Fence):Prop:=F=Fence.wide∨∃l,F=Fence.wide.inRound l
theorem Ff.wide:Ff Fence.wide:=.inl rfl
theorem kz(l:Nat):Ff (Fence.wide.inRound l):=.inr ⟨l,rfl⟩
section
variable {F:Fence}{P:Program}{n:Nat}{ops:Array Oper}{md:Region.Mode}{w:World}
theorem Ff.fn(h:Ff F)(f:FuncId):F.fn f:=by rcases h with rfl|⟨l,rfl⟩<;>trivial
theorem Ff.depth(h:Ff F):F.depth.isSome=true→1≤n:=by rcases h with rfl|⟨l,rfl⟩<;>(intro e;cases e)
theorem Ff.calls(h:Ff F){f:FuncId}{args:Array Value}{R:Ending→World→Prop}(hc:Calls P f args w R):CallsIn F n P f args w R:=by
 rcases h with rfl|⟨l,rfl⟩
 ·exact callsIn_wide.2 hc
 ·exact CallsIn.inRound l (callsIn_wide.2 hc)
theorem Ff.rows(h:Ff F){f:String}{args:Array Value}{R:Value→World→Prop}(hc:Rows P f args w R):RowsIn F n P f args w R:=by
 intro c cs _;obtain⟨v,w',r,s⟩:=hc c cs;refine⟨v,w',r,?_⟩;rcases h with rfl|⟨l,rfl⟩
 ·exact stepsIn_wide.2 s
 ·exact stepsIn_wide.2 s
def nL(o:Oper):Bool:=match o.op with
 |.defer _=>true
 |_=>false
theorem Gl{o:Oper}(h:nL o=false):∀c,o.op≠.defer c:=fun c e=>by unfold nL at h;rw[e]at h;cases h
theorem FB(hF:Ff F){o:Oper}(hd:nL o=false){a:Act}{K:Act→Prop}{K':Act→World→Prop}{Q:Exit→Act→World→Prop}(h:∀a,K a→K' a w)(hh:o.still P a w K):o.wpIn F n P a w K' Q:=by
 refine⟨fun f _=>hF.fn f,?_⟩;rw[Oper.semAt_eq _ _ _ (Gl hd)];unfold Oper.still at hh;generalize (execOp a.eval o).run P w=r at *;cases r with
 |ok x w' =>
  cases x<;>simp only[Oper.stillUpon]at hh<;>simp only[Oper.uponIn]
  case enter f args =>
   obtain⟨rfl,v,hc,hn⟩:=hh;exact⟨hF.depth,hF.calls (hc.mono fun e w'' ⟨he,hw⟩=>by subst he;subst hw;exact h _ hn)⟩
  all_goals (obtain⟨rfl,h2⟩:=hh;exact h _ h2)
 |halt x w'=>simp only[Oper.stillUpon]at hh
theorem Eg(hF:Ff F)(hd:∀o∈ops,nL o=false){i:Nat}{a:Act}{K:Act→Prop}{K':Act→World→Prop}{Q':Exit→Act→World→Prop}(h:∀a,K a→K' a w)(hh:stOp P ops w i K a):wpOpIn F n P ops Q' i K' a w:=by
 unfold stOp at hh;unfold wpOpIn;split
 ·rename_i ho;simp only[ho]at hh;exact h _ hh
 ·rename_i o ho
  simp only[ho]at hh;split
  ·rename_i hw;simp only[hw,if_true]at hh;exact FB hF (hd o (Array.mem_of_getElem? ho)) h hh
  ·rename_i hw;simp only[hw]at hh;exact⟨fun f _=>hF.fn f,h _ hh⟩
theorem uK(hF:Ff F)(hd:∀o∈ops,nL o=false){m g:Nat}{L:Array Bool→Act→Prop}{Q':Exit→Act→World→Prop}(hL:∀listed a,L listed a→wpAnyIn F n P md ops Q' g listed a w):
  ∀(f:Nat) (listed:Array Bool) (a:Act),wpAnyL P md ops w m L f listed a→wpAnyIn F n P md ops Q' (f+g) listed a w
 |0,listed,a,h=>by rw[bH];exact hL _ _ h
 |f+1,listed,a,h=>by
  rw[show f+1+g=(f+g)+1 by omega];exact⟨fun h0=>absurd h0 h.1,fun i hi=>Eg hF hd (fun a' h'=>uK hF hd hL f _ a' h') (h.2 i hi).2⟩
theorem vz{Q':Exit→Act→World→Prop}:∀(l:List Oper) (k:Nat) (listed:Array Bool) (a:Act) (w:World),(∀j,l[j]?=ops[k+j]?) →
  Region.seqB md ops l.length k listed=true→wpListIn F n P ops Q' l a w→wpAnyIn F n P md ops Q' l.length listed a w
 |[],_,_,_,_,_,hB,h=>⟨by simpa [Region.seqB] using hB,h⟩
 |o::l,k,listed,a,w,hl,hB,h=>by
  have h0:ops[k]?=some o:=by simpa using (hl 0).symm
  simp only[aI,Region.seqB,aK,decide_eq_true_eq]at hB;refine⟨fun h1=>(by rw[hB.1]at h1;cases h1),fun i hi=>?_⟩;rw[hB.1]at hi;have hik:i=k:=by simpa using hi
  subst hik;have hw:wpOpIn F n P ops Q' i (wpListIn F n P ops Q' l) a w:=by unfold wpOpIn;simp only[h0];exact h
  exact wpOpIn_mono (fun a' w' h'=>vz l (i+1) _ a' w' (fun j=>by have:=hl (j+1);simpa [fM,Nat.add_comm 1 j] using this) hB.2 h') hw
theorem oF(hF:Ff F){id:Nat}{Q:Exit→Act→World→Prop}{a:Act}{l:List Oper}(m:Nat)(hm:P.follows .mixedOrders=true)(hB:Region.lexTailB .any l.toArray m=true)(hd:l.all (fun o=>!nL o)=true)(h:wpStill P l.toArray { w with drawn:=w.drawn+1 } (fun a'=>wpListIn F n P l.toArray Q (l.drop m) a' { w with drawn:=w.drawn+1 }) (l.take m) a):(Code.region id l.toArray true).wpIn F n P Q a w:=by
 simp only[Region.lexTailB,aK,decide_eq_true_eq]at hB;obtain⟨⟨⟨⟨hsel,hn⟩,hs⟩,hc⟩,hlex⟩:=hB;have hd':∀o∈l.toArray,nL o=false:=fun o ho=>by simpa using bN.1 hd o (by simpa using ho)
 have hn':m<l.length:=by simpa using hn
 have htl:(l.take m).length=m:=by simp;omega
 have hdl:(l.drop m).length=l.toArray.size-m:=by simp
 have inv0:HeadInv .any l.toArray m (Array.replicate l.toArray.size false) :=
  ⟨by simp,fun j oj _ hl=>(by rw[getD_replicate_false]at hl;cases hl),fun t _ ht=>getD_in (by simpa using ht) (getD_replicate_false _ _)⟩
 have H:=wpAnyL_lex (md:=.any) (g:=l.toArray.size-m) hsel hs hc hn (l.take m) 0 _ a (fun j hj=>by
  have hj':j<m:=by rw[htl]at hj;exact hj
  simp[hj']) (by simpa using htl) inv0 (by rw[htl];exact hlex) h
 refine wpIn_region_any hm ?_;have:=uK (n:=n) (Q':=Q) (g:=l.toArray.size-m) hF hd' (fun listed a' hL=>by
  have:=vz (F:=F) (n:=n) (md:=.any) (Q':=Q) (l.drop m) m listed a' { w with drawn:=w.drawn+1 } (fun j=>by simp[bX]) (by rw[hdl];exact hL.1) hL.2;rwa [hdl]at this) _ _ _ H
 rw[htl,show m+(l.toArray.size-m)=l.toArray.size by omega]at this;exact this
end
end Go.Proofs.YtichfhpgdhdiaaaGreat
namespace Go.Proofs.YtichfhpgdhdiaaaGreat
section
variable {P:Program}{ops:Array Oper}{Q:Exit→Act→World→Prop}{md:Region.Mode}{S:World→Prop}{z:Nat}
def Kept(S:World→Prop)(z:Nat)(listed:Array Bool)(w:World):Prop:=listed.getD z false=true∨S w
def wpS(P:Program)(md:Region.Mode)(ops:Array Oper)(Q:Exit→Act→World→Prop)(S:World→Prop)(z:Nat):Nat→Array Bool→Act→World→Prop
 |0,listed,a,w=>Region.ready md ops listed = []∧Q .normal a w
 |f+1,listed,a,w=>(Region.ready md ops listed = []→Q .normal a w) ∧
  ∀i∈Region.ready md ops listed,wpOp P ops Q i (fun a' w'=>Kept S z (listed.setIfInBounds i true) w'∧wpS P md ops Q S z f (listed.setIfInBounds i true) a' w') a w
theorem pz:∀(f:Nat) (listed:Array Bool) (a:Act) (w:World),wpS P md ops Q S z f listed a w→wpAny P md ops Q f listed a w
 |0,_,_,_,h=>h
 |f+1,_,_,_,h=>⟨h.1,fun i hi=>wpOp_mono (fun a' w' h'=>pz f _ a' w' h'.2) (h.2 i hi)⟩
def xI(md:Region.Mode)(ops:Array Oper)(z:Nat)(skip:List Nat):Bool :=
 (List.range z).all fun i=>skip.contains i||(List.range (z+1)).any fun j=>decide (i<j)&&!skip.contains j&&Region.waitsFor md ops j i
def rC(md:Region.Mode)(ops:Array Oper)(listed:Array Bool):Prop :=
 ∀j oj,ops[j]?=some oj→listed.getD j false=true→∀e∈oj.after,Region.binds md e=true→listed.getD e.on false=true
theorem oG(n:Nat):rC md ops (Array.replicate n false):=fun j oj _ hl=>by
 rw[getD_replicate_false]at hl;cases hl
theorem rC.set{i:Nat}{listed:Array Bool}(h:rC md ops listed)(hi:i∈Region.ready md ops listed):rC md ops (listed.setIfInBounds i true):=fun j oj hj hl e he hb=>by
 obtain⟨_,oi,hoi,hall⟩:=mem_ready.1 hi;by_cases hij:i=j
 ·subst hij;have:oj=oi:=aB (hj.symm.trans hoi);subst this;exact getD_set_true (hall e he hb)
 ·rw[getD_set_ne false hij]at hl;exact getD_set_true (h j oj hj hl e he hb)
theorem rC.all{listed:Array Bool}{skip:List Nat}(hs:xI md ops z skip=true)(h:rC md ops listed)(hz:∀oz,ops[z]?=some oz→∀e∈oz.after,Region.binds md e=true→listed.getD e.on false=true):
  ∀(d i:Nat),z-i=d→i<z→skip.contains i=false→listed.getD i false=true:=by
 intro d
 induction d using Nat.strongRecOn with
 |_ d ih =>
  intro i hd hi hsk;have h1:=bN.1 hs i (bK.2 hi);rw[hsk,Bool.false_or]at h1;obtain⟨j,hj,hj2⟩:=fI.1 h1;simp only[aK,decide_eq_true_eq,Bool.not_eq_true']at hj2;obtain⟨oj,hoj,e,he,hb,hon⟩:=Region.waitsFor_spec hj2.2;have hjle:j≤z:=by have:=bK.1 hj;omega
  rw[←hon];by_cases hjz:j=z
  ·subst hjz;exact hz oj hoj e he hb
  ·exact h j oj hoj (ih (z-j) fZ j rfl fZ hj2.1.2) e he hb
theorem rC.WX{listed:Array Bool}{skip:List Nat}(hs:xI md ops z skip=true)(h:rC md ops listed){i:Nat}(hi:i<z)(hsk:skip.contains i=false)(hun:listed.getD i true=false):z∉Region.ready md ops listed∧listed.getD z false=false:=by
 have key:¬∀oz,ops[z]?=some oz→∀e∈oz.after,Region.binds md e=true→listed.getD e.on false=true:=fun hz=>by
  have:=h.all hs hz (z-i) i rfl hi hsk;rw[getD_both hun]at this;cases this
 constructor
 ·intro hr;obtain⟨_,ot,hot,hall⟩:=mem_ready.1 hr;exact key fun oz WY=>by
   have:oz=ot:=aB (WY.symm.trans hot);subst this;exact hall
 ·cases hl:listed.getD z false with
  |false=>rfl
  |true=>exact absurd (fun oz WY=>h z oz WY hl) key
theorem AP{i:Nat}{oi:Oper}{v:Value}{T:World→Prop}(hi:ops[i]?=some oi)(hsel:∀(j:Nat) (o:Oper) cs b,ops[j]?=some o→o.op≠.select cs b)(hQ:∀c a w,Q (.panic c) (a.put oi.dst v) w→Q (.panic c) a w)(hiz:i≠z){skip:List Nat}(hT:(∀w,T w)∨(xI md ops z skip=true∧skip.contains i=false∧i<z∧∀w,S w→T w)):
  ∀(f:Nat) (listed:Array Bool) (a:Act) (w:World),
   (∀j oj,ops[j]?=some oj→j≠i→listed.getD j true=false→(∀e∈oj.after,Region.binds md e=true→e.on≠i)→oi.apart ops oj=true) →
   rC md ops listed→i∈Region.ready md ops listed→YieldsIf P ops T oi v a→Kept S z listed w →
   wpS P md ops Q S z f (listed.setIfInBounds i true) (a.put oi.dst v) w→wpS P md ops Q S z (f+1) listed a w:=by
 intro f;have now:∀(listed:Array Bool) (w:World),rC md ops listed→i∈Region.ready md ops listed→Kept S z listed w→T w:=fun listed w hcl hr hk=>by
  rcases hT with h|⟨h1,h2,h3,h4⟩
  ·exact h w
  ·rcases hk with hk|hk
   ·rw[(hcl.WX h1 h3 h2 (mem_ready.1 hr).1).2]at hk;cases hk
   ·exact h4 w hk
 have Yo:∀(listed:Array Bool) (j:Nat) (w:World),Kept S z ((listed.setIfInBounds i true).setIfInBounds j true) w→Kept S z (listed.setIfInBounds j true) w:=fun listed j w hk=>by
  rcases hk with hk|hk
  ·left;by_cases hji:j=i
   ·subst hji;rw[getD_set_ne false hiz,getD_set_ne false hiz]at hk;rw[getD_set_ne false hiz];exact hk
   ·rw[Array.setIfInBounds_comm _ _ (fun e=>hji e.symm),getD_set_ne false hiz]at hk;exact hk
  ·exact .inr hk
 have self:∀(listed:Array Bool) (w:World),Kept S z listed w→Kept S z (listed.setIfInBounds i true) w:=fun listed w hk=>by
  rcases hk with hk|hk
  ·exact .inl (getD_set_true hk)
  ·exact .inr hk
 induction f with
 |zero =>
  intro listed a w _ hcl hr hy hk H;refine⟨fun h=>(by rw[h]at hr;cases hr),fun j hj=>?_⟩;by_cases hji:j=i
  ·subst hji;exact hy.wpOp hi (now _ _ hcl hr hk) ⟨self _ _ hk,H⟩
  ·have:=ready_mono hj hji;rw[H.1]at this;cases this
 |succ f ih =>
  intro listed a w hfree hcl hr hy hk H;refine⟨fun h=>(by rw[h]at hr;cases hr),fun j hj=>?_⟩;by_cases hji:j=i
  ·subst hji;exact hy.wpOp hi (now _ _ hcl hr hk) ⟨self _ _ hk,H⟩
  ·have h1:=H.2 j (ready_mono hj hji);obtain⟨hjun,oj,hoj,hall⟩:=mem_ready.1 hj;have hun:=(mem_ready.1 hr).1;have hnot:∀e∈oj.after,Region.binds md e=true→e.on≠i:=fun e he hb heq=>by
    have h1:=hall e he hb;rw[heq,getD_both hun]at h1;cases h1
   have h2:=wpOp_putIf hoj (hfree j oj hoj hji hjun hnot) (fun cs b=>hsel i oi cs b hi) (fun cs b=>hsel j oj cs b hoj) hQ hy h1;have hfree':∀k ok,ops[k]?=some ok→k≠i→(listed.setIfInBounds j true).getD k true=false →
     (∀e∈ok.after,Region.binds md e=true→e.on≠i)→oi.apart ops ok=true:=fun k ok hk hki hun hno=>by
    refine hfree k ok hk hki ?_ hno;by_cases hjk:j=k
    ·subst hjk;exact hjun
    ·rw[getD_set_ne true hjk]at hun;exact hun
   refine wpOp_mono (fun a' w' h3=>⟨Yo _ _ _ h3.2.1,ih (listed.setIfInBounds j true) a' w' hfree' (hcl.set hj) (ready_mono hr (fe hji)) h3.1 (Yo _ _ _ h3.2.1) ?_⟩) h2;rw[Array.setIfInBounds_comm _ _ hji];exact h3.2.2
def kF(P:Program)(md:Region.Mode)(ops:Array Oper)(Q:Exit→Act→World→Prop)(S:World→Prop)(z f:Nat)(listed:Array Bool)(a:Act)(w:World):Prop :=
 rC md ops listed→Kept S z listed w→wpS P md ops Q S z f listed a w
theorem Qw{i:Nat}{oi:Oper}{v:Value}{f:Nat}{listed:Array Bool}{a:Act}{w:World}(hi:ops[i]?=some oi)(hs:Region.noSelect ops=true)(hf:Region.free md ops listed i=true)(hr:(Region.ready md ops listed).contains i=true)(hQ:∀c a w,Q (.panic c) (a.put oi.dst v) w→Q (.panic c) a w)(skip:List Nat)(hz:(xI md ops z skip&&!skip.contains i&&decide (i<z))=true)(hy:YieldsIf P ops S oi v a)(h:kF P md ops Q S z f (listed.setIfInBounds i true) (a.put oi.dst v) w):kF P md ops Q S z (f+1) listed a w:=fun hcl hk=>by
 simp only[aK,decide_eq_true_eq,Bool.not_eq_true']at hz;have hr':i∈Region.ready md ops listed:=by simpa using hr
 refine AP (T:=S) hi (Region.noSelect_spec hs) hQ fZ (.inr ⟨hz.1.1,hz.1.2,hz.2,fun _ h=>h⟩) f listed a w (Region.free_spec hi hf) hcl hr' hy hk (h (hcl.set hr') ?_);rcases hk with hk|hk
 ·exact .inl (getD_set_true hk)
 ·exact .inr hk
theorem kF.free{i:Nat}{oi:Oper}{v:Value}{f:Nat}{listed:Array Bool}{a:Act}{w:World}(hi:ops[i]?=some oi)(hs:Region.noSelect ops=true)(hf:Region.free md ops listed i=true)(hr:(Region.ready md ops listed).contains i=true)(hQ:∀c a w,Q (.panic c) (a.put oi.dst v) w→Q (.panic c) a w)(hz:(i != z)=true)(hy:YieldsIf P ops (fun _=>True) oi v a)(h:kF P md ops Q S z f (listed.setIfInBounds i true) (a.put oi.dst v) w):kF P md ops Q S z (f+1) listed a w:=fun hcl hk=>by
 have hr':i∈Region.ready md ops listed:=by simpa using hr
 refine AP (T:=fun _=>True) (skip:=[]) hi (Region.noSelect_spec hs) hQ (by simpa using hz) (.inl fun _=>trivial) f listed a w (Region.free_spec hi hf) hcl hr' hy hk (h (hcl.set hr') ?_);rcases hk with hk|hk
 ·exact .inl (getD_set_true hk)
 ·exact .inr hk
theorem kF.only{i:Nat}{oi:Oper}{f:Nat}{listed:Array Bool}{a:Act}{w:World}(hi:ops[i]?=some oi)(hr:Region.ready md ops listed = [i])(hw:Region.wanted oi (yielded ops a.tmps)=true)(h:∀K:Act→World→Prop,(∀a' w',S w'→kF P md ops Q S z f (listed.setIfInBounds i true) a' w'→K a' w')→Oper.wp P oi a w K Q):kF P md ops Q S z (f+1) listed a w:=fun hcl hk=>by
 refine⟨fun h0=>(by rw[hr]at h0;cases h0),fun j hj=>?_⟩;have hj':=hj;rw[hr]at hj;obtain rfl:j=i:=by simpa using hj
 refine wpOp_step hi fun K hK=>?_
 rw[if_pos hw];exact h K fun a' w' hS h'=>hK a' w' ⟨.inr hS,h' (hcl.set hj') (.inr hS)⟩
theorem kF.late{i:Nat}{oi:Oper}{f:Nat}{listed:Array Bool}{a:Act}{w:World}(hi:ops[i]?=some oi)(hr:Region.ready md ops listed = [i])(hw:Region.wanted oi (yielded ops a.tmps)=true)(hz:(listed.setIfInBounds i true).getD z false=true)(h:∀K:Act→World→Prop,(∀a' w',kF P md ops Q S z f (listed.setIfInBounds i true) a' w'→K a' w')→Oper.wp P oi a w K Q):kF P md ops Q S z (f+1) listed a w:=fun hcl hk=>by
 refine⟨fun h0=>(by rw[hr]at h0;cases h0),fun j hj=>?_⟩;have hj':=hj;rw[hr]at hj;obtain rfl:j=i:=by simpa using hj
 refine wpOp_step hi fun K hK=>?_
 rw[if_pos hw];exact h K fun a' w' h'=>hK a' w' ⟨.inl hz,h' (hcl.set hj') (.inl hz)⟩
theorem Tj{i:Nat}{oi:Oper}{f:Nat}{listed:Array Bool}{a:Act}{w:World}(hi:ops[i]?=some oi)(hr:Region.ready md ops listed = [i])(hz:(listed.setIfInBounds i true).getD z false=true)(h:if Region.wanted oi (yielded ops a.tmps)=true then Oper.wp P oi a w (fun a' w'=>kF P md ops Q S z f (listed.setIfInBounds i true) a' w') Q else False):kF P md ops Q S z (f+1) listed a w:=by
 by_cases hw:Region.wanted oi (yielded ops a.tmps)=true
 ·rw[if_pos hw]at h;exact kF.late hi hr hw hz fun K hK=>Oper.wp_mono hK h
 ·rw[if_neg hw]at h;exact h.elim
theorem kF.done{listed:Array Bool}{a:Act}{w:World}(hr:Region.ready md ops listed = [])(h:Q .normal a w):kF P md ops Q S z 0 listed a w:=fun _ _=>⟨hr,h⟩
theorem nN{id:Nat}{a:Act}{w:World}(hm:P.follows .mixedOrders=true)(hS:S w.drew)(z:Nat)(h:kF P .any ops (NoPanic Q) S z ops.size (Array.replicate ops.size false) a w.drew):(Code.region id ops true).wp P Q a w :=
 wp_region_noPanic <| wp_region_any hm (pz _ _ _ _ (h (oG _) (.inr hS)))
def uL(Q:Exit→Act→World→Prop):Exit→Act→World→Prop
 |.normal,a,w=>Q .normal a w
 |_,_,_=>False
theorem uL.imp:∀(e:Exit) (a:Act) (w:World),uL Q e a w→Q e a w:=fun e a w h=>by
 cases e<;>first|exact h|exact(h:False).elim
theorem uL.normal{a:Act}{w:World}(h:Q .normal a w):uL Q .normal a w:=h
theorem Nw{F:Fence}{n:Nat}(hF:Ff F){o:Oper}(hd:nL o=false){a:Act}{w:World}{K:Act→World→Prop}(h:Oper.wp P o a w K Q):o.wpIn F n P a w K Q:=by
 refine⟨fun f _=>hF.fn f,?_⟩;rw[Oper.semAt_eq _ _ _ (Gl hd)];unfold Oper.wp at h;generalize (execOp a.eval o).run P w=r at *;cases r with
 |ok x w' =>
  cases x<;>simp only[Oper.upon]at h<;>simp only[Oper.uponIn]
  case enter f args=>exact⟨hF.depth,hF.calls h⟩
  case row f args=>exact⟨hF.depth,hF.rows h⟩
  all_goals exact h
 |halt x w'=>cases x<;>simp only[Oper.upon]at h<;>simp only[Oper.uponIn]<;>exact h
theorem Eh{F:Fence}{n:Nat}(hF:Ff F)(hd:∀o∈ops,nL o=false)(hL:¬LetsOut Q){i:Nat}{K:Act→World→Prop}{a:Act}{w:World}(h:wpOp P ops Q i K a w):wpOpIn F n P ops Q i K a w:=by
 unfold wpOp at h;unfold wpOpIn;split
 ·rename_i ho;simp only[ho]at h;exact h
 ·rename_i o ho
  simp only[ho]at h;split
  ·rename_i hw
   simp only[hw,if_true]at h;rcases h with h|h
   ·exact Nw hF (hd o (Array.mem_of_getElem? ho)) h
   ·exact absurd h.2 hL
  ·rename_i hw;simp only[hw]at h;exact⟨fun f _=>hF.fn f,h⟩
theorem pE{F:Fence}{n:Nat}(hF:Ff F)(hd:∀o∈ops,nL o=false)(hL:¬LetsOut Q):∀(f:Nat) (listed:Array Bool) (a:Act) (w:World),wpAny P md ops Q f listed a w→wpAnyIn F n P md ops Q f listed a w
 |0,_,_,_,h=>h
 |f+1,_,_,_,h=>⟨h.1,fun i hi=>Eh hF hd hL (wpOp_mono (fun a' w' h'=>pE hF hd hL f _ a' w' h') (h.2 i hi))⟩
theorem oD{F:Fence}{n:Nat}(hF:Ff F){id:Nat}{l:List Oper}{a:Act}{w:World}(hm:P.follows .mixedOrders=true)(hd:l.all (fun o=>!nL o)=true)(hS:S w.drew)(z:Nat)(h:kF P .any l.toArray (uL Q) S z l.toArray.size (Array.replicate l.toArray.size false) a w.drew):(Code.region id l.toArray true).wpIn F n P Q a w :=
 wpIn_mono (wpIn_region_any hm (pE hF (fun o ho=>by simpa using bN.1 hd o (by simpa using ho)) (fun⟨_,_,h⟩=>h) _ _ _ _ (pz _ _ _ _ (h (oG _) (.inr hS))))) uL.imp
end
end Go.Proofs.YtichfhpgdhdiaaaGreat
namespace Go.Proofs.YtichfhpgdhdiaaaGreat
section
variable {P:Program}{ops:Array Oper}{Q:Exit→Act→World→Prop}{md:Region.Mode}{S:World→Prop}{z:Nat}
theorem yV{i j:Nat}{oi oj:Oper}{f:Nat}{listed:Array Bool}{a:Act}{w:World}(hi:ops[i]?=some oi)(hj:ops[j]?=some oj)(hr:Region.ready md ops listed = [i,j])(hwi:Region.wanted oi (yielded ops a.tmps)=true)(hwj:Region.wanted oj (yielded ops a.tmps)=true)(h1:∀K:Act→World→Prop,(∀a' w',S w'→kF P md ops Q S z f (listed.setIfInBounds i true) a' w'→K a' w')→Oper.wp P oi a w K Q)(h2:∀K:Act→World→Prop,(∀a' w',S w'→kF P md ops Q S z f (listed.setIfInBounds j true) a' w'→K a' w')→Oper.wp P oj a w K Q):kF P md ops Q S z (f+1) listed a w:=fun hcl hk=>by
 refine⟨fun h0=>(by rw[hr]at h0;cases h0),fun k hk'=>?_⟩;have hk2:=hk';rw[hr]at hk';rcases bC.1 hk' with rfl|hk'
 ·refine wpOp_step hi fun K hK=>?_
  rw[if_pos hwi];exact h1 K fun a' w' hS h'=>hK a' w' ⟨.inr hS,h' (hcl.set hk2) (.inr hS)⟩
 ·obtain rfl:k=j:=by simpa using hk'
  refine wpOp_step hj fun K hK=>?_
  rw[if_pos hwj];exact h2 K fun a' w' hS h'=>hK a' w' ⟨.inr hS,h' (hcl.set hk2) (.inr hS)⟩
end
theorem abW{c:Prop}[Decidable c]{X:Prop}(hc:c)(h:if c then X else False):X:=by rw[if_pos hc]at h;exact h
end Go.Proofs.YtichfhpgdhdiaaaGreat
namespace Go.Proofs.YtichfhpgdhdiaaaGreat
open Go.RowKit
structure mM(t:TypeId)(B h:Nat)(W W':World):Prop where
 size:W.heap.size≤W'.heap.size
 same:∀b o,b<B∨h≤b→W.heap[b]?=some o→(∀cs fz,o≠.cells cs t fz)→W'.heap[b]?=some o
 low:∀b o,b<B→W.heap[b]?=some o→W'.heap[b]?=some o
section
variable {t:TypeId}{B h:Nat}
theorem mM.refl(W:World):mM t B h W W:=⟨ak _,fun _ _ _ h _=>h,fun _ _ _ h=>h⟩
theorem mM.trans{a b c:World}(x:mM t B h a b)(y:mM t B h b c):mM t B h a c:=⟨aS x.size y.size,fun i o hi hl ho=>y.same i o hi (x.same i o hi hl ho) ho,fun i o hi hl=>y.low i o hi (x.low i o hi hl)⟩
theorem Ck{a b:World}(k:Below a.heap.size a b):mM t B h a b:=⟨k.size,fun i _ _ hl _=>(k.block i (ax.1 hl).1).trans hl,fun i _ _ hl=>(k.block i (ax.1 hl).1).trans hl⟩
theorem iT(W:World)(r:Nat)(o:Obj):(W.putObj r o).heap.size=W.heap.size:=by simp[World.putObj]
theorem mM.put{W:World}{r:Nat}{o o':Obj}(_:W.heap[r]?=some o)(h1:B≤r)(h2:r<h):mM t B h W (W.putObj r o') :=
 ⟨by rw[iT];exact ak _,fun b _ hb hl _=>(World.putObj_heap_other fZ ).trans hl,fun b _ hb hl=>(World.putObj_heap_other fZ ).trans hl⟩
theorem mM.mono{h':Nat}{W W':World}(k:mM t B h W W')(hh:h≤h'):mM t B h' W W':=⟨k.size,fun b o hb=>k.same b o fZ ,k.low⟩
theorem mM.blk{W W':World}{g:Nat}{t':TypeId}{cs:Array Value}(k:mM t B h W W')(hb:gV W g t' cs)(hg:g<B∨h≤g)(ht:t'≠t):gV W' g t' cs :=
 k.same g _ hg hb fun cs' fz e=>ht (by injection e)
end
def ownPost{α : Type}(tk:TypeId)(B h:Nat)(I:Nat→List α→World→Prop)(xs:List α)(W:World):Exit→Act→World→Prop
 |.normal,_,W'=>KeepsOthers W W'∧mM tk B h W W'∧I W'.heap.size xs W'
 |_,_,_=>False
theorem Io{α : Type}{P:Program}{n:Nat}{g:Operand}{ps:Array Tmp}{assign body:Code}{Q:Exit→Act→World→Prop}{a:Act}{w:World}{gf:Nat}{lb:Array Value}(hg:a.eval g=.func (.func gf) #[] lb)(eg:∀args w,(callFunc gf args).run P w=.ok (.enter gf args) w)(enc : α→Value)(hps:ps.size=1)(G:List α→α→Prop)(xs:List α)(tk:TypeId)(B:Nat)(I:Nat→List α→World→Prop)(hBw:B≤w.heap.size)(hIm:∀h h' pre W,h≤h'→I h pre W→I h' pre W)(Vx:∀h pre W W',Below W.heap.size W W'→I h pre W→I h pre W')(ME:∀h pre W r o o',w.heap.size≤r→I h pre W→W.heap[r]?=some o→o.isCells=false→I h pre (W.putObj r o'))(h0:I w.heap.size [] w)(hit:∀(l:Nat) (J:Nat→List α→World→Prop),(∀h pre W W',Below W.heap.size W W'→J h pre W→J h pre W')→(∀h h' pre W,h≤h'→J h pre W→J h' pre W) →
   (∀h pre x W,J h pre W→h≤W.heap.size→G pre x→YieldAt Fence.wide (n-1-1) P l #[enc x] W fun e W'=>e=.returned (.bool true)∧J W'.heap.size (pre++[x]) W'∧mM tk B h W W') →
   ∀W,Below w.heap.size w W→J W.heap.size [] W→CallsIn Fence.wide (n-1) P gf (#[.func (.yield l) #[] #[]]++lb) W fun e W'=>(∃v,e=.returned v)∧J W'.heap.size xs W')(up : α→World→World)(hup:∀x W,Below W.heap.size W (up x W))(a₁ : α→World→Act)(hassign:∀(l:Nat) (x : α) (W:World) (K:Act→World→Prop),K (a₁ x W) (up x W) →
   assign.wpIn (Fence.wide.inRound l) (n-1-1) P (Exit.then K (fun _ _ _=>False)) { tmps:=(ps.zip #[enc x]).foldl (fun t (p,v)=>t.setIfInBounds p v) a.tmps,defers:=[] } W)(hbody:∀(l h:Nat) (pre:List α) (x : α) (W W':World),w.heap.size+2≤h→h≤W.heap.size→(∃r o o',(up x W).heap[r]?=some o∧o.isCells=false∧W'=(up x W).putObj r o')→I h pre W'→G pre x →
   body.wpIn (Fence.wide.inRound l) (n-1-1) P (ownPost tk B h I (pre++[x]) W') (a₁ x W) W')(hdone:∀(D:Nat) (W:World),w.heap.size≤D→I W.heap.size xs W→W.heap[D]?=some (.deferred (some []))→Q .normal { a with defers:={ target:=.collected D,args:=#[] }::a.defers } W):
  (Code.rangeFunc g ps assign body).wpIn Fence.wide n P Q a w:=by
 refine wpIn_rangeFunc ?_;intro fn hfn;obtain⟨rec,hrec⟩:∃rec:LoopState→Option Code→Loop,rec=fun st pe=>{ state:=st,pending:=pe,fn,tmps:=a.tmps,params:=ps,assign,body,defers:=w.heap.size }:=⟨_,rfl⟩
 obtain⟨W1,hW1⟩:∃W1,(w.alloc (.deferred (some []))).alloc (.loop (rec .ready none))=W1:=⟨_,rfl⟩;have hL1:W1.heap[w.heap.size+1]?=some (.loop (rec .ready none)):=by
  rw[←hW1];have:=World.alloc_heap_new (w.alloc (.deferred (some []))) (.loop (rec .ready none));rwa [aJ]at this
 have hK1:W1.heap[w.heap.size]?=some (.deferred (some [])):=by
  rw[←hW1];exact(dK _ _ _ gu ).trans (World.alloc_heap_new w _)
 have hB1:Below w.heap.size w W1:=by rw[←hW1];exact((ah _ _).alloc (ak _) _).alloc gu _
 have hI1:I W1.heap.size [] W1:=hIm _ _ _ _ hB1.size (Vx _ _ _ _ hB1 h0);have hs1:w.heap.size+2≤W1.heap.size:=by have:=(ax.1 hL1).1;omega
 refine⟨w.heap.size+1,[{ target:=.collected w.heap.size,args:=#[] }],W1,{ target:=.fn (.func gf) lb,args:=#[.func (.yield (w.heap.size+1)) #[] #[]] },W1,gf,
  #[.func (.yield (w.heap.size+1)) #[] #[]]++lb, W1, ?_, ?_, fun _ _=>trivial, ?_, (fun h=>by cases h), ?_⟩
 ·rw[←hW1,hrec];exact run_enterLoop_outer _ _ _ _ _
 ·simp only[resolve,hg];simp[go_sem]
 ·simp[invoke,go_sem,eg]
 ·refine(hit (w.heap.size+1) (fun h pre W=>(I h pre W∧w.heap.size+2≤h)∧W.heap[w.heap.size+1]?=some (.loop (rec .ready none))∧W.heap[w.heap.size]?=some (.deferred (some [])))
   (fun h pre W W' hb h=>⟨⟨Vx _ _ _ _ hb h.1.1,h.1.2⟩,(hb.block _ (ax.1 h.2.1).1).trans h.2.1,(hb.block _ (ax.1 h.2.2).1).trans h.2.2⟩) (fun h h' pre W hle k=>⟨⟨hIm _ _ _ _ hle k.1.1,by omega⟩,k.2⟩) ?_ W1 hB1 ⟨⟨hI1,hs1⟩,hL1,hK1⟩).mono ?_
  ·rintro h pre x W ⟨⟨hi,hh⟩,hl,hk⟩ hhW hlen;have hlt:w.heap.size+1<W.heap.size:=(ax.1 hl).1;have hy:=run_yield (P:=P) (args:=#[enc x]) hl (by rw[hrec];exact hps.symm);rw[hrec]at hy;have om:=hup x W;have Iy:=(om.block _ hlt).trans hl;have oW:=(om.block _ (ax.1 hk).1).trans hk;have hi9:=Vx _ _ _ _ om hi;refine⟨fn,_,assign,body,hy,roundIn_of_wpIn hfn (hassign _ x W _ ⟨_,run_beginRound Iy (by rw[hrec]),?_⟩)⟩;have hu:∀o',∃r o o'',(up x W).heap[r]?=some o∧o.isCells=false∧(up x W).putObj (w.heap.size+1) o'=(up x W).putObj r o'':=fun o'=>⟨_,_,o',Iy,rfl,rfl⟩
   have Zj:w.heap.size+1<(up x W).heap.size:=(ax.1 Iy).1;have hT9:mM tk B h W (up x W):=Ck om;have hl2:((up x W).putObj (w.heap.size+1) (.loop { rec .ready none with state:=.busy })).heap[w.heap.size+1]?=some (.loop { rec .ready none with state:=.busy }):=World.putObj_heap_same Zj;have hk2:((up x W).putObj (w.heap.size+1) (.loop { rec .ready none with state:=.busy })).heap[w.heap.size]?=some (.deferred (some [])):=(World.putObj_heap_other fZ ).trans oW;have hb2:mM tk B h W ((up x W).putObj (w.heap.size+1) (.loop { rec .ready none with state:=.busy })):=hT9.trans (mM.put Iy fZ fZ )
   refine wpIn_mono (hbody _ h pre x W _ hh hhW (hu _) (ME _ _ _ _ _ _ fZ hi9 Iy rfl) hlen) ?_;rintro e a3 W3 hp;cases e with
   |normal =>
    obtain⟨hk3,hb3,hi3⟩:=hp;have hl3:=hk3.same _ _ hl2 rfl;have hr:=run_endRound (P:=P) none hl3;rw[hrec]at hr;refine⟨_,_,hr,rfl,⟨⟨by rw[iT];exact ME _ _ _ _ _ _ fZ hi3 hl3 rfl,?_⟩,?_,(World.putObj_heap_other fZ ).trans (hk3.same _ _ hk2 rfl)⟩,(hb2.trans hb3).trans (mM.put hl3 fZ fZ )⟩
    ·have:=(ax.1 hl3).1;rw[iT];omega
    rw[hrec];exact World.putObj_heap_same (ax.1 hl3).1
   |ret=>exact hp.elim
   |exit id=>exact hp.elim
   |goto t=>exact hp.elim
   |panic ch=>exact hp.elim
   |outgrown=>exact hp.elim
  ·rintro e W2 ⟨⟨v,rfl⟩,⟨hi,_⟩,hl,hk⟩;have:=run_endLoop (P:=P) hl (by rw[hrec];simp);rw[hrec]at this;exact⟨none,_,this,hdone w.heap.size _ (ak _) (by rw[iT];exact ME _ _ _ _ _ _ fZ hi hl rfl) ((World.putObj_heap_other fZ ).trans hk)⟩
end Go.Proofs.YtichfhpgdhdiaaaGreat
namespace Go.Proofs.YtichfhpgdhdiaaaGreat
open Go.RowKit
structure iZ(M:Nat→Prop)(h:Nat)(W W':World):Prop where
 size:W.heap.size≤W'.heap.size
 low:∀b o,b<h→¬M b→W.heap[b]?=some o→W'.heap[b]?=some o
section
variable {M:Nat→Prop}{h:Nat}
theorem iZ.refl(W:World):iZ M h W W:=⟨ak _,fun _ _ _ _ h=>h⟩
theorem iZ.trans{a b c:World}(x:iZ M h a b)(y:iZ M h b c):iZ M h a c:=⟨aS x.size y.size,fun i o hi hm hl=>y.low i o hi hm (x.low i o hi hm hl)⟩
theorem iK{a b:World}(k:Below a.heap.size a b):iZ M h a b:=⟨k.size,fun i _ _ _ hl=>(k.block i (ax.1 hl).1).trans hl⟩
theorem iZ.put{W:World}{r:Nat}{o':Obj}(h1:h≤r):iZ M h W (W.putObj r o') :=
 ⟨by rw[iT];exact ak _,fun b _ hb _ hl=>(World.putObj_heap_other fZ ).trans hl⟩
theorem iZ.set{W:World}{b o:Nat}{u:Value}(hm:M b):iZ M h W (W.setCell ⟨b,o,none⟩ u) :=
 ⟨by simp[World.setCell],fun i _ _ hn hl=>(bf W ⟨b,o,none⟩ u i (fun e=>hn (e▸hm))).trans hl⟩
theorem iZ.blk{W W':World}{g:Nat}{t:TypeId}{cs:Array Value}(k:iZ M h W W')(hb:gV W g t cs)(hg:g<h)(hm:¬M g):gV W' g t cs:=k.low g _ hg hm hb
end
def AQ(stop:Bool)(A B:Prop):Prop:=if stop=true then A else B
def Zk(M:Nat→Prop)(h:Nat)(I:World→Prop)(W:World):Exit→Act→World→Prop
 |.normal,_,W'=>KeepsOthers W W'∧iZ M h W W'∧I W'
 |_,_,_=>False
def WZ(M:Nat→Prop)(h:Nat)(I:World→Prop)(W:World):Exit→Act→World→Prop
 |.ret,_,W'=>KeepsOthers W W'∧iZ M h W W'∧I W'
 |_,_,_=>False
theorem xJ{α β : Type}{P:Program}{n:Nat}{g:Operand}{ps:Array Tmp}{assign body:Code}{Q:Exit→Act→World→Prop}{a:Act}{w:World}{gf:Nat}{lb:Array Value}(hg:a.eval g=.func (.func gf) #[] lb)(eg:∀args w,(callFunc gf args).run P w=.ok (.enter gf args) w)(hps:ps.size=2)(mk : β→Value×Value)(E : α→β→World→Prop)(Z : β→Prop)(hEp:∀x b W r o o',E x b W→W.heap[r]?=some o→o.isCells=false→E x b (W.putObj r o'))(M:Nat→Prop)(xs:List α)(stop:Bool)(I:List α→World→Prop)(Ix:World→Prop)(Vx:∀pre W W',Below W.heap.size W W'→I pre W→I pre W')(ME:∀pre W r o o',w.heap.size≤r→I pre W→W.heap[r]?=some o→o.isCells=false→I pre (W.putObj r o'))(Vy:∀W W',Below W.heap.size W W'→Ix W→Ix W')(hXp:∀W r o o',w.heap.size≤r→Ix W→W.heap[r]?=some o→o.isCells=false→Ix (W.putObj r o'))(h0:I [] w)(hit:∀(l:Nat) (J:List α→World→Prop) (Jx:World→Prop),(∀pre W W',Below W.heap.size W W'→J pre W→J pre W')→(∀W W',Below W.heap.size W W'→Jx W→Jx W') →
   (∀pre x b W,J pre W→pre++[x] <+: xs→E x b W→YieldAt Fence.wide (n-1-1) P l #[(mk b).1,(mk b).2] W fun e W'=>e=.returned (.bool true)∧J (pre++[x]) W'∧iZ M w.heap.size W W') →
   (∀b W,J xs W→stop=true→Z b→YieldAt Fence.wide (n-1-1) P l #[(mk b).1,(mk b).2] W fun e W'=>e=.returned (.bool false)∧Jx W'∧iZ M w.heap.size W W') →
   ∀W,Below w.heap.size w W→J [] W→CallsIn Fence.wide (n-1) P gf (#[.func (.yield l) #[] #[]]++lb) W fun e W'=>(∃v,e=.returned v)∧AQ stop (Jx W') (J xs W'))(a₁ : β→Act)(hassign:∀(l:Nat) (b : β) (W:World) (K:Act→World→Prop),K (a₁ b) W →
   assign.wpIn (Fence.wide.inRound l) (n-1-1) P (Exit.then K (fun _ _ _=>False)) { tmps:=(ps.zip #[(mk b).1,(mk b).2]).foldl (fun t (p,v)=>t.setIfInBounds p v) a.tmps,defers:=[] } W)(hbody:∀(l:Nat) (pre:List α) (x : α) (b : β) (W:World),w.heap.size+2≤W.heap.size→I pre W→pre++[x] <+: xs→E x b W→body.wpIn (Fence.wide.inRound l) (n-1-1) P (Zk M w.heap.size (I (pre++[x])) W) (a₁ b) W)(hbad:∀(l:Nat) (b : β) (W:World),w.heap.size+2≤W.heap.size→I xs W→stop=true→Z b→body.wpIn (Fence.wide.inRound l) (n-1-1) P (WZ M w.heap.size Ix W) (a₁ b) W)(hdone:∀(D:Nat) (W:World),w.heap.size≤D→stop=false→I xs W→W.heap[D]?=some (.deferred (some []))→Q .normal { a with defers:={ target:=.collected D,args:=#[] }::a.defers } W)(hstop:∀(D:Nat) (W:World),w.heap.size≤D→stop=true→Ix W→W.heap[D]?=some (.deferred (some []))→Code.ret.wpIn Fence.wide n P Q { a with defers:={ target:=.collected D,args:=#[] }::a.defers } W):
  (Code.rangeFunc g ps assign body).wpIn Fence.wide n P Q a w:=by
 refine wpIn_rangeFunc ?_;intro fn hfn;obtain⟨rec,hrec⟩:∃rec:LoopState→Option Code→Loop,rec=fun st pe=>{ state:=st,pending:=pe,fn,tmps:=a.tmps,params:=ps,assign,body,defers:=w.heap.size }:=⟨_,rfl⟩
 obtain⟨W1,hW1⟩:∃W1,(w.alloc (.deferred (some []))).alloc (.loop (rec .ready none))=W1:=⟨_,rfl⟩;have hL1:W1.heap[w.heap.size+1]?=some (.loop (rec .ready none)):=by
  rw[←hW1];have:=World.alloc_heap_new (w.alloc (.deferred (some []))) (.loop (rec .ready none));rwa [aJ]at this
 have hK1:W1.heap[w.heap.size]?=some (.deferred (some [])):=by
  rw[←hW1];exact(dK _ _ _ gu ).trans (World.alloc_heap_new w _)
 have hB1:Below w.heap.size w W1:=by rw[←hW1];exact((ah _ _).alloc (ak _) _).alloc gu _
 have hI1:I [] W1:=Vx _ _ _ hB1 h0;refine⟨w.heap.size+1,[{ target:=.collected w.heap.size,args:=#[] }],W1,{ target:=.fn (.func gf) lb,args:=#[.func (.yield (w.heap.size+1)) #[] #[]] },W1,gf,
  #[.func (.yield (w.heap.size+1)) #[] #[]]++lb, W1, ?_, ?_, fun _ _=>trivial, ?_, (fun h=>by cases h), ?_⟩
 ·rw[←hW1,hrec];exact run_enterLoop_outer _ _ _ _ _
 ·simp only[resolve,hg];simp[go_sem]
 ·simp[invoke,go_sem,eg]
 ·refine(hit (w.heap.size+1) (fun pre W=>I pre W∧W.heap[w.heap.size+1]?=some (.loop (rec .ready none))∧W.heap[w.heap.size]?=some (.deferred (some [])))
   (fun W=>Ix W∧W.heap[w.heap.size+1]?=some (.loop (rec .done (some .ret)))∧W.heap[w.heap.size]?=some (.deferred (some [])))
   (fun pre W W' hb h=>⟨Vx _ _ _ hb h.1,(hb.block _ (ax.1 h.2.1).1).trans h.2.1,(hb.block _ (ax.1 h.2.2).1).trans h.2.2⟩)
   (fun W W' hb h=>⟨Vy _ _ hb h.1,(hb.block _ (ax.1 h.2.1).1).trans h.2.1,(hb.block _ (ax.1 h.2.2).1).trans h.2.2⟩) ?_ ?_ W1 hB1 ⟨hI1,hL1,hK1⟩).mono ?_
  ·rintro pre x b W ⟨hi,hl,hk⟩ hpre hx;have hlt:w.heap.size+1<W.heap.size:=(ax.1 hl).1;have hy:=run_yield (P:=P) (args:=#[(mk b).1,(mk b).2]) hl (by rw[hrec];exact hps.symm);rw[hrec]at hy;refine⟨fn,_,assign,body,hy,roundIn_of_wpIn hfn (hassign _ b W _ ⟨_,run_beginRound hl (by rw[hrec]),?_⟩)⟩;have hl2:(W.putObj (w.heap.size+1) (.loop { rec .ready none with state:=.busy })).heap[w.heap.size+1]?=some (.loop { rec .ready none with state:=.busy }):=World.putObj_heap_same hlt;have hk2:(W.putObj (w.heap.size+1) (.loop { rec .ready none with state:=.busy })).heap[w.heap.size]?=some (.deferred (some [])):=(World.putObj_heap_other fZ ).trans hk
   refine wpIn_mono (hbody _ pre x b _ (by rw[iT];omega) (ME _ _ _ _ _ fZ hi hl rfl) hpre (hEp _ _ _ _ _ _ hx hl rfl)) ?_;rintro e a3 W3 hp;cases e with
   |normal =>
    obtain⟨hk3,hb3,hi3⟩:=hp;have hl3:=hk3.same _ _ hl2 rfl;have hr:=run_endRound (P:=P) none hl3;rw[hrec]at hr;refine⟨_,_,hr,rfl,⟨ME _ _ _ _ _ fZ hi3 hl3 rfl,?_,(World.putObj_heap_other fZ ).trans (hk3.same _ _ hk2 rfl)⟩,((iZ.put fZ ).trans hb3).trans (iZ.put fZ )⟩;rw[hrec];exact World.putObj_heap_same (ax.1 hl3).1
   |ret=>exact hp.elim
   |exit id=>exact hp.elim
   |goto t=>exact hp.elim
   |panic ch=>exact hp.elim
   |outgrown=>exact hp.elim
  ·rintro b W ⟨hi,hl,hk⟩ hst hx;have hlt:w.heap.size+1<W.heap.size:=(ax.1 hl).1;have hy:=run_yield (P:=P) (args:=#[(mk b).1,(mk b).2]) hl (by rw[hrec];exact hps.symm);rw[hrec]at hy;refine⟨fn,_,assign,body,hy,roundIn_of_wpIn hfn (hassign _ b W _ ⟨_,run_beginRound hl (by rw[hrec]),?_⟩)⟩;have hl2:(W.putObj (w.heap.size+1) (.loop { rec .ready none with state:=.busy })).heap[w.heap.size+1]?=some (.loop { rec .ready none with state:=.busy }):=World.putObj_heap_same hlt;have hk2:(W.putObj (w.heap.size+1) (.loop { rec .ready none with state:=.busy })).heap[w.heap.size]?=some (.deferred (some [])):=(World.putObj_heap_other fZ ).trans hk
   refine wpIn_mono (hbad _ b _ (by rw[iT];omega) (ME _ _ _ _ _ fZ hi hl rfl) hst hx) ?_;rintro e a3 W3 hp;cases e with
   |ret =>
    obtain⟨hk3,hb3,hi3⟩:=hp;have hl3:=hk3.same _ _ hl2 rfl;have hr:=run_endRound (P:=P) (some .ret) hl3;rw[hrec]at hr;refine⟨_,_,hr,rfl,⟨hXp _ _ _ _ fZ hi3 hl3 rfl,?_,(World.putObj_heap_other fZ ).trans (hk3.same _ _ hk2 rfl)⟩,((iZ.put fZ ).trans hb3).trans (iZ.put fZ )⟩;rw[hrec];exact World.putObj_heap_same (ax.1 hl3).1
   |normal=>exact hp.elim
   |exit id=>exact hp.elim
   |goto t=>exact hp.elim
   |panic ch=>exact hp.elim
   |outgrown=>exact hp.elim
  ·rintro e W2 ⟨⟨v,rfl⟩,hW⟩;cases stop with
   |false =>
    obtain⟨hi,hl,hk⟩:I xs W2∧_:=by simpa [AQ] using hW
    have:=run_endLoop (P:=P) hl (by rw[hrec];simp);rw[hrec]at this;exact⟨none,_,this,hdone w.heap.size _ (ak _) rfl (ME _ _ _ _ _ fZ hi hl rfl) ((World.putObj_heap_other fZ ).trans hk)⟩
   |true =>
    obtain⟨hi,hl,hk⟩:Ix W2∧_:=by simpa [AQ] using hW
    have:=run_endLoop (P:=P) hl (by rw[hrec];simp);rw[hrec]at this;exact⟨some .ret,_,this,hstop w.heap.size _ (ak _) rfl (hXp _ _ _ _ fZ hi hl rfl) ((World.putObj_heap_other fZ ).trans hk)⟩
end Go.Proofs.YtichfhpgdhdiaaaGreat
namespace Go.Proofs.YtichfhpgdhdiaaaGreat
open Go.RowKit
theorem qE{F:Fence}{k:Nat}{P:Program}(w:World){ops:Array Oper}{rest:List Oper}{o:Oper}{a:Act}{Q:Exit→Act→World→Prop}(hgd:o.guard=none)(s x:Operand)(t:TypeId)(ho:o.op=.call { callee:=.builtin .append,args:=#[s,x],argTypes:=#[t,t] })(base:Nat)(e:TypeId)(i:TypeInfo)(z:Value)(size bytes:Nat)(ht:P.underlying t=some (.slice e))(hi:P.info? e=some i)(hz:i.zero=some z)(hsize:i.size=size)(hby:i.bytes=bytes)(hzs:z.cells.size=size)(hsz:0<size)(v:Value)(n:Nat)(xs:List Value)(hs:a.eval s=v)(hown:w.ownsRow base e size v n xs)(A:Option Addr)(m c:Nat)(news:List Value)(hx:a.eval x=.slice A m c)(hl:news.length=m*size)(hr:iM w A news)(h1:∀u∈news,u.oneCell'=true)(h63:n+m≤9223372036854775807)(hbytes:(n+m)*bytes≤140737488355328)(hbase:base≤w.heap.size)(h:∀v' w',w'.ownsRow base e size v' (n+m) (xs++news)→w.grownBy w' v.ownBlock→(v'.ownBlock=v.ownBlock∨v'.ownBlock=some w.heap.size)→wpListIn F k P ops Q rest (a.put o.dst v') w'):
  wpListIn F k P ops Q (o::rest) a w:=by
 refine wpListIn_plain hgd fun K hK=>?_
 have h63':n+m≤maxLen:=by unfold maxLen;omega
 rcases A with _|ad
 ·have hn:news = []:=by
   cases news with
   |nil=>rfl
   |cons u us =>
    obtain⟨_,_,e,_⟩:=hr 0 u rfl;cases e
  subst hn;have hm:m=0:=by
   have h2:m*size=0:=hl.symm;rcases Nat.mul_eq_zero.1 h2 with h|h
   ·exact h
   ·omega
  subst hm;have hrun:(Builtin.append_ #[t,t] o.type #[v,.slice none 0 c]).run P w=.ok v w:=by
   rcases hown.2 with ⟨rfl,rfl⟩|⟨g,cap,cur,rfl,_,_,hnc,_⟩
   ·simp[Builtin.append_,run_underlying ht,sizeOf,typeInfo,hi,Builtin.lenOf,Builtin.firstCells]
   ·simp[Builtin.append_,run_underlying ht,sizeOf,typeInfo,hi,Builtin.lenOf,Builtin.firstCells,hnc,storeCells]
  unfold Oper.wpIn;refine⟨?_,?_⟩
  ·simp[Oper.about,ho,resolve,Target.leads,Sem.run_pure]
  ·rw[Oper.semAt_plain F _ _ (by rw[ho];intro c hc';cases hc')];simp[execOp,ho,resolve,invoke,builtin,hs,hx,hrun,Result.andThen];exact hK _ _ (h v w (by simpa using hown) (World.grownBy.refl w _) (.inl rfl))
 ·obtain⟨v',w',hrun,r1,r2,_,r3⟩:=run_append_own_at (P:=P) w base t o.type e i z size bytes ht hi hz hsize hby hzs hsz v n xs hown ad m c news hl hr.kit h1 h63' hbytes hbase;unfold Oper.wpIn;refine⟨?_,?_⟩
  ·simp[Oper.about,ho,resolve,Target.leads,Sem.run_pure]
  ·rw[Oper.semAt_plain F _ _ (by rw[ho];intro c hc';cases hc')];simp[execOp,ho,resolve,invoke,builtin,hs,hx,hrun,Result.andThen];exact hK _ _ (h v' w' r1 r2 r3)
end Go.Proofs.YtichfhpgdhdiaaaGreat
namespace Go.Proofs.YtichfhpgdhdiaaaGreat
open Go.RowKit
section
variable {P:Program}{ops:Array Oper}{Q:Exit→Act→World→Prop}{md:Region.Mode}
theorem Ei:∀(f f':Nat) (listed:Array Bool) (a:Act) (w:World),f≤f'→wpAny P md ops Q f listed a w→wpAny P md ops Q f' listed a w
 |0,0,_,_,_,_,h=>h
 |0,f'+1,_,_,_,_,h=>⟨fun _=>h.2,fun i hi=>by rw[h.1]at hi;cases hi⟩
 |f+1,0,_,_,_,hl,_=>by omega
 |f+1,f'+1,_,_,_,hl,h=>⟨h.1,fun i hi=>wpOp_mono (fun a' w' h'=>Ei f f' _ a' w' fZ h') (h.2 i hi)⟩
def jW(ops:Array Oper)(i:Nat):Option Tmp:=(ops[i]?).bind (·.dst)
structure Zl(ops:Array Oper)(m:Nat)(φ : Nat→Value→World→Prop)(a0:Act)(w0:World)(listed:Array Bool)(a:Act)(w:World):Prop where
 df:a.defers=a0.defers
 len:a.tmps.size=a0.tmps.size
 old:∀t,(∀i,i<m→listed.getD i false=true→jW ops i≠some t)→a.tmps[t]?=a0.tmps[t]?
 new:∀i d,i<m→listed.getD i false=true→jW ops i=some d→φ i (a.tmps.getD d undef) w
 late:∀i,m≤i→i<ops.size→listed.getD i true=false
 jM:Below w0.heap.size w0 w
def Iz(md:Region.Mode)(ops:Array Oper)(m:Nat)(o:Oper):Bool:=match o.guard with
 |none=>true
 |some (g,_)=>decide (g<m)&&(jW ops g).isSome&&o.after.any fun e=>Region.binds md e&&decide (e.on=g)
def uT(gv:Nat→Bool)(o:Oper):Bool:=match o.guard with
 |none=>true
 |some (g,want)=>gv g==want
theorem Ny{m:Nat}{gv:Nat→Bool}{o:Oper}{tm:Array Value}(h:Iz md ops m o=true)(hy:∀g want d,o.guard=some (g,want)→g<m→(∃e∈o.after,Region.binds md e=true∧e.on=g)→jW ops g=some d→tm[d]?=some (.bool (gv g))):Region.wanted o (yielded ops tm)=uT gv o:=by
 unfold Region.wanted uT;unfold Iz at h;cases hg:o.guard with
 |none=>rfl
 |some q =>
  obtain⟨g,want⟩:=q;rw[hg]at h;simp only[aK,decide_eq_true_eq,bY]at h;obtain⟨⟨h1,h2⟩,e,he,hb,hon⟩:=h;obtain⟨d,hd⟩:=Option.isSome_iff_exists.1 h2;have:=hy g want d hg h1 ⟨e,he,hb,hon⟩ hd;have hyl:yielded ops tm g=some (gv g):=by
   unfold yielded;rw[show (ops[g]?).bind (·.dst)=some d from hd];simp[this]
  show (yielded ops tm g==some want)=(gv g==want);rw[hyl];rfl
def yg(md:Region.Mode)(ops:Array Oper)(m sz:Nat):Bool :=
 decide (m≤ops.size) &&
 (List.range ops.size).all fun i=>match ops[i]? with
  |none=>false
  |some o=>Iz md ops m o&&o.after.all (fun e=>!(Region.binds md e)||decide (e.on<i))&&(decide (i<m)||xI md ops i (List.range' m (i-m))) &&
   (decide (m≤i)||(match o.dst with|none=>true|some d=>decide (d<sz)&&(List.range m).all fun j=>decide (j=i)||decide (jW ops j≠some d)))
theorem BP{m g:Nat}{gv:Nat→Bool}{φ : Nat→Value→World→Prop}{a0:Act}{w0:World}(hB:yg md ops m a0.tmps.size=true)(hφ : ∀i v w w',φ i v w→Below w.heap.size w w'→φ i v w')(hG:∀i o q want,i<m→ops[i]?=some o→o.guard=some (q,want)→∀v w,φ q v w→v=.bool (gv q))(Tk:∀i o w,i<m→ops[i]?=some o→uT gv o=false→φ i undef w)(hstep:∀i o,i<m→ops[i]?=some o→uT gv o=true→∀a w,a.defers=a0.defers→a.tmps.size=a0.tmps.size→(∀t,(∀j,j<m→jW ops j≠some t)→a.tmps[t]?=a0.tmps[t]?)→Below w0.heap.size w0 w →
   (∀j d,j<m→(o.after.any fun e=>Region.binds md e&&decide (e.on=j))=true→jW ops j=some d→φ j (a.tmps.getD d undef) w) →
   ∀K:Act→World→Prop,(∀v w',φ i v w'→Below w.heap.size w w'→K (a.put o.dst v) w')→o.wp P a w K Q)(hfin:∀listed a w,listed.size=ops.size→Zl ops m φ a0 w0 listed a w→(∀i,i<m→listed.getD i false=true)→rC md ops listed→wpAny P md ops Q g listed a w):
  ∀(c:Nat) (L:List Nat) (listed:Array Bool) (a:Act) (w:World),L.length=c→(∀i,i<m→listed.getD i true=false→i∈L)→listed.size=ops.size→Zl ops m φ a0 w0 listed a w→rC md ops listed →
   wpAny P md ops Q (c+g) listed a w:=by
 simp only[yg,aK,bV,decide_eq_true_eq]at hB;obtain⟨hm2,hall⟩:=hB;have sJ:∀i o,ops[i]?=some o→Iz md ops m o=true∧(∀e∈o.after,Region.binds md e=true→e.on<i)∧(i<m∨xI md ops i (List.range' m (i-m))=true)∧(i<m→∀d,o.dst=some d→d<a0.tmps.size∧∀j,j<m→j≠i→jW ops j≠some d):=by
  intro i o ho;have hi:=(ax.1 ho).1;have h:=bN.1 hall i (bK.2 hi);rw[ho]at h;simp only[aK,bV,decide_eq_true_eq,fI,bY,fO]at h;obtain⟨⟨⟨h1,h2⟩,h3⟩,h4⟩:=h;refine⟨h1,?_,h3,?_⟩
  ·intro e he hbi;rcases h2 e he with h5|h5
   ·rw[hbi]at h5;cases h5
   ·exact h5
  ·intro him d hd;rcases h4 with h4|h4
   ·omega
   ·rw[hd]at h4;simp only[aK,decide_eq_true_eq,bN,bK,bV]at h4;exact⟨h4.1,fun j hj hne=>(h4.2 j hj).resolve_left hne⟩
 have both:∀(listed:Array Bool) (i:Nat),listed.size=ops.size→i<ops.size→listed.getD i false=false→listed.getD i true=false:=fun listed i h1 h2 h3=>by
  simp only[aD,bg (show i<listed.size by omega),dh]at h3 ⊢;exact h3
 intro c
 induction c with
 |zero =>
  intro L listed a w hL hun hls hp hcl;have hnil:L = []:=bL.1 hL;subst hnil;rw[bH];refine hfin listed a w hls hp (fun i hi=>?_) hcl;cases hx:listed.getD i false with
  |true=>rfl
  |false=>exact absurd (hun i hi (both listed i hls fZ hx)) gu
 |succ c ih =>
  intro L listed a w hL hun hls hp hcl;by_cases h:∃i,i<m∧listed.getD i true=false
  ·obtain⟨i0,hi0,hu0⟩:=h;rw[show c+1+g=(c+g)+1 by omega];refine⟨fun hr=>?_,fun i hi=>?_⟩
   ·exfalso;have key:∀i,i<m→listed.getD i true=true:=by
     intro i
     induction i using Nat.strongRecOn with
     |_ i ihh =>
      intro him;cases hx:listed.getD i true with
      |true=>rfl
      |false =>
       obtain⟨o,ho⟩:∃o,ops[i]?=some o:=⟨_,bg fZ ⟩;have:i∈Region.ready md ops listed:=mem_ready.2 ⟨hx,o,ho,fun e he hbi=>by
        have hlt:=(sJ i o ho).2.1 e he hbi;have h1:=ihh e.on hlt fZ ;cases hy:listed.getD e.on false with
        |true=>rfl
        |false=>rw[both listed e.on hls fZ hy]at h1;cases h1⟩
       rw[hr]at this;cases this
    rw[key i0 hi0]at hu0;cases hu0
   ·obtain⟨Zm,oi,hoi,gK⟩:=mem_ready.1 hi;obtain⟨c1,c2,c3,c4⟩:=sJ i oi hoi;have hil:=(ax.1 hoi).1;have him:i<m:=by
     rcases c3 with h3|h3
     ·exact h3
     ·rcases aP i m with h5|h5
      ·exact h5
      ·exfalso;have h6:=hcl.all (skip:=List.range' m (i-m)) h3 (fun oz WY e' he' hb'=>by
        obtain rfl:=aB (WY.symm.trans hoi);exact gK e' he' hb') (i-i0)
       have h8:=h6 i0 rfl fZ (by
        have hc:¬(i0∈List.range' m (i-m)):=fun hmem=>by have:=(List.mem_range'_1.1 hmem).1;omega
        simpa using hc)
       rw[getD_both hu0]at h8;cases h8
    have hw:Region.wanted oi (yielded ops a.tmps)=uT gv oi:=Ny c1 fun g want d hgw hg ⟨e,he,hb,hon⟩ hd=>by
     have h1:=gK e he hb;rw[hon]at h1;have h2:=hp.new g d hg h1 hd;have h3:a.tmps.getD d undef=.bool (gv g):=hG i oi g want him hoi hgw _ _ h2;rw[aD]at h3;cases hx:a.tmps[d]? with
     |none=>rw[hx]at h3;cases h3
     |some u=>rw[hx]at h3;exact congrArg some h3
    have hgo:∀K:Act→World→Prop,(∀a' w',wpAny P md ops Q (c+g) (listed.setIfInBounds i true) a' w'→K a' w')→∀v w',φ i v w'→Below w.heap.size w w'→K (a.put oi.dst v) w':=fun K hK v w' hv hb=>by
     refine hK _ _ (ih (L.erase i) _ _ _ ?_ ?_ ?_ ?_ (hcl.set hi))
     ·rw[dU (hun i him Zm),hL];rfl
     ·intro j hj hjun;have hji:j≠i:=by
       rintro rfl;have hlt:j<listed.size:=by omega
       simp[aD,aL,hlt]at hjun
      rw[getD_set_ne true (fe hji)]at hjun;exact(List.mem_erase_of_ne hji).2 (hun j hj hjun)
     ·rw[bI];exact hls
     ·have hdi:jW ops i=oi.dst:=by unfold jW;rw[hoi];rfl
      have hset:∀j,j≠i→(listed.setIfInBounds i true).getD j false=listed.getD j false:=fun j hj=>getD_set_ne false (fe hj)
      have hsi:(listed.setIfInBounds i true).getD i false=true:=by
       have hlt:i<listed.size:=by omega
       simp[aD,aL,hlt]
      have hput:∀t,oi.dst≠some t→(a.put oi.dst v).tmps[t]?=a.tmps[t]?:=by
       intro t ht;cases hdo:oi.dst with
       |none=>rfl
       |some d =>
        rw[hdo]at ht;show (a.tmps.setIfInBounds d v)[t]?=_;rw[aL,if_neg (fun e=>ht (by rw[e]))]
      refine⟨?_,?_,?_,?_,?_,hp.jM.trans (hb.mono hp.jM.size)⟩
      ·cases oi.dst<;>exact hp.df
      ·cases oi.dst with
       |none=>exact hp.len
       |some d=>show (a.tmps.setIfInBounds d v).size=_;rw[bI];exact hp.len
      ·intro t ht;rw[hput t (by rw[←hdi];exact ht i him hsi)];refine hp.old t fun j hj hlj=>?_
       by_cases hji:j=i
       ·subst hji;exact ht j hj hsi
       ·exact ht j hj (by rw[hset j hji];exact hlj)
      ·intro j d hj hlj hdj;by_cases hji:j=i
       ·subst hji;rw[hdi]at hdj;have hds:=(c4 him d hdj).1;have:(a.put oi.dst v).tmps.getD d undef=v:=by
         rw[hdj];show (a.tmps.setIfInBounds d v).getD d undef=v;have hlt:d<a.tmps.size:=by rw[hp.len];exact hds
         simp[aD,aL,hlt]
        rw[this];exact hv
       ·have hne:oi.dst≠some d:=fun e=>(c4 him d e).2 j hj hji hdj
        have e1:(a.put oi.dst v).tmps.getD d undef=a.tmps.getD d undef:=by
         simp only[aD,hput d hne]
        rw[e1];exact hφ j _ w w' (hp.new j d hj (by rw[←hset j hji];exact hlj) hdj) hb
      ·intro j hj hjs;rw[getD_set_ne true fZ ];exact hp.late j hj hjs
    refine wpOp_step hoi fun K hK=>?_
    by_cases hon:uT gv oi=true
    ·rw[if_pos (hw.trans hon)];refine hstep i oi him hoi hon a w hp.df hp.len (fun t ht=>hp.old t fun j hj _=>ht j hj) hp.jM (fun j d hj hd hdj=>?_) K (hgo K hK);simp only[bY,aK,decide_eq_true_eq]at hd;obtain⟨e,he,hbi,hon⟩:=hd;have h1:=gK e he hbi;rw[hon]at h1;exact hp.new j d hj h1 hdj
    ·rw[if_neg (fun h=>hon (hw.symm.trans h))];exact hgo K hK undef w (Tk i oi w him hoi (by simpa using hon)) gD
  ·refine Ei g _ _ _ _ fZ (hfin listed a w hls hp (fun i hi=>?_) hcl);cases hx:listed.getD i false with
   |true=>rfl
   |false=>exact absurd ⟨i,hi,both listed i hls fZ hx⟩ h
def vC(m n:Nat):Array Bool:=(Array.range n).map fun i=>decide (i<m)
theorem AU{m n:Nat}{listed:Array Bool}(hs:listed.size=n)(h1:∀i,i<m→listed.getD i false=true)(h2:∀i,m≤i→i<n→listed.getD i true=false):listed=vC m n:=by
 apply Array.ext
 ·simp[vC,hs]
 ·intro i hi1 hi2;have e:(vC m n)[i]=decide (i<m):=by simp[vC]
  rw[e];by_cases him:i<m
  ·have:=h1 i him;simp only[aD,bg hi1,dh]at this;rw[this];simp[him]
  ·have:=h2 i fZ fZ ;simp only[aD,bg hi1,dh]at this;rw[this];simp[him]
theorem nZ{id:Nat}{a0:Act}{w:World}(hm:P.follows .mixedOrders=true)(m:Nat)(φ : Nat→Value→World→Prop)(z:Nat)(hB:yg .any ops m a0.tmps.size=true)(hφ : ∀i v w w',φ i v w→Below w.heap.size w w'→φ i v w')(gv:Nat→Bool)(hG:∀i o q want,i<m→ops[i]?=some o→o.guard=some (q,want)→∀v w,φ q v w→v=.bool (gv q))(Tk:∀i o w,i<m→ops[i]?=some o→uT gv o=false→φ i undef w)(hstep:∀i o,i<m→ops[i]?=some o→uT gv o=true→∀a w1,a.defers=a0.defers→a.tmps.size=a0.tmps.size→(∀t,(∀j,j<m→jW ops j≠some t)→a.tmps[t]?=a0.tmps[t]?)→Below w.drew.heap.size w.drew w1 →
   (∀j d,j<m→(o.after.any fun e=>Region.binds .any e&&decide (e.on=j))=true→jW ops j=some d→φ j (a.tmps.getD d undef) w1) →
   ∀K:Act→World→Prop,(∀v w',φ i v w'→Below w1.heap.size w1 w'→K (a.put o.dst v) w')→o.wp P a w1 K (NoPanic Q))(hfin:∀a w1,a.defers=a0.defers→a.tmps.size=a0.tmps.size→(∀t,(∀j,j<m→jW ops j≠some t)→a.tmps[t]?=a0.tmps[t]?)→Below w.drew.heap.size w.drew w1→(∀j d,j<m→jW ops j=some d→φ j (a.tmps.getD d undef) w1) →
   kF P .any ops (NoPanic Q) (fun _=>True) z (ops.size-m) (vC m ops.size) a w1):(Code.region id ops true).wp P Q a0 w:=by
 refine wp_region_noPanic <| wp_region_any hm ?_
 have hm2:m≤ops.size:=by
  simp only[yg,aK,decide_eq_true_eq]at hB;exact hB.1
 have h:=BP (P:=P) (md:=.any) (Q:=NoPanic Q) (g:=ops.size-m) hB hφ hG Tk hstep (fun listed a w1 hls hp hl hcl=>?_) m (List.range m) (Array.replicate ops.size false) a0 w.drew gu (fun i hi _=>bK.2 hi) gu
  ⟨rfl,rfl,fun _ _=>rfl,fun i d hi hl=>(by rw[getD_replicate_false]at hl;cases hl),fun i h1 h2=>getD_in (by simpa using h2) (getD_replicate_false _ _),ah _ _⟩ (oG _)
 ·rw[show m+(ops.size-m)=ops.size by omega]at h;exact h
 ·have e:=AU hls hl hp.late;have hA:=hfin a w1 hp.df hp.len (fun t ht=>hp.old t fun j hj _=>ht j hj) hp.jM (fun j d hj hd=>hp.new j d hj (hl j hj) hd);rw[e]at hcl ⊢;exact pz _ _ _ _ (hA hcl (.inr trivial))
def Ej(md:Region.Mode)(ops:Array Oper)(m sz:Nat):Bool:=yg md ops m sz&&(List.range ops.size).all fun i=>match ops[i]? with|none=>true|some o=>o.guard.isNone
theorem yh{m sz:Nat}(h:Ej md ops m sz=true){i:Nat}{o:Oper}(ho:ops[i]?=some o):o.guard=none:=by
 unfold Ej at h;rw[aK]at h;have:=bN.1 h.2 i (bK.2 (ax.1 ho).1);rw[ho]at this;simpa using this
theorem IA{m sz:Nat}(h:Ej md ops m sz=true):yg md ops m sz=true:=by
 unfold Ej at h;rw[aK]at h;exact h.1
theorem KM{m sz:Nat}(h:Ej md ops m sz=true){i:Nat}{o:Oper}(ho:ops[i]?=some o){gv:Nat→Bool}(hon:uT gv o=false):False:=by
 unfold uT at hon;rw[yh h ho]at hon;cases hon
theorem iN{id:Nat}{a0:Act}{w:World}(hm:P.follows .mixedOrders=true)(m:Nat)(φ : Nat→Value→World→Prop)(z:Nat)(hB:Ej .any ops m a0.tmps.size=true)(hφ : ∀i v w w',φ i v w→Below w.heap.size w w'→φ i v w')(hstep:∀i o,i<m→ops[i]?=some o→∀a w1,a.defers=a0.defers→a.tmps.size=a0.tmps.size→(∀t,(∀j,j<m→jW ops j≠some t)→a.tmps[t]?=a0.tmps[t]?)→Below w.drew.heap.size w.drew w1 →
   (∀j d,j<m→(o.after.any fun e=>Region.binds .any e&&decide (e.on=j))=true→jW ops j=some d→φ j (a.tmps.getD d undef) w1) →
   ∀K:Act→World→Prop,(∀v w',φ i v w'→Below w1.heap.size w1 w'→K (a.put o.dst v) w')→o.wp P a w1 K (NoPanic Q))(hfin:∀a w1,a.defers=a0.defers→a.tmps.size=a0.tmps.size→(∀t,(∀j,j<m→jW ops j≠some t)→a.tmps[t]?=a0.tmps[t]?)→Below w.drew.heap.size w.drew w1→(∀j d,j<m→jW ops j=some d→φ j (a.tmps.getD d undef) w1) →
   kF P .any ops (NoPanic Q) (fun _=>True) z (ops.size-m) (vC m ops.size) a w1):(Code.region id ops true).wp P Q a0 w :=
 nZ hm m φ z (IA hB) hφ (fun _=>true) (fun _ _ _ _ _ ho hg=>by rw[yh hB ho]at hg;cases hg) (fun _ _ _ _ ho hon=>(KM hB ho hon).elim) (fun i o hi ho _=>hstep i o hi ho) hfin
end
theorem xK(f:Nat→Value):∀(ds:List Nat) (t:Array Value) (k:Nat),k<t.size→(ds.foldl (fun t d=>t.setIfInBounds d (f d)) t)[k]?=if k∈ds then some (f k)else t[k]?
 |[],t,k,hk=>by simp
 |d::ds,t,k,hk=>by
  rw[eU,xK f ds _ k (by rw[bI];exact hk)];by_cases h1:k∈ds
  ·rw[if_pos h1,if_pos (List.mem_cons_of_mem _ h1)]
  ·rw[if_neg h1];by_cases h2:k=d
   ·subst h2;rw[if_pos dR,aL,if_pos rfl,if_pos hk]
   ·rw[aL,if_neg (fe h2),if_neg (by simp[h1,h2])]
theorem vD(f:Nat→Value):∀(ds:List Nat) (t:Array Value),(ds.foldl (fun t d=>t.setIfInBounds d (f d)) t).size=t.size
 |[],t=>rfl
 |d::ds,t=>by rw[eU,vD f ds,bI]
theorem Tm{a a0:Act}(ds:List Nat)(hdf:a.defers=a0.defers)(hlen:a.tmps.size=a0.tmps.size)(hold:∀t,t∉ds→a.tmps[t]?=a0.tmps[t]?):
  a={ tmps:=ds.foldl (fun t d=>t.setIfInBounds d (a.tmps.getD d undef)) a0.tmps,defers:=a0.defers }:=by
 have h:a.tmps=ds.foldl (fun t d=>t.setIfInBounds d (a.tmps.getD d undef)) a0.tmps:=by
  apply Array.ext_getElem?;intro k;by_cases hk:k<a0.tmps.size
  ·rw[xK (fun d=>a.tmps.getD d undef) ds a0.tmps k hk];by_cases h1:k∈ds
   ·rw[if_pos h1,bg fZ ,aD,bg fZ ];rfl
   ·rw[if_neg h1,hold k h1]
  ·rw[eu fZ ,eu (by rw[vD];omega)]
 cases a;simp only at h hdf;rw[←hdf];simp only[Act.mk.injEq,and_true];exact h
end Go.Proofs.YtichfhpgdhdiaaaGreat
