/- The index in memory -/
import Derived.Test.YtichfhpgdhdiaaaGreatProg
import Derived.Test.YtichfhpgdhdiaaaGreatJ1
import Derived.Test.YtichfhpgdhdiaaaGreatJ3
set_option maxRecDepth 100000
set_option maxHeartbeats 8000000
set_option linter.unusedVariables false
set_option linter.unusedSimpArgs false
open Go.Proofs.Tryz
namespace Go.Proofs.YtichfhpgdhdiaaaGreat
open Go.RowKit
section
variable {α : Type}{f : α→List Value}{sz:Nat}
theorem lU(hf:∀x,(f x).length=sz):∀l:List α,(l.flatMap f).length=l.length*sz
 |[]=>by simp
 |x::l=>by rw[aG,aj,hf,lU hf l,aI,dx];omega
theorem flat_get(hf:∀x,(f x).length=sz):∀(l:List α) (i k:Nat) (x : α),l[i]?=some x→k<sz→(l.flatMap f)[i*sz+k]?=(f x)[k]?
 |[],i,k,x,h,hk=>by simp at h
 |y::l,0,k,x,h,hk=>by
  simp only[List.getElem?_cons_zero,Option.some.injEq]at h;subst h;rw[aG,fV,bH,aY (by rw[hf];exact hk)]
 |y::l,i+1,k,x,h,hk=>by
  rw[List.getElem?_cons_succ]at h;have e:(i+1)*sz+k=(f y).length+(i*sz+k):=by rw[hf,dx];omega
  rw[aG,e,bD fZ ,fw];exact flat_get hf l i k x h hk
theorem uX(hf:∀x,(f x).length=sz):∀(l:List α) (i k:Nat) (x x' : α) (u:Value),l[i]?=some x→k<sz→f x'=(f x).set k u→(l.flatMap f).set (i*sz+k) u=(l.set i x').flatMap f
 |[],i,k,x,x',u,h,hk,e=>by simp at h
 |y::l,0,k,x,x',u,h,hk,e=>by
  simp only[List.getElem?_cons_zero,Option.some.injEq]at h;subst h;rw[aG,fV,bH,List.set_append_left _ _ (by rw[hf];exact hk),List.set_cons_zero,aG,e]
 |y::l,i+1,k,x,x',u,h,hk,e=>by
  rw[List.getElem?_cons_succ]at h;have e1:(i+1)*sz+k=(f y).length+(i*sz+k):=by rw[hf,dx];omega
  rw[aG,e1,fD _ _ fZ ,fw,List.set_cons_succ,aG,uX hf l i k x x' u h hk e]
end
def mJ:Option Nat→Int
 |none=>-1
 |some n=>n
theorem nY:mJ none=-1:=rfl
theorem lC(n:Nat):mJ (some n)=n:=rfl
def Yn(x:Nd):List Value:=[.int .i64 x.len,.int .i64 (mJ x.link),.int .i64 x.fin,.int .i64 (mJ x.edge)]
def Wn(x:Ed):List Value:=[.int .u8 x.letter.toNat,.int .i64 x.tto,.int .i64 (mJ x.next)]
theorem zo(x:Nd):(Yn x).length=4:=rfl
theorem Cz(x:Ed):(Wn x).length=3:=rfl
def Ip(v:Value):Nat→Prop:=fun b=>v.ownBlock=some b
structure sN(w:World)(B g:Nat)(vn ve:Value)(ns:List Nd)(es:List Ed):Prop where
 box:gV w g 200 #[vn,ve]
 base:B≤g
 nodes:w.ownsRow B 196 4 vn ns.length (ns.flatMap Yn)
 ru:w.ownsRow B 238 3 ve es.length (es.flatMap Wn)
def xW(w:World)(B g:Nat)(ns:List Nd)(es:List Ed):Prop:=∃vn ve,sN w B g vn ve ns es
theorem zk{w:World}{B:Nat}{e:TypeId}{sz n:Nat}{v:Value}{xs:List Value}(h:w.ownsRow B e sz v n xs)(hn:0<n):∃g c,v=.slice (some ⟨g,0,none⟩) n c∧n≤c∧c≤maxLen∧B≤g∧g<w.heap.size:=by
 rcases h.2 with ⟨_,hx⟩|⟨g,cap,cur,rfl,hb,hg,hnc,hcm,hcs,htake⟩
 ·omega
 ·exact⟨g,cap,rfl,hnc,hcm,hb,(ax.1 hg).1⟩
section
variable {w w':World}{B g:Nat}{vn ve:Value}{ns:List Nd}{es:List Ed}
theorem sN.keep(h:sN w B g vn ve ns es)(k:Below w.heap.size w w'):sN w' B g vn ve ns es :=
 ⟨h.box.keep k,h.base,iY (M:=fun _=>False) h.nodes (fun _ _ h=>h) _ (jC k _),iY (M:=fun _=>False) h.ru (fun _ _ h=>h) _ (jC k _)⟩
theorem sN.lM(h:sN w B g vn ve ns es){v:Nat}{x:Nd}(hx:ns[v]?=some x):∃gn cn,vn=.slice (some ⟨gn,0,none⟩) ns.length cn∧v<ns.length∧ns.length≤cn∧cn≤maxLen ∧
  w.cell? ⟨gn,v*4,none⟩=some (.int .i64 x.len)∧w.cell? ⟨gn,v*4+1,none⟩=some (.int .i64 (mJ x.link))∧w.cell? ⟨gn,v*4+2,none⟩=some (.int .i64 x.fin)∧w.cell? ⟨gn,v*4+3,none⟩=some (.int .i64 (mJ x.edge)):=by
 have hv:=(ay.1 hx).1;have ho:=h.nodes;obtain⟨gn,cn,rfl,h1,h2,_,_⟩:=zk ho fZ ;refine⟨gn,cn,rfl,hv,h1,h2,?_,?_,?_,?_⟩
 ·have:=ho.cellAt (v*4) fZ ;rw[this,show v*4=v*4+0 by omega,flat_get zo ns v 0 x hx fZ ];rfl
 ·rw[ho.cellAt (v*4+1) fZ ,flat_get zo ns v 1 x hx fZ ];rfl
 ·rw[ho.cellAt (v*4+2) fZ ,flat_get zo ns v 2 x hx fZ ];rfl
 ·rw[ho.cellAt (v*4+3) fZ ,flat_get zo ns v 3 x hx fZ ];rfl
theorem sN.zi(h:sN w B g vn ve ns es){v:Nat}{x:Ed}(hx:es[v]?=some x):∃gn cn,ve=.slice (some ⟨gn,0,none⟩) es.length cn∧v<es.length∧es.length≤cn∧cn≤maxLen ∧
  w.cell? ⟨gn,v*3,none⟩=some (.int .u8 x.letter.toNat)∧w.cell? ⟨gn,v*3+1,none⟩=some (.int .i64 x.tto)∧w.cell? ⟨gn,v*3+2,none⟩=some (.int .i64 (mJ x.next)):=by
 have hv:=(ay.1 hx).1;have ho:=h.ru;obtain⟨gn,cn,rfl,h1,h2,_,_⟩:=zk ho fZ ;refine⟨gn,cn,rfl,hv,h1,h2,?_,?_,?_⟩
 ·have:=ho.cellAt (v*3) fZ ;rw[this,show v*3=v*3+0 by omega,flat_get Cz es v 0 x hx fZ ];rfl
 ·rw[ho.cellAt (v*3+1) fZ ,flat_get Cz es v 1 x hx fZ ];rfl
 ·rw[ho.cellAt (v*3+2) fZ ,flat_get Cz es v 2 x hx fZ ];rfl
theorem uh{e e':TypeId}{sz sz' n n':Nat}{v v':Value}{xs xs':List Value}(h:w.ownsRow B e sz v n xs)(h':w.ownsRow B e' sz' v' n' xs')(hne:e≠e'):∀b,v.ownBlock=some b→v'.ownBlock≠some b:=by
 intro b hb;rcases h.2 with ⟨rfl,_⟩|⟨g1,cap,cur,rfl,_,hg,_⟩
 ·simp[Value.ownBlock]at hb
 ·have e1:g1=b:=by simpa [Value.ownBlock] using hb
  subst e1;exact ig h' (t:=e) (cs:=cur) hg (fun e=>hne e.symm)
theorem sN.zf(h:sN w B g vn ve ns es){v k:Nat}{x x':Nd}{u:Value}(hx:ns[v]?=some x)(hk:k<4)(hu:Yn x'=(Yn x).set k u):∃gn cn,vn=.slice (some ⟨gn,0,none⟩) ns.length cn∧B≤gn∧gn<w.heap.size ∧
  w.frozen? ⟨gn,v*4+k,none⟩=false∧sN (w.setCell ⟨gn,v*4+k,none⟩ u) B g vn ve (ns.set v x') es:=by
 have hv:=(ay.1 hx).1;have ho:=h.nodes;obtain⟨gn,cn,rfl,h1,h2,h3,h4⟩:=zk ho fZ ;obtain⟨s1,s2⟩:=ho.stored (v*4+k) u;rw[uX zo ns v k x x' u hx hk hu]at s1;have hgn:g≠gn:=fun e=>ig ho h.box gm (by rw[e];rfl)
 refine⟨gn,cn,rfl,h3,h4,ho.frozenAt _,h.box.far (p:=⟨gn,v*4+k,none⟩) hgn u,h.base,by rw[aX];exact s1,?_⟩;exact iY (M:=fun b=>b=gn) h.ru (fun b hb e=>uh h.ru ho gm b hb (by rw[e];rfl)) _ (Agree.set1 w gn _ u)
theorem sN.Sn(h:sN w B g vn ve ns es){v k:Nat}{x x':Ed}{u:Value}(hx:es[v]?=some x)(hk:k<3)(hu:Wn x'=(Wn x).set k u):∃gn cn,ve=.slice (some ⟨gn,0,none⟩) es.length cn∧B≤gn∧gn<w.heap.size ∧
  w.frozen? ⟨gn,v*3+k,none⟩=false∧sN (w.setCell ⟨gn,v*3+k,none⟩ u) B g vn ve ns (es.set v x'):=by
 have hv:=(ay.1 hx).1;have ho:=h.ru;obtain⟨gn,cn,rfl,h1,h2,h3,h4⟩:=zk ho fZ ;obtain⟨s1,s2⟩:=ho.stored (v*3+k) u;rw[uX Cz es v k x x' u hx hk hu]at s1;have hgn:g≠gn:=fun e=>ig ho h.box gm (by rw[e];rfl)
 refine⟨gn,cn,rfl,h3,h4,ho.frozenAt _,h.box.far (p:=⟨gn,v*3+k,none⟩) hgn u,h.base,?_,by rw[aX];exact s1⟩;exact iY (M:=fun b=>b=gn) h.nodes (fun b hb e=>uh h.nodes ho gm b hb (by rw[e];rfl)) _ (Agree.set1 w gn _ u)
theorem sN.DL(h:sN w B g vn ve ns es){vn':Value}{x:Nd}(ho:w'.ownsRow B 196 4 vn' (ns.length+1) (ns.flatMap Yn++Yn x))(hg:w.grownBy w' vn.ownBlock)(hgn:vn.ownBlock≠some g):
  sN (w'.setCell ⟨g,0,none⟩ vn') B g vn' ve (ns++[x]) es:=by
 have hA:Agree (Ip vn) w w':=qm hg fun b hb=>hb
 have oP:gV w' g 200 #[vn,ve]:=zl h.box (M:=Ip vn) (fun e=>hgn e) _ hA;have he:w'.ownsRow B 238 3 ve es.length (es.flatMap Wn):=iY (M:=Ip vn) h.ru (fun b hb e=>uh h.ru h.nodes gm b hb e) _ hA;refine⟨oP.set 0 vn',h.base,?_,?_⟩
 ·have:=iY (M:=fun b=>b=g) ho (fun b hb e=>ig ho oP gm (by rw[←e];exact hb)) _ (Agree.set1 w' g 0 vn');simpa using this
 ·exact iY (M:=fun b=>b=g) he (fun b hb e=>ig he oP gm (by rw[←e];exact hb)) _ (Agree.set1 w' g 0 vn')
theorem sN.M7(h:sN w B g vn ve ns es){FY:Value}{x:Ed}(ho:w'.ownsRow B 238 3 FY (es.length+1) (es.flatMap Wn++Wn x))(hg:w.grownBy w' ve.ownBlock)(hgn:ve.ownBlock≠some g):
  sN (w'.setCell ⟨g,1,none⟩ FY) B g vn FY ns (es++[x]):=by
 have hA:Agree (Ip ve) w w':=qm hg fun b hb=>hb
 have oP:gV w' g 200 #[vn,ve]:=zl h.box (M:=Ip ve) (fun e=>hgn e) _ hA;have hn:w'.ownsRow B 196 4 vn ns.length (ns.flatMap Yn):=iY (M:=Ip ve) h.nodes (fun b hb e=>uh h.nodes h.ru gm b hb e) _ hA;refine⟨oP.set 1 FY,h.base,?_,?_⟩
 ·exact iY (M:=fun b=>b=g) hn (fun b hb e=>ig hn oP gm (by rw[←e];exact hb)) _ (Agree.set1 w' g 1 FY)
 ·have:=iY (M:=fun b=>b=g) ho (fun b hb e=>ig ho oP gm (by rw[←e];exact hb)) _ (Agree.set1 w' g 1 FY);simpa using this
end
end Go.Proofs.YtichfhpgdhdiaaaGreat
namespace Go.Proofs.YtichfhpgdhdiaaaGreat
open Go.RowKit
def Found(es:List Ed)(own:Nat→Nat)(v:Nat)(c:UInt8)(e0:Option Nat):Prop:=Il es own v c e0∧∀j y,e0=some j→es[j]?=some y→y.letter=c
theorem DR(w:World){B g:Nat}{ns:List Nd}{es:List Ed}{own:Nat→Nat}{A:lu}(M:xW w B g ns es)(R:tH ns es own A){v:Nat}{x:Nd}(hx:ns[v]?=some x)(c:UInt8):
  Calls prog 146 #[.pointer (some ⟨g,0,none⟩),.int .i64 v,.int .u8 c.toNat] w fun e w'=>w'=w∧∃e0,e=.returned (.int .i64 (mJ e0))∧Found es own v c e0:=by
 obtain⟨vn,ve,h⟩:=M;obtain⟨gn,cn,rfl,hv,hc1,hc2,n0,n1,n2,n3⟩:=h.lM hx;have b0:w.cell? ⟨g,0,none⟩=some (.slice (some ⟨gn,0,none⟩) ns.length cn):=h.box.cell rfl;have b1:w.cell? ⟨g,1,none⟩=some ve:=h.box.cell rfl;have hs:=af (R.Ng hx c);have HR:=af R;have H:=af h;clear h R n0 n1 n2;go_enter func146,ntmps146;go_wp2;go_loopw [7] (fun i wr=>∃e0:Option Nat,i=.int .i64 (mJ e0)∧Hid (Il es own v c e0)∧wr=w) (fun i _=>(intOf i+1).toNat)
 case atStart=>exact⟨_,rfl,hs,rfl⟩
 case round =>
  obtain⟨e0,rfl,hse,rfl⟩:=hrel;cases e0 with
  |none =>
   simp only[nY];go_wp2;go_ret;exact⟨rfl,none,rfl,hse.out,fun j y h=>(by cases h)⟩
  |some j =>
   obtain⟨y,hy,hoj⟩:=hse.out.at;obtain⟨ge,ce,rfl,hj,Y4,Y5,e0,e1,e2⟩:=H.out.zi hy;simp only[lC];by_cases hl:y.letter=c
   ·have hl':y.letter.toNat=c.toNat:=by rw[hl]
    rw[hl']at e0;go_wp2;go_ret;exact⟨rfl,some j,rfl,hse.out,fun j' y' h h'=>by cases h;rw[hy]at h';cases h';exact hl⟩
   ·have hl':y.letter.toNat≠c.toNat:=fun e=>hl (UInt8.toNat_inj.1 e)
    have hn:=af (HR.out.Qb hse.out hy hl);have hlt:mJ y.next<j:=by
     have:=(HR.out.next j y hy).2.2;rw[this];cases hq:lT own (own j) j with
     |none=>simp[mJ];omega
     |some q=>have:=(mK hq).1;simp[mJ];omega
    have hge : -1≤mJ y.next:=by
     cases y.next with
     |none=>simp[mJ]
     |some q=>simp only[mJ];omega
    generalize y.letter.toNat=l1 at *;generalize c.toNat=l2 at *;go_wp2;go_roundw
    case rel=>exact⟨_,rfl,hn,trivial⟩
    case measure=>simp[intOf];omega
variable {ns:List Nd}{es:List Ed}{own:Nat→Nat}{A:lu} in
theorem Found.none(R:tH ns es own A){v:Nat}(hv:v<ns.length){c:UInt8}(h:Found es own v c none):A.go v c=none:=R.Qc hv h.1
variable {ns:List Nd}{es:List Ed}{own:Nat→Nat}{A:lu} in
theorem Found.some(R:tH ns es own A){v j:Nat}{c:UInt8}(h:Found es own v c (some j)):∃y,es[j]?=some y∧own j=v∧y.letter=c∧A.go v c=some y.tto:=by
 obtain⟨y,hy,ho⟩:=h.1.at;have hl:=h.2 j y rfl hy;exact⟨y,hy,ho,hl,(R.Qd h.1 hy hl).1⟩
theorem JZ(w:World){B g:Nat}{ns:List Nd}{es:List Ed}{own:Nat→Nat}{A:lu}(M:xW w B g ns es)(R:tH ns es own A){v:Nat}(hv:v<ns.length)(c:UInt8):
  Calls prog 112 #[.pointer (some ⟨g,0,none⟩),.int .i64 v,.int .u8 c.toNat] w fun e w'=>w'=w∧e=.returned (.int .i64 (mJ (A.go v c))):=by
 have hx:=au hv;have HF:=DR w M R hx c;have hM:=af M;have HR:=af R;clear M R;go_enter func112,ntmps112;go_wp2_with fail;refine HF.mono ?_;rintro e w1 ⟨rfl,e0,rfl,hf⟩;cases e0 with
 |none =>
  have hg:=af (Found.none HR.out hv hf);simp only[nY];go_wp2;go_ret;exact⟨rfl,by rw[hg.out];rfl⟩
 |some j =>
  obtain⟨y,hy,ho,hl,hg'⟩:=Found.some HR.out hf;have hg:=af hg';clear hg' hl ho;obtain⟨vn,ve,h⟩:=hM.out;obtain⟨ge,ce,rfl,hj,Y4,Y5,e0,e1,e2⟩:=h.zi hy;have b1:=h.box.cl 1;simp only[lC];go_wp2;go_ret;exact⟨rfl,by rw[hg.out];rfl⟩
end Go.Proofs.YtichfhpgdhdiaaaGreat
