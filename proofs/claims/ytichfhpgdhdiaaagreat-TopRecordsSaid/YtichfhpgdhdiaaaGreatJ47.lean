/- Top -/
import Derived.Test.YtichfhpgdhdiaaaGreatJ28
import Derived.Test.YtichfhpgdhdiaaaGreatJ46
import Derived.Test.YtichfhpgdhdiaaaGreatJ3
set_option maxRecDepth 100000
set_option maxHeartbeats 8000000
set_option linter.unusedVariables false
set_option linter.unusedSimpArgs false
open Go.Proofs.Tryz
namespace Go.Proofs.YtichfhpgdhdiaaaGreat
open Go.ChangeShapes Go.WideShapes Go.ChangeAt Go.RowKit Go.Deep
theorem PI{z:Int}(h:(Lit.int .u64 z).wf=true):0≤z∧z≤18446744073709551615:=by
 simp only[Lit.wf,aK,decide_eq_true_eq]at h;exact h
section
variable {H:Type}{enc:TypeId×Value→H}{W:World}{base:Nat}{spare:Nat→Bool}{held:Bool}
theorem Cb{n:Nat}{cs:List Value}{y:DataW H×List MemPlace}(hf:DataW.trod enc prog W base spare held n 39 cs=some y):∃x,cs=rq x:=by
 obtain⟨xs,m,_,_,hl,hlen,hg⟩:=DataW.trod_array underlying39 hf;have hC : Tryz.prog.cellsOf 39=2:=by kernel_rfl
 have k : Tryz.prog.cellsOf 37=1:=by kernel_rfl
 rw[hC]at hl
 match cs,hl with
 |[c0,c1],_ =>
  have l0:0<xs.length:=by omega
  have l1:1<xs.length:=by omega
  have e0:DataW.trod enc prog W base spare held m 37 [c0]=some xs[0]:=by simpa [k] using (hg 0 fZ ).trans (au l0)
  have e1:DataW.trod enc prog W base spare held m 37 [c1]=some xs[1]:=by simpa [k] using (hg 1 fZ ).trans (au l1)
  obtain⟨z0,h0,_,w0⟩:=DataW.trod_int underlying37 e0;obtain⟨z1,h1,_,w1⟩:=DataW.trod_int underlying37 e1;simp only[cu,and_true]at h0 h1;subst h0 h1;refine⟨(Cg z0,Cg z1),?_⟩;show [Value.int .u64 z0,Value.int .u64 z1] = [Value.int .u64 ((Cg z0).toNat:Int),Value.int .u64 ((Cg z1).toNat:Int)];rw[rY (PI w0).1 (PI w0).2,rY (PI w1).1 (PI w1).2]
theorem Jq{n:Nat}{v:Value}{y:DataW H×List MemPlace}(hf:DataW.trod enc prog W base spare held n 27 [v]=some y):∃xs,qi W v xs:=by
 rcases open_slice underlying27 hf with ⟨hcs,_⟩|⟨a,len,cap,m,n',D,Pl,hcs,_,hl,hm,hmm,_,hi⟩
 ·simp at hcs;subst hcs;exact⟨[],qi.nil _⟩
 ·simp at hcs;subst hcs;have hle:len≤m:=by rw[hmm];split<;>omega
  have hC : Tryz.prog.cellsOf 39=2:=by kernel_rfl
  have key:∀i,i<len→∃us x,(us=rq x)∧us.length=2∧∀j u,us[j]?=some u→W.cell? (a.add (i*2+j))=some u:=by
   intro i hil;obtain⟨cs',hc,ht'⟩:=hi i fZ ;rw[hC]at hc;obtain⟨x,rfl⟩:=Cb ht';obtain⟨_,hcl,hat⟩:=fo hc;refine⟨rq x,x,rfl,rfl,fun j u hu=>?_⟩;have hj:j<2:=(ay.1 hu).1;rw[←Go.Deep.add_add,hat j hj];exact hu
  obtain⟨hs,vs,h1,h2,h3⟩:=qL (R:=fun us x=>us=rq x) len key;subst h1;exact⟨hs,some a,cap,vs,rfl,hl,hm,nJ h3,h2⟩
theorem Jr{n:Nat}{v:Value}{y:DataW H×List MemPlace}(hf:DataW.trod enc prog W base spare held n 24 [v]=some y):∃xs,Ru W v xs:=by
 rcases open_slice underlying24 hf with ⟨hcs,_⟩|⟨a,len,cap,m,n',D,Pl,hcs,_,hl,hm,hmm,_,hi⟩
 ·simp at hcs;subst hcs;exact⟨[],Sl.nil _ _ _⟩
 ·simp at hcs;subst hcs;have hle:len≤m:=by rw[hmm];split<;>omega
  have hC : Tryz.prog.cellsOf 27=1:=by kernel_rfl
  have key:∀i,i<len→∃us x,LdR W us x∧us.length=1∧∀j u,us[j]?=some u→W.cell? (a.add (i*1+j))=some u:=by
   intro i hil;obtain⟨cs',hc,ht'⟩:=hi i fZ ;rw[hC]at hc;obtain⟨_,hcl,hat⟩:=fo hc
   match cs',hcl with
   |[c0],_ =>
    obtain⟨x,hx⟩:=Jq ht';obtain⟨A',c',rfl,_,_⟩:=hx.form;refine⟨_,x,⟨A',c',rfl,hx⟩,rfl,fun j u hu=>?_⟩;have hj:j<1:=(ay.1 hu).1;rw[←Go.Deep.add_add,hat j hj];exact hu
  obtain⟨hs,vs,h1,h2,h3⟩:=qL len key;subst h1;exact⟨hs,some a,cap,vs,rfl,hl,hm,nJ h3,h2⟩
theorem Mx{n:Nat}{cs:List Value}{y:DataW H×List MemPlace}(hf:DataW.trod enc prog W base spare held n 74 cs=some y):∃x,cs=sG x:=by
 obtain⟨y0,y1,m,_,hl,e0,e1⟩:=trod_struct2 underlying74 hf;have hC : Tryz.prog.cellsOf 74=3:=by kernel_rfl
 have k0 : Tryz.prog.cellsOf 39=2:=by kernel_rfl
 have k1 : Tryz.prog.cellsOf 9=1:=by kernel_rfl
 rw[hC]at hl
 match cs,hl with
 |[c0,c1,c2],_ =>
  have f0:DataW.trod enc prog W base spare held m 39 [c0,c1]=some y0:=by simpa [k0,k1] using e0
  have f1:DataW.trod enc prog W base spare held m 9 [c2]=some y1:=by simpa [k0,k1] using e1
  obtain⟨d,hd⟩:=Cb f0;obtain⟨s,hs,_⟩:=DataW.trod_string underlying9 f1;simp only[cu,and_true,rq]at hd hs;obtain⟨rfl,rfl⟩:=hd;subst hs;refine⟨(d,s.data.toList),?_⟩;show _ = [_,_,Value.string (fu s.data.toList)];rw[tX]
theorem Js{n:Nat}{v:Value}{y:DataW H×List MemPlace}(hf:DataW.trod enc prog W base spare held n 23 [v]=some y):∃xs,og W v xs:=by
 rcases open_slice underlying23 hf with ⟨hcs,_⟩|⟨a,len,cap,m,n',D,Pl,hcs,_,hl,hm,hmm,_,hi⟩
 ·simp at hcs;subst hcs;exact⟨[],og.nil _⟩
 ·simp at hcs;subst hcs;have hle:len≤m:=by rw[hmm];split<;>omega
  have hC : Tryz.prog.cellsOf 74=3:=by kernel_rfl
  have key:∀i,i<len→∃us x,(us=sG x)∧us.length=3∧∀j u,us[j]?=some u→W.cell? (a.add (i*3+j))=some u:=by
   intro i hil;obtain⟨cs',hc,ht'⟩:=hi i fZ ;rw[hC]at hc;obtain⟨x,rfl⟩:=Mx ht';obtain⟨_,hcl,hat⟩:=fo hc;refine⟨sG x,x,rfl,rfl,fun j u hu=>?_⟩;have hj:j<3:=(ay.1 hu).1;rw[←Go.Deep.add_add,hat j hj];exact hu
  obtain⟨hs,vs,h1,h2,h3⟩:=qL (R:=fun us x=>us=sG x) len key;subst h1;exact⟨hs,some a,cap,vs,rfl,hl,hm,nJ h3,h2⟩
theorem LJ{v:Value}{d:DataW H}{p:List MemPlace}(hv:Value.okWide prog W .any base 24 v)(h:DataW.Trod enc prog W 0 spare held 24 v d p):∃x,Ru W v x:=by
 obtain⟨a0,Rw,cap0,rfl⟩:=okWide_slice underlying24 hv;obtain⟨fuel,hf⟩:=h;exact Jr (by simpa [Value.cells] using hf)
theorem LH{v:Value}{d:DataW H}{p:List MemPlace}(hv:Value.okWide prog W .any base 23 v)(h:DataW.Trod enc prog W 0 spare held 23 v d p):∃x,og W v x:=by
 obtain⟨a0,Rw,cap0,rfl⟩:=okWide_slice underlying23 hv;obtain⟨fuel,hf⟩:=h;exact Js (by simpa [Value.cells] using hf)
end
end Go.Proofs.YtichfhpgdhdiaaaGreat
