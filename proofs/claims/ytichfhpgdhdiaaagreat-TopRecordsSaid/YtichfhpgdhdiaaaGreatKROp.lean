/- Arguments opened: lists of strings. Arguments opened: numbers, strings, disks, lists of numbers. Arguments opened: lists of texts, numbers, acts, runs. -/
import Derived.Test.YtichfhpgdhdiaaaGreatRows
import Derived.Test.YtichfhpgdhdiaaaGreatJ1
import Derived.ProofKit
import Derived.OpenShut
import Derived.ShutString
import Derived.ChangeOld
import Derived.Below
import Derived.SliceStrings
import Derived.Test.YtichfhpgdhdiaaaGreatJ7
import Derived.Deep.Slices
import Derived.Deep.Fields
import Derived.ChangeSame
import Derived.Lib.SmallJoins
import Derived.Test.YtichfhpgdhdiaaaGreatJ19
import Derived.Test.YtichfhpgdhdiaaaGreatJ3
import Derived.Test.YtichfhpgdhdiaaaGreatJ28
import Derived.Test.YtichfhpgdhdiaaaGreatKRJw
set_option maxRecDepth 100000
set_option maxHeartbeats 8000000
set_option linter.unusedVariables false
set_option linter.unusedSimpArgs false
open Go.Proofs.Tryz
namespace Go.Proofs.YtichfhpgdhdiaaaGreat
open Go.ChangeShapes Go.WideShapes Go.ChangeAt Go.RowKit
open Go.ChangeMaps (open_string shut_string)
theorem elems_map{α : Type}(f : α→Value)(R:List Value→α→Prop)(h:∀x,R [f x] x):∀(xs:List α),jF 1 R xs (xs.map f)
 |[]=>rfl
 |x::xs=>⟨[f x],_,rfl,rfl,h x,elems_map f R h xs⟩
end Go.Proofs.YtichfhpgdhdiaaaGreat
namespace Go.Proofs.YtichfhpgdhdiaaaGreat
open Go.ChangeShapes Go.WideShapes Go.ChangeAt Go.RowKit Go.Deep
theorem wf64{z:Int}(h:(Lit.int .i64 z).wf=true):-9223372036854775808≤z∧z≤9223372036854775807:=by
 simp only[Lit.wf,aK,decide_eq_true_eq]at h;exact h
section
variable {H:Type}{enc:TypeId×Value→H}{W:World}{base:Nat}{spare:Nat→Bool}{held:Bool}
theorem strs_of_trod1{n:Nat}{v:Value}{y:DataW H×List MemPlace}(hf:DataW.trod enc prog W base spare held n 53 [v]=some y):∃xs,Strs W v xs:=by
 rcases open_strings underlying53 underlying9 gB hf with ⟨hcs,_⟩|⟨a,len,cap,ss,hcs,_,hl,hm,hz,_,hcell,_⟩
 ·simp at hcs;subst hcs;exact⟨[],Sl.nil _ _ _⟩
 ·simp at hcs;subst hcs;have hle:len≤ss.length:=by rw[hz];split<;>omega
  refine⟨ss.take len,some a,cap,(ss.take len).map .string,?_,?_,hm,nJ ?_,elems_map _ _ (fun _=>rfl) _⟩
  ·rw[aH,dz hle]
  ·rw[aH,dz hle];exact hl
  ·intro j u hu;rw[fG]at hu;obtain⟨x,hx,rfl⟩:=Option.map_eq_some_iff.1 hu;rw[bR]at hx;split at hx
   ·have hlt:=(ay.1 hx).1;rw[hcell j hlt,bW,hx];rfl
   ·cases hx
end
end Go.Proofs.YtichfhpgdhdiaaaGreat
namespace Go.Proofs.YtichfhpgdhdiaaaGreat
open Go.ChangeShapes Go.WideShapes Go.ChangeAt Go.RowKit Go.Deep
section
variable {H:Type}{enc:TypeId×Value→H}{W:World}{base:Nat}{spare:Nat→Bool}{held:Bool}
theorem ints_of_trod1{n:Nat}{v:Value}{y:DataW H×List MemPlace}(hf:DataW.trod enc prog W base spare held n 60 [v]=some y):∃x,Ints W v x:=by
 rcases open_slice underlying60 hf with ⟨hcs,_⟩|⟨a,len,cap,m,n',D,Pl,hcs,_,hl,hm,hmm,_,hi⟩
 ·simp at hcs;subst hcs;exact⟨[],Sl.nil _ _ _⟩
 ·simp at hcs;subst hcs;have hle:len≤m:=by rw[hmm];split<;>omega
  have hC : Tryz.prog.cellsOf 3=1:=by kernel_rfl
  have key:∀i,i<len→∃us x,afq us x∧us.length=1∧∀j u,us[j]?=some u→W.cell? (a.add (i*1+j))=some u:=by
   intro i hil;obtain⟨cs',hc,ht'⟩:=hi i fZ ;rw[hC]at hc;obtain⟨z,hz,_,hwf⟩:=DataW.trod_int underlying3 ht';obtain⟨_,hcl,hat⟩:=fo hc;subst hz;refine⟨[.int .i64 z],z,⟨rfl,(wf64 hwf).1,(wf64 hwf).2⟩,rfl,fun j u hu=>?_⟩;have hj:j<1:=(ay.1 hu).1;rw[←Go.Deep.add_add,hat j hj];exact hu
  obtain⟨hs,vs,h1,h2,h3⟩:=qL len key;subst h1;exact⟨hs,some a,cap,vs,rfl,hl,hm,nJ h3,h2⟩
theorem act_of_fields{n0 n1 n2 n3:Nat}{c0 c1 c2 c3:Value}{y0 y1 y2 y3:DataW H×List MemPlace}(e0:DataW.trod enc prog W base spare held n0 3 [c0]=some y0)(e1:DataW.trod enc prog W base spare held n1 53 [c1]=some y1)(e2:DataW.trod enc prog W base spare held n2 3 [c2]=some y2)(e3:DataW.trod enc prog W base spare held n3 60 [c3]=some y3):
  ∃x,Xq W [c0,c1,c2,c3] x:=by
 obtain⟨z,hz,_,hwf⟩:=DataW.trod_int underlying3 e0;obtain⟨xs,hxs⟩:=strs_of_trod1 e1;obtain⟨z2,hz2,_,hwf2⟩:=DataW.trod_int underlying3 e2;obtain⟨is,his⟩:=ints_of_trod1 e3;simp only[cu,and_true]at hz hz2;subst hz hz2;exact⟨⟨z,xs.map kH,z2,is⟩,c1,c3,rfl,txs_of_strs hxs,his,wf64 hwf,wf64 hwf2⟩
theorem acts_of_trod1{n:Nat}{v:Value}{y:DataW H×List MemPlace}(hf:DataW.trod enc prog W base spare held n 49 [v]=some y):∃x,NW W v x:=by
 rcases open_slice underlying49 hf with ⟨hcs,_⟩|⟨a,len,cap,m,n',D,Pl,hcs,_,hl,hm,hmm,_,hi⟩
 ·simp at hcs;subst hcs;exact⟨[],Sl.nil _ _ _⟩
 ·simp at hcs;subst hcs;have hle:len≤m:=by rw[hmm];split<;>omega
  have hC : Tryz.prog.cellsOf 62=4:=by kernel_rfl
  have key:∀i,i<len→∃us x,Xq W us x∧us.length=4∧∀j u,us[j]?=some u→W.cell? (a.add (i*4+j))=some u:=by
   intro i hil;obtain⟨cs',hc,ht'⟩:=hi i fZ ;rw[hC]at hc;obtain⟨ys,n',hn',hy,hlen,hyl,hg⟩:=DataW.trod_struct underlying62 ht';obtain⟨_,hcl,hat⟩:=fo hc
   match cs',hcl with
   |[c0,c1,c2,c3],_ =>
    have f0:=hg 0 _ rfl;have f1:=hg 1 _ rfl;have f2:=hg 2 _ rfl;have f3:=hg 3 _ rfl;have k0 : Tryz.prog.cellsOf 3=1:=by kernel_rfl
    have k1 : Tryz.prog.cellsOf 53=1:=by kernel_rfl
    have k2 : Tryz.prog.cellsOf 60=1:=by kernel_rfl
    have l0:0<ys.length:=by rw[hyl];decide
    have y0:ys[0]?=some ys[0]:=au l0;have l1:1<ys.length:=by rw[hyl];decide
    have y1:ys[1]?=some ys[1]:=au l1;have l2:2<ys.length:=by rw[hyl];decide
    have y2:ys[2]?=some ys[2]:=au l2;have l3:3<ys.length:=by rw[hyl];decide
    have y3:ys[3]?=some ys[3]:=au l3;have e0:DataW.trod enc prog W base spare held n' 3 [c0]=some ys[0]:=by simpa [k0,k1,k2] using f0.trans y0
    have e1:DataW.trod enc prog W base spare held n' 53 [c1]=some ys[1]:=by simpa [k0,k1,k2] using f1.trans y1
    have e2:DataW.trod enc prog W base spare held n' 3 [c2]=some ys[2]:=by simpa [k0,k1,k2] using f2.trans y2
    have e3:DataW.trod enc prog W base spare held n' 60 [c3]=some ys[3]:=by simpa [k0,k1,k2] using f3.trans y3
    obtain⟨x,hx⟩:=act_of_fields e0 e1 e2 e3;refine⟨[c0,c1,c2,c3],x,hx,rfl,fun j u hu=>?_⟩;have hj:j<4:=(ay.1 hu).1;rw[←Go.Deep.add_add,hat j hj];exact hu
  obtain⟨hs,vs,h1,h2,h3⟩:=qL len key;subst h1;exact⟨hs,some a,cap,vs,rfl,hl,hm,nJ h3,h2⟩
end
end Go.Proofs.YtichfhpgdhdiaaaGreat
