/- Arguments opened: lists of strings. Arguments opened: numbers, strings, disks, lists of numbers. Arguments opened: lists of texts, numbers, acts, runs. -/
import Derived.Test.YtichfhpgdhdiaaaGreatRows
import Derived.Test.YtichfhpgdhdiaaaGreatJ1
import Derived.ProofKit
import Derived.OpenShut
import Derived.ShutString
import Derived.ChangeOld
import Derived.Below
import Derived.SliceStrings
import Derived.Test.YtichfhpgdhdiaaaGreatJ7
import Derived.Deep.Slices
import Derived.Deep.Fields
import Derived.ChangeSame
import Derived.Lib.SmallJoins
import Derived.Test.YtichfhpgdhdiaaaGreatJ19
import Derived.Test.YtichfhpgdhdiaaaGreatJ3
import Derived.Test.YtichfhpgdhdiaaaGreatJ28
import Derived.Test.YtichfhpgdhdiaaaGreatKSJw
set_option maxRecDepth 100000
set_option maxHeartbeats 8000000
set_option linter.unusedVariables false
set_option linter.unusedSimpArgs false
open Go.Proofs.Tryz
namespace Go.Proofs.YtichfhpgdhdiaaaGreat
open Go.ChangeShapes Go.WideShapes Go.ChangeAt Go.RowKit
open Go.ChangeMaps (open_string shut_string)
theorem elems_map{α : Type}(f : α→Value)(R:List Value→α→Prop)(h:∀x,R [f x] x):∀(xs:List α),jF 1 R xs (xs.map f)
 |[]=>rfl
 |x::xs=>⟨[f x],_,rfl,rfl,h x,elems_map f R h xs⟩
end Go.Proofs.YtichfhpgdhdiaaaGreat
namespace Go.Proofs.YtichfhpgdhdiaaaGreat
open Go.ChangeShapes Go.WideShapes Go.ChangeAt Go.RowKit Go.Deep
theorem wf64{z:Int}(h:(Lit.int .i64 z).wf=true):-9223372036854775808≤z∧z≤9223372036854775807:=by
 simp only[Lit.wf,aK,decide_eq_true_eq]at h;exact h
section
variable {H:Type}{enc:TypeId×Value→H}{W:World}{base:Nat}{spare:Nat→Bool}{held:Bool}
theorem strs_of_trod1{n:Nat}{v:Value}{y:DataW H×List MemPlace}(hf:DataW.trod enc prog W base spare held n 53 [v]=some y):∃xs,Strs W v xs:=by
 rcases open_strings underlying53 underlying9 gB hf with ⟨hcs,_⟩|⟨a,len,cap,ss,hcs,_,hl,hm,hz,_,hcell,_⟩
 ·simp at hcs;subst hcs;exact⟨[],Sl.nil _ _ _⟩
 ·simp at hcs;subst hcs;have hle:len≤ss.length:=by rw[hz];split<;>omega
  refine⟨ss.take len,some a,cap,(ss.take len).map .string,?_,?_,hm,nJ ?_,elems_map _ _ (fun _=>rfl) _⟩
  ·rw[aH,dz hle]
  ·rw[aH,dz hle];exact hl
  ·intro j u hu;rw[fG]at hu;obtain⟨x,hx,rfl⟩:=Option.map_eq_some_iff.1 hu;rw[bR]at hx;split at hx
   ·have hlt:=(ay.1 hx).1;rw[hcell j hlt,bW,hx];rfl
   ·cases hx
end
end Go.Proofs.YtichfhpgdhdiaaaGreat
namespace Go.Proofs.YtichfhpgdhdiaaaGreat
open Go.ChangeShapes Go.WideShapes Go.ChangeAt Go.RowKit Go.Deep
section
variable {H:Type}{enc:TypeId×Value→H}{W:World}{base:Nat}{spare:Nat→Bool}{held:Bool}
theorem ints_of_trod1{n:Nat}{v:Value}{y:DataW H×List MemPlace}(hf:DataW.trod enc prog W base spare held n 60 [v]=some y):∃x,Ints W v x:=by
 rcases open_slice underlying60 hf with ⟨hcs,_⟩|⟨a,len,cap,m,n',D,Pl,hcs,_,hl,hm,hmm,_,hi⟩
 ·simp at hcs;subst hcs;exact⟨[],Sl.nil _ _ _⟩
 ·simp at hcs;subst hcs;have hle:len≤m:=by rw[hmm];split<;>omega
  have hC : Tryz.prog.cellsOf 3=1:=by kernel_rfl
  have key:∀i,i<len→∃us x,afq us x∧us.length=1∧∀j u,us[j]?=some u→W.cell? (a.add (i*1+j))=some u:=by
   intro i hil;obtain⟨cs',hc,ht'⟩:=hi i fZ ;rw[hC]at hc;obtain⟨z,hz,_,hwf⟩:=DataW.trod_int underlying3 ht';obtain⟨_,hcl,hat⟩:=fo hc;subst hz;refine⟨[.int .i64 z],z,⟨rfl,(wf64 hwf).1,(wf64 hwf).2⟩,rfl,fun j u hu=>?_⟩;have hj:j<1:=(ay.1 hu).1;rw[←Go.Deep.add_add,hat j hj];exact hu
  obtain⟨hs,vs,h1,h2,h3⟩:=qL len key;subst h1;exact⟨hs,some a,cap,vs,rfl,hl,hm,nJ h3,h2⟩
theorem act_of_fields{n0 n1 n2 n3:Nat}{c0 c1 c2 c3:Value}{y0 y1 y2 y3:DataW H×List MemPlace}(e0:DataW.trod enc prog W base spare held n0 3 [c0]=some y0)(e1:DataW.trod enc prog W base spare held n1 53 [c1]=some y1)(e2:DataW.trod enc prog W base spare held n2 3 [c2]=some y2)(e3:DataW.trod enc prog W base spare held n3 60 [c3]=some y3):
  ∃x,Xq W [c0,c1,c2,c3] x:=by
 obtain⟨z,hz,_,hwf⟩:=DataW.trod_int underlying3 e0;obtain⟨xs,hxs⟩:=strs_of_trod1 e1;obtain⟨z2,hz2,_,hwf2⟩:=DataW.trod_int underlying3 e2;obtain⟨is,his⟩:=ints_of_trod1 e3;simp only[cu,and_true]at hz hz2;subst hz hz2;exact⟨⟨z,xs.map kH,z2,is⟩,c1,c3,rfl,txs_of_strs hxs,his,wf64 hwf,wf64 hwf2⟩
def ActQ(W:World)(v:Value)(a:uw):Prop:=∃rA rc iA ic,v=.agg #[.int .i64 a.kind,.slice rA a.recs.length rc,.int .i64 a.left,.slice iA a.ps.length ic]∧Xr W rA rc iA ic a
theorem act_of_trod{v:Value}{d:DataW H}{p:List MemPlace}(hv:Value.okWide prog W .any base 62 v)(h:DataW.Trod enc prog W 0 spare held 62 v d p):∃x,ActQ W v x:=by
 obtain⟨v0,v1,v2,v3,y0,y1,y2,y3,n,rfl,_,_,e0,e1,e2,e3⟩:=Joins.open_agg4 underlying62 gB gB hv h;obtain⟨x,vr,vp,e,h1,h2,h3,h4⟩:=act_of_fields e0 e1 e2 e3;simp only[cu,and_true]at e;obtain⟨rfl,rfl,rfl,rfl⟩:=e;obtain⟨rA,rc,rfl,_,_⟩:=vY.form h1;obtain⟨iA,ic,rfl,_,_⟩:=h2.form;exact⟨x,rA,rc,iA,ic,rfl,h1,h2,h3.1,h3.2,h4.1,h4.2⟩
end
end Go.Proofs.YtichfhpgdhdiaaaGreat
