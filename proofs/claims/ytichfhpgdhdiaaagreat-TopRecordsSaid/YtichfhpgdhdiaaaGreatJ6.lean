/- Plain -/
import Derived.Test.YtichfhpgdhdiaaaGreatJ5
import Derived.Test.YtichfhpgdhdiaaaGreatJ3
set_option maxRecDepth 100000
set_option maxHeartbeats 8000000
set_option linter.unusedVariables false
set_option linter.unusedSimpArgs false
namespace Go.Proofs.YtichfhpgdhdiaaaGreat
theorem aaA{d:Dk}{a:uw}(h:(vI d a).2=0):xM d a=vI d a:=by
 unfold xM;rw[if_neg (fun e=>e.1 h)]
theorem Yb{s:iX}(hs:s.length≤60):(su [s]).length≤80:=by
 have h1:(gJ (0+1)).length≤1:=ja 1 0 fZ ;have h0:(jL s).length=(gJ s.length).length+s.length:=by unfold jL;rw[aj]
 have h2:=ja s.length 0 fZ ;have hp:(jB [s]).length≤62:=by
  unfold jB;simp only[aj,aG,dQ,aI,aM];omega
 have h3:=ja (jB [s]).length 0 fZ ;unfold su;simp only[aI,aj];omega
theorem Rf{s:iX}(hs:s.length≤60):∃d1 d2,NC (zD 41 4)=(d1,0)∧qa d1 [s]=(d2,0)∧vG (vw d2 [])=([s],0)∧d1.pend = []∧d2.pend = []:=by
 obtain⟨d1,h1,hG,hl,hz,hn⟩:=TF (n:=41) (z:=4) fZ fZ fZ fZ ;have hJ:VD d1 [] none:=.good 1 0 hG rfl;have hok:rU [s]:=⟨by simp,fun t ht=>by
  obtain rfl:t=s:=by simpa using ht
  omega⟩
 obtain⟨m,hm,hr⟩:=TG hJ hl [s] gu hok;have hro:Gm d1=(gZ d1.secs.length-0,0):=by unfold Gm;rw[hG.open_,if_neg gu ]
 rw[hro,hn]at hm;have amP:m=20:=by injection hm with e _;exact e.symm
 have Z9:d1.size.toNat=4:=by rw[hz];rfl
 have hnd:need (su [s]).length 4≤20:=rZ fZ (by have:=Yb hs;omega);rw[Z9,if_neg fZ ]at hr;have ha:(vI d1 ⟨0,[s],0,[]⟩).2=0:=hr.1;have hd:=aaA ha;have hact:vI d1 ⟨0,[s],0,[]⟩=qa d1 [s]:=rfl;obtain⟨hp2,x,hx1,hx2⟩:=NJ hJ hG.p ⟨0,[s],0,[]⟩ (.inl rfl) (by rw[hd];exact ha) [];rw[hd,hact]at hp2 hx1 hx2;obtain⟨r,hr1,hr2,_⟩:=Le hJ [s];have hr0:vG d1=([],0):=hG.opn.FH;rw[hr0]at hr1;have hre:r = []:=by injection hr1 with e _;exact e.symm
 have h3:=hr2 hr.1;rw[hre,aO]at h3;rw[h3]at hx1;have hxe:x = [s]:=by injection hx1 with e _;exact e.symm
 rw[hxe]at hx2;exact⟨d1,(qa d1 [s]).1,h1,dP rfl hr.1,hx2,hG.p,hp2⟩
end Go.Proofs.YtichfhpgdhdiaaaGreat
