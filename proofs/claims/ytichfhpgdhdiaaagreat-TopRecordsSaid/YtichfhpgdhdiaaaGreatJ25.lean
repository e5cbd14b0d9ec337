/- delta -/
import Derived.Test.YtichfhpgdhdiaaaGreatJ24
import Derived.Test.YtichfhpgdhdiaaaGreatJ4
import Derived.Deep.QuietTactic
import Derived.Test.YtichfhpgdhdiaaaGreatJ3
set_option maxRecDepth 100000
set_option maxHeartbeats 8000000
set_option linter.unusedVariables false
set_option linter.unusedSimpArgs false
open Go.Proofs.Tryz
namespace Go.Proofs.YtichfhpgdhdiaaaGreat
open Go.RowKit
def Ym(a b:List UInt8)(at_:Nat)(w0:World)(e:Ending)(w:World):Prop :=
 ∃off:Nat,e=.returned (.tuple #[.int .i64 off,.int .i64 ((jX a (b.drop at_)).2:Nat)])∧(0<(jX a (b.drop at_)).2→off=(jX a (b.drop at_)).1)∧jZ w0 w
theorem xW.drewN{w:World}{B g:Nat}{ns:List Nd}{es:List Ed}(h:xW w B g ns es)(n:Nat):xW (w.drewN n) B g ns es:=by
 obtain⟨vn,ve,h⟩:=h;exact⟨vn,ve,h.keep (((jZ.refl w).drewN n).below _)⟩
theorem zm{b:List UInt8}{p m:Nat}(h:p+m<b.length):(b.drop p).take (m+1)=(b.drop p).take m++[b[p+m]]:=by
 rw[aN (by rw[aC];omega)];simp
theorem J8(w:World){t:List UInt8}{b:ByteArray}{B g gs gi p:Nat}(hI:nO t B g w)(x1:w.cell? ⟨gs,0,none⟩=some (.string b))(x2:w.cell? ⟨gi,0,none⟩=some (.pointer (some ⟨g,0,none⟩)))(hp:p<b.size)(hb:b.size≤65536)(ht:t.length≤65536):
  Calls prog 111 #[.int .i64 p,.pointer (some ⟨gs,0,none⟩),.pointer (some ⟨gi,0,none⟩)] w (Ym t b.data.toList p w):=by
 obtain⟨mm,la,ns,es,own,A,L,M,R,I,_⟩:=hI;have HI:=af I;have HR:=af R;have HM:=af M;have h0:A.tO L 0 ((b.data.toList.drop p).take 0):=by rw[bO];exact I.empty
 have H0:=af h0;have hbl:b.data.toList.length=b.size:=by simp
 have Wv:=af hbl;clear I R M h0 hbl;go_enter func111,ntmps111;go_wp2;go_loopw [6,7] (fun vi mi wr=>∃v m:Nat,p+m≤b.size∧vi=.int .i64 v∧mi=.int .i64 m∧Hid (A.tO L v ((b.data.toList.drop p).take m))∧jZ w wr) (fun _ mi _=>b.size-(intOf mi).toNat)
 case atStart=>exact⟨0,0,by omega,rfl,rfl,H0.out,jZ.refl _⟩
 case round =>
  obtain⟨v,m,hm,rfl,rfl,HC,hd⟩:=hrel;have hbl:=Wv.out;have hv:v<ns.length:=(HR.out.V v).1 HC.out.1;have x1':wr.cell? ⟨gs,0,none⟩=some (.string b):=by obtain⟨k,rfl⟩:=hd;exact x1
  have x2':wr.cell? ⟨gi,0,none⟩=some (.pointer (some ⟨g,0,none⟩)):=by obtain⟨k,rfl⟩:=hd;exact x2
  have M2:xW wr B g ns es:=by obtain⟨k,rfl⟩:=hd;exact HM.out.drewN k
  have hz1:IntKind.i64.wrap ((p:Int)+m)=(p:Int)+m:=jo fZ fZ ;have done:(∀c,(b.data.toList.drop p)[m]?=some c→A.go v c=none)→∀w',jZ w w'→Ym t b.data.toList p w (.returned (.tuple #[.int .i64 ((A.fin v:Int)-m),.int .i64 m])) w':=fun hs w' hd'=>by
   obtain⟨k1,k2,k3,k4⟩:=Kg HI.out (by rw[aC];omega) HC.out hs;refine⟨A.fin v-m,?_,fun h=>?_,hd'⟩
   ·rw[k1];have:((A.fin v:Int)-m)=((A.fin v-m:Nat):Int):=by omega
    rw[this]
   ·rw[k1]at h;exact(k2 h).symm
  have hfin:m≤A.fin v∧A.fin v≤t.length:=by
   obtain⟨f1,f2,f3⟩:=HI.out.fin v _ HC.out;have:=((zn f1).1 f2).1;rw[aH,aC]at this;exact⟨by omega,f1⟩
  have hxv:=au hv;generalize ns[v]=xv at hxv;have hfv:=(HR.out.node v xv hxv).2.2.1;have HD:=af done;clear done;by_cases hlt:p+m<b.size
  ·have CS:∀n,Calls prog 112 #[.pointer (some ⟨g,0,none⟩),.int .i64 v,.int .u8 (b[p+m]).toNat] (wr.drewN n) fun e w'=>e=.returned (.int .i64 (mJ (A.go v b[p+m])))∧w'=wr.drewN n:=fun n=>(JZ _ (M2.drewN n) HR.out hv b[p+m]).mono fun e w' h=>⟨h.2,h.1⟩
   have hc:(b.data.toList.drop p)[m]?=some b[p+m]:=by
    rw[bX,au fZ ];rfl
   have g1:(p:Int)+m<b.size:=by omega
   have g2:0≤(p:Int)+m:=by omega
   have g3:((p:Int)+m).toNat=p+m:=by omega
   cases hgo:A.go v b[p+m]with
   |none =>
    rw[hgo]at CS;have HE:=af (HD.out (fun c h=>by rw[hc]at h;cases h;exact hgo));have Nf:=af CS;obtain⟨vn,ve,HV⟩:=M2;obtain⟨gn,cn,rfl,_,q1,q2,_,_,n2,_⟩:=HV.lM hxv;rw[hfv]at n2;have b0:wr.cell? ⟨g,0,none⟩=some (.slice (some ⟨gn,0,none⟩) ns.length cn):=HV.box.cell rfl;simp only[nY]at Nf;have hz2:IntKind.i64.wrap ((A.fin v:Int)-m)=(A.fin v:Int)-m:=jo fZ fZ ;clear CS hgo hc HV hxv hfv x1 x2 HC;go_wp2;go_quiet ((exact Calls.quiet_of_same (Nf.out _)));go_wp2;exact bodyPost_ret (v:=.tuple #[.int .i64 ((A.fin v:Int)-m),.int .i64 m]) (by simp[results,results111,go_sem]) rfl (HE.out _ (hd.drewN _))
   |some u =>
    rw[hgo]at CS;have Nf:=af CS;have HN:A.tO L u ((b.data.toList.drop p).take (m+1)):=by
     rw[zm fZ ];exact(HI.out.step v _ u HC.out.1 hgo).2.2 _ HC.out
    have HN':=af HN;simp only[lC]at Nf;clear CS hgo hc M2 hxv hfv x1 x2 HC HN HD hfin;go_wp2;go_quiet ((exact Calls.quiet_of_same (Nf.out _)));go_wp2;go_roundw
    case rel=>exact⟨u,m+1,by omega,rfl,by go_num,HN'.out,hd.drewN _⟩
    case measure=>simp[intOf];omega
  ·have HE:=af (HD.out (fun c h=>by
    have:=(ay.1 h).1;rw[aC]at this;omega))
   obtain⟨vn,ve,HV⟩:=M2;obtain⟨gn,cn,rfl,_,q1,q2,_,_,n2,_⟩:=HV.lM hxv;rw[hfv]at n2;have b0:wr.cell? ⟨g,0,none⟩=some (.slice (some ⟨gn,0,none⟩) ns.length cn):=HV.box.cell rfl;have hz2:IntKind.i64.wrap ((A.fin v:Int)-m)=(A.fin v:Int)-m:=jo fZ fZ ;have g1:¬(p:Int)+m<b.size:=by omega
   clear HV hxv hfv x1 x2 HC hlt;go_wp2;exact bodyPost_ret (v:=.tuple #[.int .i64 ((A.fin v:Int)-m),.int .i64 m]) (by simp[results,results111,go_sem]) rfl (HE.out _ hd)
end Go.Proofs.YtichfhpgdhdiaaaGreat
