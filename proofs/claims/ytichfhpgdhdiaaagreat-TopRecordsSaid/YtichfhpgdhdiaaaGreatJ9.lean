/- Great new disks. -/
import Derived.Test.YtichfhpgdhdiaaaGreatJ7
import Derived.Test.YtichfhpgdhdiaaaGreatJ3
set_option maxRecDepth 100000
set_option maxHeartbeats 8000000
set_option linter.unusedVariables false
set_option linter.unusedSimpArgs false
open Go.Proofs.Tryz
namespace Go.Proofs.YtichfhpgdhdiaaaGreat
open Go.RowKit
theorem U0(W:World)(n z:Nat)(hn1:1≤n)(hn2:n≤1000)(hz1:1≤z)(hz2:z≤512):
  Calls prog 17 #[.int .i64 n,.int .i64 z] W (lV W (KG n z) 0):=by
 obtain⟨i0,hi,hy0,hy1,hy2⟩:=info_parts Tryz.SN;have adI:=gV.new W #[.int .i64 0,.slice none 0 0,.slice none 0 0,.int .i64 0] 56;have hbr:=adI.alloc (.cells #[.int .i64 z,.slice none 0 0,.slice none 0 0,.int .i64 (-1)] 56);have hbk:=gV.new (W.alloc (.cells #[.int .i64 0,.slice none 0 0,.slice none 0 0,.int .i64 0] 56)) #[.int .i64 z,.slice none 0 0,.slice none 0 0,.int .i64 (-1)] 56;rw[aJ]at hbk;have hd1:=((ah W.heap.size W).alloc (ak _) (.cells #[.int .i64 0,.slice none 0 0,.slice none 0 0,.int .i64 0] 56)).alloc gu (.cells #[.int .i64 z,.slice none 0 0,.slice none 0 0,.int .i64 (-1)] 56)
 have hR:S9 W z 0 ((W.alloc (.cells #[.int .i64 0,.slice none 0 0,.slice none 0 0,.int .i64 0] 56)).alloc (.cells #[.int .i64 z,.slice none 0 0,.slice none 0 0,.int .i64 (-1)] 56)):=⟨_,World.ownsRow_nil _ _ _ _,hbr,hbk,hd1⟩;have hz:∀(w:World),Calls prog 38 #[.int .i64 z] w fun e w'=>e=.returned (.string (qo z))∧w=w':=Qo z fZ
 have HZ:=af hz;have hnz:=AJ z;have HNZ:=af hnz;clear adI hbr hbk hd1 hz hnz;go_enter func17,ntmps17;go_wp2;go_loopw [7] (fun t wr=>∃k:Nat,k≤n∧t=.int .i64 k∧S9 W z k wr) (fun t _=>n-(intOf t).toNat)
 case atStart=>exact⟨0,by omega,rfl,hR⟩
 case round =>
  clear hR;obtain⟨k,hk,rfl,v,hown,hbr,hbk,hd⟩:=hrel;have hB:=hbk.lt;have q0:=hbk.cl 0;have q1:=hbk.cl 1;have q2:=hbk.cl 2;have q3:=hbk.cl 3;have s1:=hbk.frozen 1;by_cases hlt:k<n
  ·have HS:=af (Ta z k);generalize hzs:qo z=zs at *;have HZS:=af hzs;clear hzs;obtain⟨A,c,rfl⟩:=iw hown;go_wp2;go_region_law (first
    |(refine jf _ rfl _ _ _ rfl (W.heap.size+2) 9 i0 _ 1 16 underlying53 hi hy0 hy1 hy2 rfl fZ (.slice A k c) k _ rfl (World.ownsRow.drew (World.ownsRow.alloc hown _)) _ 1 1 [.string zs] rfl rfl (gY _ _ _ _) (by simp[Value.oneCell']) fZ fZ (by simp;omega) ?_;intro v1 w2 hown1 hgr hat;obtain⟨A',c',rfl⟩:=iw hown1;have hbk2:=gV.grown (gV.drew (gV.alloc hbk (.cells #[.string zs] 9))) hgr (ig hown hbk gm ).symm;have p1:=hbk2.cl 1;have f1:=hbk2.frozen 1)
    |(go_simp;go_at_call 38;refine(HZ.out _).mono ?_;rintro e w' ⟨rfl,rfl⟩))
   all_goals
    have kQ:=gV.grown (gV.drew (gV.alloc hbr (.cells #[.string zs] 9))) hgr (ig hown hbr gm ).symm;have hd2:=(kG (hd.alloc hd.size (.cells #[.string zs] 9))).grown hgr (by have:=hd.size;simp;omega) (fun g' h=>by have:=(hown.lt g' h);omega);have oQ:=kQ.far (p:=⟨W.heap.size+1,1,none⟩) gu (.slice A' (k+1) c');have p9:=hbk2.set 1 (.slice A' (k+1) c');have hd3:=hd2.setCell (p:=⟨W.heap.size+1,1,none⟩) (show W.heap.size≤W.heap.size+1 by omega) (.slice A' (k+1) c');have hown3:=(iY (M:=fun b=>b=W.heap.size+1) hown1 (fun b hb e=>by have:=hown1.lt b hb;omega)) _ (Agree.set1 w2 (W.heap.size+1) 1 (.slice A' (k+1) c'))
    clear q0 q1 q2 q3 s1 p1 f1 hbr hbk hd hown kQ hbk2 hd2 hgr hat;go_wp2;go_roundw
    case rel=>exact⟨k+1,by omega,by go_num,_,by rw[HZS.out,←HS.out];exact hown3,oQ,p9,hd3⟩
    case measure=>simp[intOf];omega
  ·obtain rfl:k=n:=by omega
   obtain⟨A,c,rfl⟩:=iw hown;have hbl:=hbr.lt;have Rm:qp wr (W.heap.size+2) (.slice A k c) (List.replicate k (qo z)):=by unfold qp;rw[eF];exact hown
   have hx:=hbr.uR (.int .i64 z) (.slice A k c) (.slice none 0 0) (.int .i64 (-1));have uJ:=kr hd (ak _) (.int .i64 z) (.slice A k c) (.slice none 0 0) (.int .i64 (-1));have Qv:=(((Rm.far (p:=⟨W.heap.size,0,none⟩) gu (.int .i64 z)).far (p:=⟨W.heap.size,1,none⟩) gu (.slice A k c)).far (p:=⟨W.heap.size,2,none⟩) gu (.slice none 0 0)).far (p:=⟨W.heap.size,3,none⟩) gu (.int .i64 (-1));obtain⟨t0,t1,t2,t3,r0,r1,r2,r3⟩:=nD hbr gD;go_wp2;clear r0 r1 r2 r3 t0 t1 t2 t3 q0 q1 q2 q3 s1;generalize (((wr.setCell ⟨W.heap.size,0,none⟩ (.int .i64 z)).setCell ⟨W.heap.size,1,none⟩ (.slice A k c)).setCell ⟨W.heap.size,2,none⟩ (.slice none 0 0)).setCell ⟨W.heap.size,3,none⟩ (.int .i64 (-1))=wx at *
   obtain⟨k0,k1,k2,k3⟩:=ku hx gD;exact bodyPost_ret (v:=.tuple #[.agg #[.int .i64 z,.slice A k c,.slice none 0 0,.int .i64 (-1)],.int .i64 0]) (by simp[results,results17,go_sem,k0,k1,k2,k3]) rfl (lV.mk (d':=KG k z) rfl rfl rfl rfl ⟨Qv.strs,Sl.nil _ _ _,by simp[KG],by simp[KG];omega,by simp[KG],by simp[KG]⟩ uJ)
end Go.Proofs.YtichfhpgdhdiaaaGreat
