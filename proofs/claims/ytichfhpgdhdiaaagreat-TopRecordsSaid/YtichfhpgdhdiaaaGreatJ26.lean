/- delta -/
import Derived.Test.YtichfhpgdhdiaaaGreatJ16
import Derived.Test.YtichfhpgdhdiaaaGreatJ10
import Derived.Test.YtichfhpgdhdiaaaGreatJ23
import Derived.Test.YtichfhpgdhdiaaaGreatJ3
set_option maxRecDepth 100000
set_option maxHeartbeats 8000000
set_option linter.unusedVariables false
set_option linter.unusedSimpArgs false
open Go.Proofs.Tryz
namespace Go.Proofs.YtichfhpgdhdiaaaGreat
open Go.RowKit
theorem Tryz.DF:(Tryz.prog.info? 191).map (fun i=>(i.zero,i.size,i.bytes))=some (some (.agg #[.int .i64 0,.int .i64 0,.string ⟨#[]⟩]),3,32):=by kernel_rfl
def Nh(H h N:Nat)(l:List jq)(t:List UInt8)(W:World)(e:Ending)(W':World):Prop :=
 e=.returned (.tuple #[])∧(∃v,yN H h N v (kg (l,t)) [] W')∧tJ H h N W W'
theorem Gc(H h N:Nat)(v:Value)(l:List jq)(t:List UInt8)(W:World)(J:yN H h N v l t W)(hW:h≤W.heap.size)(hN:N≤W.heap.size)(hl:l.length≤1000000000):
  Calls prog 147 #[.pointer (some ⟨H+1,0,none⟩),.pointer (some ⟨H,0,none⟩)] W (Nh H h N l t W):=by
 obtain⟨i1,hi1,hy0,hy1,hy2⟩:=info_parts Tryz.DF;have CL:=af (RH H (H+1) t W J.rQ);by_cases ht:t = []
 ·subst ht;have HE:Nh H h N l [] W (.returned (.tuple #[])) W:=⟨rfl,⟨v,by rw[show kg (l,([]:List UInt8))=l from if_pos rfl];exact J⟩,tJ.refl _⟩;have qB:=af HE;clear J HE;go_enter func147,ntmps147;go_wp2_with fail;refine CL.out.mono ?_;rintro e w1 ⟨rfl,rfl⟩;go_wp2;exact bodyPost_end (results_none rfl _ _ _) rfl qB.out
 ·have hh:=J.hh;have htl:0<t.length:=by cases t with
   |nil=>exact absurd rfl ht
   |cons=>simp
  have c0:=J.row.box.cl 0;have hsH:H<W.heap.size:=J.row.box.lt;obtain⟨A,c,rfl⟩:=iw J.row.row;have CS:Calls prog 60 #[.pointer (some ⟨H+1,0,none⟩)] W.drew fun e w'=>e=.returned (.string (fu t))∧sH H (H+1) t w'∧Below H W.drew w'∧Lib.OthersKept 5 (some (H+1)) W.drew w' :=
   tQ H (H+1) t W.drew (J.rQ.below (ah _ _).drew) (by simp;omega)
  have Nf:=af CS;have HJ:=af J;have hfl:Hid (kg (l,t)=l++[⟨0,0,t⟩]):=if_neg ht;clear CS J ht;have c0':W.cell? ⟨H,0,none⟩=some (.slice A l.length c):=c0;clear c0;go_enter func147,ntmps147;go_wp2_with fail;refine CL.out.mono ?_;rintro e w1 ⟨rfl,rfl⟩;go_wp2_with fail;refine nN (S:=fun w'=>w'.cell? ⟨H,0,none⟩=some (.slice A l.length c)) gB c0' 4 ?_;refine jr 0 [] ?_;refine kF.on 1 ?_;intro K hK;go_simp;refine Nf.out.mono ?_;rintro e w2 ⟨rfl,hb2,hB2,Sg⟩;have J1:=HJ.out.below (ah w1.heap.size w1).drew;obtain⟨J2,F2⟩:=J1.built hb2 hB2 Sg
  have hW2:h≤w2.heap.size:=by have:=hB2.size;simp at this;omega
  have c2:w2.cell? ⟨H,0,none⟩=some (.slice A l.length c):=J2.row.box.cl 0;have hK':=hK;clear hK Nf CL;refine hK' _ _ c2 ?_;clear hK' K;refine gP 2 ?_;refine kF.on 3 ?_;intro K hK;go_simp;have hal:=(ah w2.heap.size w2).alloc (ak _) (.cells #[.int .i64 0,.int .i64 0,.string (fu t)] 191);have hK':=hK;clear hK;refine hK' _ _ (by rw[hal.cell (p:=⟨H,0,none⟩) (by simp only;omega)];exact c2) ?_;clear hK' K;have J3:=J2.below hal;have hrow:=J3.row.row;refine Cy 4 ?_;refine jf _ rfl _ _ _ rfl H 191 i1 _ 3 32 underlying144 hi1 hy0 hy1 hy2 rfl fZ (.slice A l.length c) l.length _ rfl hrow _ 1 1 [.int .i64 0,.int .i64 0,.string (fu t)] rfl rfl (gY _ _ _ _) (by simp[Value.oneCell']) fZ fZ (by simp;omega) ?_
  intro v4 w4 iU jl rT;obtain⟨A',c',rfl⟩:=iw iU;have hne:=ig hrow J3.row.box (t:=144) gm ;have hbx:=J3.row.box.grown jl hne.symm;have p4:w4.cell? ⟨H,0,none⟩=some (.slice A l.length c):=hbx.cl 0;have f4:=hbx.frozen 0;obtain⟨J5,F5⟩:=J3.push (y:=⟨0,0,t⟩) (by simp;omega) (by have:=hB2.size;simp at this;simp;omega) rT iU jl;have F:tJ H h N w1 (w4.setCell ⟨H,0,none⟩ (.slice A' (l.length+1) c')):=((jg (ah w1.heap.size w1).drew fZ ).trans F2).trans ((jg hal fZ ).trans F5);simp only[Act.put,SA];refine kF.lt 5 ?_
  intro K hK;go_simp;refine hK _ _ (kF.done gB ?_);clear hK K p4 f4 hbx jl iU rT hrow J3 J2 J1 F2 F5 hb2 hB2 Sg c2 hal;have hw5:h≤(w4.setCell ⟨H,0,none⟩ (.slice A' (l.length+1) c')).heap.size:=by have:=F.size;omega
  generalize w4.setCell ⟨H,0,none⟩ (.slice A' (l.length+1) c')=w5 at *;refine NoPanic.normal ?_;obtain⟨p,q,hbk⟩:∃p q,gV w5 (H+1) 122 #[p,q]:=by
   rcases J5.rQ with ⟨_,q,hv,_⟩|⟨_,q,hv,_⟩<;>exact⟨_,q,hv⟩
  have CR:=af (Qe (H+1) p q w5 hbk);obtain⟨J6,F6⟩:=J5.reset hbk;have HE:Nh H h N l t w1 (.returned (.tuple #[])) ((w5.setCell ⟨H+1,0,none⟩ (.pointer none)).setCell ⟨H+1,1,none⟩ (.slice none 0 0)):=⟨rfl,⟨_,by rw[hfl.out];exact J6⟩,by
   refine F.trans ?_;exact F6⟩
  have qB:=af HE;clear HE F6 J6 F J5 hbk hfl HJ;go_wp2_with fail;refine CR.out.mono ?_;rintro e w6 ⟨rfl,hw6⟩;rw[←hw6]at qB;clear hw6;go_wp2;exact bodyPost_end (results_none rfl _ _ _) rfl qB.out
end Go.Proofs.YtichfhpgdhdiaaaGreat
