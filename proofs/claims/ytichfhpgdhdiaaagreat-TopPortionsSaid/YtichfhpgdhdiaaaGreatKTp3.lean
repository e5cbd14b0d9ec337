/- Top -/
import Derived.Test.YtichfhpgdhdiaaaGreatJ46
import Derived.Test.YtichfhpgdhdiaaaGreatJ3
set_option maxRecDepth 100000
set_option maxHeartbeats 8000000
set_option linter.unusedVariables false
set_option linter.unusedSimpArgs false
open Go.Proofs.Tryz
namespace Go.Proofs.YtichfhpgdhdiaaaGreat
open Go.RowKit
theorem PE(m:Nat):∀(ls:List (List Dg)),(∀x∈ls,x.length≤m)→(ls.flatten).length≤ls.length*m
 |[],_=>by simp
 |x::ls,h=>by
  rw[List.flatten_cons,aj,aI,dx,Nat.one_mul];have h1:=h x gu ;have h2:=PE m ls fun y hy=>h y (by simp[hy])
  omega
theorem Ja(w:World)(v u:Value)(p:List It)(ls:List (List Dg))(h:og w v p)(g:Ru w u ls):
  Calls prog 3 #[v,u] w fun e w'=>e=.returned (.bool true)∧Below w.heap.size w w':=by
 obtain⟨A,c,rfl,hc,hm⟩:=h.form;obtain⟨B,d,rfl,hd,hn⟩:=g.form;obtain⟨i1,hi1,hy0,hy1,hy2⟩:=info_parts Tryz.Cv;have HP:=af h;have HG:=af g;have CA:=af Ca;clear h g;by_cases h4:ls.length≤4
 ·have h4n:¬(4:Int)<(ls.length:Int):=by omega
  have CS:=af (He w _ _ p ls HP.out HG.out);go_enter func3,ntmps3;go_wp2_with fail;refine CS.out.mono ?_;rintro e w1 ⟨b,rfl,hsm,hb1⟩;have HB1:=af hb1;have HSM:=af hsm;clear hb1 hsm CS;cases b with
  |false =>
   go_wp2_with fail;refine(CA.out w1).mono ?_;rintro e w2 ⟨rfl,hb2⟩;have HB2:=(hTr HB1 hb2);clear hb2;go_wp2;go_ret;exact⟨rfl,HB2.out⟩
  |true =>
   have HS:=af (HSM.out rfl);clear HSM;have hpl:=HS.out.2.1;have k1:=HB1.out.alloc HB1.out.size (.cells #[] 74);have k2:=k1.alloc k1.size (.cells #[] 39);have HB2:=af k2;have HV0:Hid (og ((w1.alloc (.cells #[] 74)).alloc (.cells #[] 39)) (.slice (some ⟨w1.heap.size,0,none⟩) 0 0) (jI p (ls.take 0).flatten)):=by
    show og _ _ _;rw[bO,fK,vR];exact⟨_,0,[],rfl,ak _,by unfold maxLen;omega,fun k u hu=>by simp at hu,rfl⟩
   have YC:Hid (qi ((w1.alloc (.cells #[] 74)).alloc (.cells #[] 39)) (.slice (some ⟨w1.heap.size+1,0,none⟩) 0 0) (ls.take 0).flatten):=by
    show qi _ _ _;rw[bO,fK];exact⟨_,0,[],rfl,ak _,by unfold maxLen;omega,fun k u hu=>by simp at hu,rfl⟩
   clear k1 k2 HB1;go_wp2;generalize (w1.alloc (.cells #[] 74)).alloc (.cells #[] 39)=w2 at *;go_loopw [5,6,27] (fun hv av iv wr=>∃(k:Nat) (A1:Option Addr) (c1:Nat) (A2:Option Addr) (c2:Nat),k≤ls.length∧iv=.int .i64 k∧hv=.slice A1 (jI p (ls.take k).flatten).length c1∧av=.slice A2 (ls.take k).flatten.length c2∧Hid (og wr (.slice A1 (jI p (ls.take k).flatten).length c1) (jI p (ls.take k).flatten))∧Hid (qi wr (.slice A2 (ls.take k).flatten.length c2) (ls.take k).flatten)∧Hid (Below w.heap.size w wr)) (fun _ _ iv _=>ls.length-(intOf iv).toNat)
   case atStart=>exact⟨0,_,0,_,0,by omega,rfl,by rw[bO,fK,vR];rfl,by rw[bO,fK];rfl,by
    have h:=HV0.out;rw[bO,fK,vR]at h ⊢;exact h,by
    have h:=YC.out;rw[bO,fK]at h ⊢;exact h,HB2⟩
   case round =>
    clear HV0 YC HB2;obtain⟨k,A1,c1,A2,c2,hk,rfl,rfl,rfl,HV,HA,HB⟩:=hrel;have hLk:((ls.take k).flatten).length≤40:=by
     have h1:=PE 10 (ls.take k) fun x hx=>HS.out.2.2.2 x (dZ hx)
     have h2:(ls.take k).length≤4:=by rw[aH];omega
     omega
    by_cases hlt:k<ls.length
    ·have hlt':(k:Int)<(ls.length:Int):=by omega
     obtain⟨x,hx⟩:∃x,ls[k]?=some x:=⟨_,au hlt⟩;obtain⟨bx,ox,Ax,cx,rfl,Vt,aay⟩:=HG.out.get hx;have q0:=dO HB.out _ _ _ Vt;have HX0:=af aay;have uJ:=aay.keep (dO HB.out);clear Vt aay;have hxl:=HS.out.2.2.2 x (aV hx);have HFN:Hid ((ls.take (k+1)).flatten=(ls.take k).flatten++x):=by show _=_;rw[take_snoc' hx];simp
     obtain⟨L,hL⟩:∃L,L=(ls.take k).flatten:=⟨_,rfl⟩;rw[←hL]at HV HA HFN hLk ⊢;have CP:=af (tq wr _ _ _ p x L (HP.out.keep (dO HB.out)) uJ HA.out HS.out.1 fZ fZ fZ );have QO:=af uJ;clear hL uJ hx;go_wp2_with fail;refine CP.out.mono ?_;rintro e w3 ⟨hb3,⟨hok,s,Uv,rfl⟩|⟨_,kk,hkk,rfl⟩⟩
     ·have wV:=af (HV.out.keep (dO hb3));have HA3:=af (HA.out.keep (dO hb3));have Cu:=af (QO.out.keep (dO hb3));have HB3:=(hTr HB hb3);have CU:=af (uE w3 _ p x L L s wV.out HS.out.1 fZ hok Uv (fun b hb=>hb));clear CP hb3 HV HA HB QO q0 hok Uv;go_wp2_with fail;refine CU.out.mono ?_;rintro e w4 ⟨A4,c4,rfl,hp4,hb4⟩;have hal:=hb4.alloc hb4.size (.cells #[] 39);have Nc:=af (hp4.keep (Keeps.alloc w4 (.cells #[] 39)));have HA4:=af (HA3.out.keep (dO hal));have HX4:=af (Cu.out.keep (dO hal))
      have kY:=(hTr HB3 hal);have hbs:w.heap.size≤w4.heap.size:=aS HB3.out.size hb4.size;have hown:=Bj w4 39 2;have adR:=af hp4;clear CU hp4 hb4 hal wV HA3 Cu HB3;have hdl:(L.flatMap rq).length=L.length*2:=lU Dn L;have aan:(x.flatMap rq).length=x.length*2:=lU Dn x;go_wp2_with (first
       |(at_builtin;refine iE _ rfl (.tmp 50) (.tmp 51) 27 rfl w4.heap.size 39 i1 _ 2 16 underlying27 hi1 hy0 hy1 hy2 rfl fZ (.slice (some ⟨w4.heap.size,0,none⟩) 0 0) 0 _ rfl hown _ L.length _ (L.flatMap rq) rfl hdl (tu HA4.out) (zY L) fZ fZ gu ?_;intro v5 w5 hown5 hgr5 _;simp only[bH,aO]at hown5;obtain⟨A5,c5,rfl⟩:=iw hown5)
       |(at_builtin;refine iE _ rfl (.tmp 52) (.tmp 53) 27 rfl w4.heap.size 39 i1 _ 2 16 underlying27 hi1 hy0 hy1 hy2 rfl fZ (.slice A5 L.length c5) L.length _ rfl hown5 _ x.length _ (x.flatMap rq) rfl aan (tu (HX0.out.keep (dO (kY.out.grown hgr5 kY.out.size (fun q e=>by cases e;exact hbs))))) (zY x) fZ fZ (by have:=hgr5.size;simp at this;omega) ?_;intro v6 w6 hown6 aaz _;obtain⟨A6,c6,rfl⟩:=iw hown6))
      have K4:Below w4.heap.size w4 w6:=(((ah w4.heap.size w4).alloc (ak _) (.cells #[] 39)).grown hgr5 gu (fun q e=>by cases e;exact ak _)).grown aaz (by have:=hgr5.size;simp at this;omega) (fun q e=>(hown5.lt q e).1);have sI:=af ((kY.out.grown hgr5 kY.out.size (fun q e=>by cases e;exact hbs)).grown aaz (by have:=hgr5.size;have:=kY.out.size;omega) (fun q e=>aS hbs (hown5.lt q e).1));have Yj:=af (adR.out.keep (dO K4));have HA6:Hid (qi w6 (.slice A6 (L++x).length c6) (L++x)):=by
       rw[←aZ,←aj]at hown6;exact ze hown6
      rw[←aj];rw[←HFN.out]at Yj HA6 ⊢;clear hown hown5 hown6 hgr5 aaz K4 kY Nc adR HA4 HX4 HFN;go_roundw
      case rel=>exact⟨k+1,A4,c4,A6,c6,by omega,by go_num,rfl,rfl,Yj,HA6,sI⟩
      case measure=>simp[intOf];omega
     ·have hkb:(kk != 0)=true:=by simpa using hkk
      have HB3:=(hTr HB hb3);clear CP hb3 HV HA HB QO q0 hkk;go_wp2_with fail;refine(CA.out w3).mono ?_;rintro e w4 ⟨rfl,hb4⟩;have kY:=(hTr HB3 hb4);clear hb4 HB3;go_wp2;go_ret;exact⟨rfl,kY.out⟩
    ·obtain rfl:k=ls.length:=by omega
     have hlt':¬(ls.length:Int)<(ls.length:Int):=by omega
     generalize (ls.take ls.length).flatten=L at *;have CK:=af (EU wr _ _ p L (HP.out.keep (dO HB.out)) HA.out fZ fZ );go_wp2_with fail;refine CK.out.mono ?_;rintro e w3 ⟨z,rfl,hz,hb3⟩;obtain⟨Az,cz,rfl,_,_⟩:=hz.form;have CS:=Bw w3 _ _ (jI p L) (jI p L) (HV.out.keep (dO hb3)) hz;rw[decide_eq_true rfl]at CS;have CS:=af CS;have HB3:=(hTr HB hb3);clear CK hz hb3 HV HA HB;go_wp2_with fail;refine CS.out.mono ?_;rintro e w4 ⟨rfl,hb4⟩;have kY:=af (HB3.out.trans ((hb4.below _).mono HB3.out.size));clear CS hb4 HB3;go_wp2_with fail;refine(CA.out w4).mono ?_
     rintro e w5 ⟨rfl,hb5⟩;have pq:=(hTr kY hb5);clear hb5 kY;go_wp2;go_ret;exact⟨rfl,pq.out⟩
 ·have h4n:(4:Int)<(ls.length:Int):=by omega
  go_enter func3,ntmps3;go_wp2_with fail;refine(CA.out w).mono ?_;rintro e w2 ⟨rfl,hb2⟩;have HB2:=af hb2;clear hb2;go_wp2;go_ret;exact⟨rfl,HB2.out⟩
end Go.Proofs.YtichfhpgdhdiaaaGreat
