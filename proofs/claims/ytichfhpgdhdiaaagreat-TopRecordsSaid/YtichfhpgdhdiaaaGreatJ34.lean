/- Pools -/
import Derived.Test.YtichfhpgdhdiaaaGreatJ33
import Derived.Test.YtichfhpgdhdiaaaGreatJ27
import Derived.Test.YtichfhpgdhdiaaaGreatJ3
import Derived.Test.YtichfhpgdhdiaaaGreatJ11
import Derived.Test.YtichfhpgdhdiaaaGreatJ2
import Derived.Test.YtichfhpgdhdiaaaGreatJ15
set_option maxRecDepth 100000
set_option maxHeartbeats 8000000
set_option linter.unusedVariables false
set_option linter.unusedSimpArgs false
open Go.Proofs.Tryz
namespace Go.Proofs.YtichfhpgdhdiaaaGreat
open Go.RowKit
theorem BA(w:World)(v:Value)(p:List It)(d:Dg)(h:og w v p)(hs:pO p)(hp:p.length≤1000000):
  Calls prog 35 #[v,lS d] w (YQ p d w):=by
 have HK:=af ((ah w.heap.size w).alloc (ak _) (.cells #[.int .u64 (d.1.toNat:Int),.int .u64 (d.2.toNat:Int)] 39));have hB:=gV.new w #[.int .u64 (d.1.toNat:Int),.int .u64 (d.2.toNat:Int)] 39;have k0:=hB.cl 0;have k1:=hB.cl 1;have CB:=Md _ v p d (h.keep (dO HK.out)) hs hp;unfold lS OD at CB;have CB:=af CB;clear hB h hs;unfold lS;go_enter func35,ntmps35;go_wp2_with fail;refine CB.out.mono ?_;rintro e w1 ⟨i,hi,rfl,hb⟩;have HB:=(hTr HK hb);have HI:=af hi;clear hb CB HK hi;go_wp2
 go_ret2;exact⟨i,HI.out,rfl,HB.out⟩
theorem Ma(w:World)(v:Value)(p:List It)(d:Dg)(h:og w v p)(hs:pO p)(hp:p.length≤1000000):
  Calls prog 26 #[v,lS d] w fun e w'=>e=.returned (.bool (mD p d))∧Below w.heap.size w w':=by
 have HK:=af ((ah w.heap.size w).alloc (ak _) (.cells #[.int .u64 (d.1.toNat:Int),.int .u64 (d.2.toNat:Int)] 39));have hB:=gV.new w #[.int .u64 (d.1.toNat:Int),.int .u64 (d.2.toNat:Int)] 39;have k0:=hB.cl 0;have k1:=hB.cl 1;have CB:=BA _ v p d (h.keep (dO HK.out)) hs hp;unfold lS at CB;have CB:=af CB;clear hB h hs;unfold lS;go_enter func26,ntmps26;go_wp2_with fail;refine CB.out.mono ?_;rintro e w1 ⟨i,hi,rfl,hb⟩;have HB:=(hTr HK hb);clear hb CB HK hi;go_wp2;go_ret;exact⟨rfl,HB.out⟩
def jI(p:List It)(l:List Dg):List It:=p.filter fun x=>decide (x.1∈l)
theorem Tryz.wS:(Tryz.prog.info? 74).map (fun i=>(i.zero,i.size,i.bytes))=some (some (.agg #[.int .u64 0,.int .u64 0,.string ⟨#[]⟩]),3,32):=by kernel_rfl
theorem Tryz.Cv:(Tryz.prog.info? 39).map (fun i=>(i.zero,i.size,i.bytes))=some (some (.agg #[.int .u64 0,.int .u64 0]),2,16):=by kernel_rfl
def nu(l:List Dg):Dg→Option Value:=fun d=>if d∈l then some (.bool true)else none
theorem Bt(l:List Dg)(d:Dg):uD (nu l) d (.bool true)=nu (l++[d]):=by
 funext y
 unfold uD nu;by_cases h:y=d
 ·simp[h]
 ·simp[h]
theorem take_snoc'{α : Type}{l:List α}{k:Nat}{x : α}(hx:l[k]?=some x):l.take (k+1)=l.take k++[x]:=by
 obtain⟨h,rfl⟩:=ay.1 hx;exact aN h
theorem Me{p:List It}{l:List Dg}{k:Nat}{x:It}(hx:p[k]?=some x):jI (p.take (k+1)) l=jI (p.take k) l++(if x.1∈l then[x]else[]):=by
 unfold jI;rw[take_snoc' hx,List.filter_append];congr 1;by_cases h:x.1∈l<;>simp[h]
theorem EU(w:World)(v u:Value)(p:List It)(l:List Dg)(h:og w v p)(g:qi w u l)(hp:p.length≤1000000)(hl:l.length≤1000000):
  Calls prog 12 #[v,u] w fun e w'=>∃z,e=.returned z∧og w' z (jI p l)∧Below w.heap.size w w':=by
 obtain⟨A,c,rfl,hc,hm⟩:=h.form;obtain⟨B,d,rfl,hd,hn⟩:=g.form;obtain⟨i1,hi1,hy0,hy1,hy2⟩:=info_parts Tryz.wS;have hmm:=@run_makeMap prog;have HK:=af ((ah w.heap.size w).alloc (ak _) (.map #[] 0));have HM:Hid (ol (w.alloc (.map #[] 0)) w.heap.size 0 (nu [])):=by
  have:(nu []:Dg→Option Value)=fun _=>none:=by funext y;simp[nu]
  show ol _ _ _ _;rw[this];exact pJ w
 have HP:=af h;have HG:=af g;clear h g;go_enter func12,ntmps12;go_wp2;go_loopw [14] (fun iv wr=>∃k:Nat,k≤l.length∧iv=.int .i64 k∧Hid (ol wr w.heap.size k (nu (l.take k)))∧Below w.heap.size w wr) (fun iv _=>l.length-(intOf iv).toNat)
 case atStart=>exact⟨0,by omega,rfl,HM,HK.out⟩
 case round =>
  clear HM HK;obtain⟨k,hk,rfl,Je,hbw⟩:=hrel;by_cases hlt:k<l.length
  ·obtain⟨x,hx⟩:∃x,l[k]?=some x:=⟨_,au hlt⟩;obtain⟨b1,o1,rfl,c0,c1⟩:=(HG.out.keep (dO hbw)).get hx;obtain⟨kl,hkl⟩:=nk x;unfold lS at hkl;have Ji:=af (Je.out.alloc (.cells #[.int .u64 (x.1.toNat:Int),.int .u64 (x.2.toNat:Int)] 39));have HB2:=af (hbw.alloc hbw.size (.cells #[.int .u64 (x.1.toNat:Int),.int .u64 (x.2.toNat:Int)] 39));have hlk:(l.take k).length=k:=by rw[aH];omega
   clear Je hbw;go_wp2_with (at_mapUpdate;refine kC _ rfl _ _ _ _ rfl lX underlying75 kN Ji.out (by unfold maxLen;omega) rfl x rfl hkl _ rfl rfl ?_;intro w1 hM1 hg1 hs1);have JY:Hid (ol w1 w.heap.size (k+1) (nu (l.take (k+1)))):=by
    show ol _ _ _ _;rw[take_snoc' hx,←Bt];exact hM1
   have HB3:=af (HB2.out.grown hg1 HB2.out.size (fun g h=>by cases h;exact ak _));clear hM1 hg1 hs1 Ji HB2 hx hkl;go_roundw
   case rel=>exact⟨k+1,by omega,by go_num,JY,HB3.out⟩
   case measure=>simp[intOf];omega
  ·obtain rfl:k=l.length:=by omega
   generalize wr=wa at *;have JY:Hid (ol wa w.heap.size l.length (nu l)):=by
    have h:=Je.out;rw[aF (ak _)]at h;exact h
   have o8:=af hbw;have hlt':¬(l.length:Int)<(l.length:Int):=by omega
   clear Je hbw hk HG;have Jz:Hid (wa.ownsRow wa.heap.size 74 3 (.slice none 0 0) 0 []):=World.ownsRow_nil _ _ _ _;go_wp2;go_loopw [8,23] (fun vl iv w2=>∃k:Nat,k≤p.length∧iv=.int .i64 k∧w2.ownsRow wa.heap.size 74 3 vl (jI (p.take k) l).length ((jI (p.take k) l).flatMap sG)∧Below wa.heap.size wa w2) (fun _ iv _=>p.length-(intOf iv).toNat)
   case atStart=>exact⟨0,by omega,rfl,Jz.out,ah _ _⟩
   case round =>
    clear Jz;obtain⟨k,hk,rfl,hown,hb2⟩:=hrel;have HMr:=af (JY.out.keep hb2);have I8:=(hTr o8 hb2);have hpk:=HP.out.keep (dO I8.out);by_cases hlt2:k<p.length
    ·obtain⟨x,hx⟩:∃x,p[k]?=some x:=⟨_,au hlt2⟩;obtain⟨b1,o1,rfl,c0,c1,c2⟩:=hpk.get hx;obtain⟨kl,hkl⟩:=nk x.1;have hft:=Me (l:=l) hx;have aar:(jI (p.take k) l).length≤k:=by
      unfold jI;exact aS (List.length_filter_le _ _) (by rw[aH];omega)
     obtain⟨b2,rest,cc,w3,hw3⟩:∃(b2 rest cc:Nat) (w3:World),w3=wr.alloc (.cells #[.int .u64 (x.1.1.toNat:Int),.int .u64 (x.1.2.toNat:Int),.string (fu x.2)] 74):=⟨0,0,0,_,rfl⟩;have hbx:=gV.new wr #[.int .u64 (x.1.1.toNat:Int),.int .u64 (x.1.2.toNat:Int),.string (fu x.2)] 74;have hal:=(ah wr.heap.size wr).alloc (ak _) (.cells #[.int .u64 (x.1.1.toNat:Int),.int .u64 (x.1.2.toNat:Int),.string (fu x.2)] 74);have Pt:=HMr.out.keep hal;have Fv:=af (hown.alloc (.cells #[.int .u64 (x.1.1.toNat:Int),.int .u64 (x.1.2.toNat:Int),.string (fu x.2)] 74))
     have kY:=af (hb2.trans (hal.mono hb2.size));rw[←hw3]at hbx Pt Fv kY;have hs4:=kY.out.size;have nG:=af hbx;have Pt:=af Pt;clear hown hb2 HMr I8 hpk hal hbx;unfold lS at hkl;go_upto_region 11 with (fail);rw[←hw3];generalize wr.heap.size=gx at *;clear hw3 b2 rest cc c0 c1 c2;have q0:w3.cell? ⟨gx,0,none⟩=some (.int .u64 (x.1.1.toNat:Int)):=nG.out.cl 0;have q1:w3.cell? ⟨gx,1,none⟩=some (.int .u64 (x.1.2.toNat:Int)):=nG.out.cl 1;have q2:w3.cell? ⟨gx,2,none⟩=some (.string (fu x.2)):=nG.out.cl 2;by_cases hin:x.1∈l
     ·have hv:(nu l x.1).getD (.bool false)=.bool true:=by unfold nu;rw[if_pos hin];rfl
      rw[if_pos hin]at hft;go_wp2_with (first|(at_lookup;refine kR false _ rfl _ _ _ rfl lX underlying75 kN Pt.out (sW _) rfl x.1 rfl hkl ?_;simp only[hv])|(at_builtin;go_must (refine iE _ rfl (.tmp 31) (.tmp 33) _ rfl wa.heap.size 74 i1 _ 3 32 underlying23 hi1 hy0 hy1 hy2 rfl fZ u8 (jI (p.take k) l).length _ rfl (Fv.out.alloc _) _ 1 1 [.int .u64 (x.1.1.toNat:Int),.int .u64 (x.1.2.toNat:Int),.string (fu x.2)] rfl rfl (gY _ _ _ _) (by simp[Value.oneCell']) fZ fZ (by simp;omega) ?_;intro v4 w4 iU jl rT)))
      have ZJ:Hid (w4.ownsRow wa.heap.size 74 3 v4 (jI (p.take (k+1)) l).length ((jI (p.take (k+1)) l).flatMap sG)):=by
       show World.ownsRow _ _ _ _ _ _ _;rw[hft,aZ,aj,aQ];exact iU
      have pq:=af ((kY.out.alloc hs4 (.cells #[.int .u64 (x.1.1.toNat:Int),.int .u64 (x.1.2.toNat:Int),.string (fu x.2)] 74)).grown jl (by simp;omega) (fun g h=>(Fv.out.lt g h).1));clear iU jl rT Fv kY q0 q1 q2 hft;go_roundw
      case rel=>exact⟨k+1,by omega,by go_num,ZJ.out,pq.out⟩
      case measure=>simp[intOf];omega
     ·have hv:(nu l x.1).getD (.bool false)=.bool false:=by unfold nu;rw[if_neg hin];rfl
      rw[if_neg hin,aU]at hft;have HFT:=af hft;clear hft;go_wp2_with (at_lookup;refine kR false _ rfl _ _ _ rfl lX underlying75 kN Pt.out (sW _) rfl x.1 rfl hkl ?_;simp only[hv]);go_roundw
      case rel=>exact⟨k+1,by omega,by go_num,by rw[HFT.out];exact Fv.out,kY.out⟩
      case measure=>simp[intOf];omega
    ·have hlt3:¬(k:Int)<(p.length:Int):=by omega
     have hk2:p.take k=p:=aF fZ ;rw[hk2]at hown;have HR:=af (Px hown);have HB:=(hTr o8 hb2);clear hown hb2 hpk HMr I8 hk2;go_wp2;go_ret;exact⟨_,rfl,HR.out,HB.out⟩
end Go.Proofs.YtichfhpgdhdiaaaGreat
namespace Go.Proofs.YtichfhpgdhdiaaaGreat
open Go.RowKit
theorem Jj:∀(l:List It),∀u∈l.flatMap sG,u.oneCell'=true:=fun l u hu=>by
 obtain⟨x,_,hx⟩:=List.mem_flatMap.1 hu;simp only[sG,bC,List.not_mem_nil,or_false]at hx;rcases hx with rfl|rfl|rfl<;>simp[Value.oneCell']
theorem EW(l:List It):(l.flatMap sG).length=l.length*3:=lU Pw l
theorem Q9(W:World)(n:Nat)(h1:1≤n)(h2:n≤1000000):
  Calls prog 125 #[.slice none 0 0,.int .i64 n] W fun e w'=>∃v,e=.returned v∧w'.ownsRow W.heap.size 74 3 v 0 []∧Below W.heap.size W w':=by
 obtain⟨i1,hi1,hy0,hy1,hy2⟩:=info_parts Tryz.wS;have hr:∀ty,(Builtin.append_ #[23, 3] ty #[.slice none 0 0,.int .i64 (n:Int)]).run prog W =
   .ok (.slice (some ⟨W.heap.size,0,none⟩) n (grownCap W n 0 74)) (W.drew.alloc (.cells (Builtin.zeroCells (Value.agg #[.int .u64 0,.int .u64 0,.string ⟨#[]⟩]).cells n++Builtin.zeroCells (Value.agg #[.int .u64 0,.int .u64 0,.string ⟨#[]⟩]).cells (grownCap W n 0 74-n)) 74)):=fun ty=>by
  have h:=Lib.run_append_grow_zeros W 23 3 ty 74 i1 _ .i64 .i64 underlying23 underlying3 hi1 hy0 none 0 0 [] (run_firstCells_none W.drew i1.size 0 0 0) n fZ fZ fZ fZ (by rw[hy2];omega) (by rw[hy2];exact growslice_fits fZ fZ );simpa using h
 have hG:=grownCap_ge W n 0 74;have hG2:=grownCap_le_maxLen W n 0 74 (by unfold maxLen;omega);have hG3:grownCap W n 0 74≤9223372036854775807:=by unfold maxLen at hG2;omega
 generalize grownCap W n 0 74=G at *;have hsz:(Builtin.zeroCells (Value.agg #[.int .u64 0,.int .u64 0,.string ⟨#[]⟩]).cells n++Builtin.zeroCells (Value.agg #[.int .u64 0,.int .u64 0,.string ⟨#[]⟩]).cells (G-n)).size=G*3:=by
  rw[Array.size_append,size_zeroCells,size_zeroCells];have:(Value.agg #[.int .u64 0,.int .u64 0,.string ⟨#[]⟩]).cells.size=3:=rfl;rw[this];omega
 have hown:=World.ownsRow_made (base:=W.heap.size) (e:=74) (size:=3) W.drew _ G (ak _) hG2 hsz;have hbl:=(kG (ah W.heap.size W)).alloc (ak _) (.cells (Builtin.zeroCells (Value.agg #[.int .u64 0,.int .u64 0,.string ⟨#[]⟩]).cells n++Builtin.zeroCells (Value.agg #[.int .u64 0,.int .u64 0,.string ⟨#[]⟩]).cells (G-n)) 74);have HR:=af hr;clear hr hsz;generalize W.drew.alloc (.cells (Builtin.zeroCells (Value.agg #[.int .u64 0,.int .u64 0,.string ⟨#[]⟩]).cells n++Builtin.zeroCells (Value.agg #[.int .u64 0,.int .u64 0,.string ⟨#[]⟩]).cells (G-n)) 74)=w1 at *
 go_enter func125,ntmps125;go_wp2_with (at_builtin;go_must (refine Lib.wpList_append_run _ rfl (.tmp 20) (.tmp 21) _ _ rfl _ _ rfl rfl _ _ (HR.out _) ?_));go_ret;exact⟨_,rfl,hown,hbl⟩
def zX(X Y Z:List It):Nat→List It
 |0=>[]
 |1=>X
 |2=>X++Y
 |_=>X++Y++Z
theorem Mf(W:World)(b:Nat)(A1 A2 A3:Option Addr)(c1 c2 c3:Nat)(X Y Z:List It)(hn:X.length+Y.length+Z.length≤100000)(hpos:1≤Y.length)(_h1:X.length≤c1)(_h2:Y.length≤c2)(_h3:Z.length≤c3)(_m1:c1≤9223372036854775807)(_m2:c2≤9223372036854775807)(_m3:c3≤9223372036854775807)(q0:W.cell? ⟨b,0,none⟩=some (.slice A1 X.length c1))(q1:W.cell? ⟨b,1,none⟩=some (.slice A2 Y.length c2))(q2:W.cell? ⟨b,2,none⟩=some (.slice A3 Z.length c3))(hx:iM W A1 (X.flatMap sG))(hy:iM W A2 (Y.flatMap sG))(hz:iM W A3 (Z.flatMap sG)):
  Calls prog 76 #[.slice (some ⟨b,0,none⟩) 3 3] W fun e w'=>∃v,e=.returned v∧og w' v (X++Y++Z)∧Below W.heap.size W w':=by
 obtain⟨i1,hi1,hy0,hy1,hy2⟩:=info_parts Tryz.wS;have cg:=Q9 W (X.length+Y.length+Z.length) fZ fZ ;have e1:IntKind.i64.wrap ((X.length:Int)+(Y.length:Int))=((X.length+Y.length:Nat):Int):=by rw[jo fZ fZ ];omega
 have e2:IntKind.i64.wrap (((X.length+Y.length:Nat):Int)+(Z.length:Int))=((X.length+Y.length+Z.length:Nat):Int):=by rw[jo fZ fZ ];omega
 have CG:=af cg;clear cg;go_enter func76,ntmps76;go_wp2;go_loop [3,11] (fun s t=>(t=.int .i64 0∧s=.int .i64 0)∨(t=.int .i64 1∧s=.int .i64 X.length)∨(t=.int .i64 2∧s=.int .i64 ((X.length+Y.length:Nat):Int))∨(t=.int .i64 3∧s=.int .i64 ((X.length+Y.length+Z.length:Nat):Int))) (fun _ t=>3-(intOf t).toNat)
 case atStart=>exact .inl ⟨rfl,rfl⟩
 case round =>
  rcases hrel with ⟨rfl,rfl⟩|⟨rfl,rfl⟩|⟨rfl,rfl⟩|⟨rfl,rfl⟩
  ·go_wp2;go_round
   case rel=>exact .inr (.inl ⟨rfl,by first|rfl|go_num⟩)
   case measure=>simp[intOf]
  ·go_wp2;go_round
   case rel=>exact .inr (.inr (.inl ⟨rfl,by first|rfl|go_num⟩))
   case measure=>simp[intOf]
  ·go_wp2;go_round
   case rel=>exact .inr (.inr (.inr ⟨rfl,by first|rfl|go_num⟩))
   case measure=>simp[intOf]
  ·go_wp2_with fail;refine CG.out.mono ?_;clear CG;rintro e w1 ⟨v1,rfl,hown,hb1⟩;go_wp2;go_loopw [6,27] (fun v t wr=>∃k:Nat,k≤3∧t=.int .i64 k∧wr.ownsRow W.heap.size 74 3 v (zX X Y Z k).length ((zX X Y Z k).flatMap sG)∧Below W.heap.size W wr) (fun _ t _=>3-(intOf t).toNat)
   case atStart=>exact⟨0,by omega,rfl,hown,hb1⟩
   case round =>
    clear hown hb1;obtain⟨k,hk,rfl,hown,hd⟩:=hrel;have hB:=hd.size;have hx1:=hx.keep (dO hd);have ahp:=hy.keep (dO hd);have hz1:=hz.keep (dO hd);have r0:=(dO hd) _ _ _ q0;have r1:=(dO hd) _ _ _ q1;have r2:=(dO hd) _ _ _ q2
    match k,hk with
    |0,_ =>
     have hown0:wr.ownsRow W.heap.size 74 3 u6 0 []:=hown;go_wp2_with (at_builtin;go_must (refine iE _ rfl (.tmp 31) (.tmp 32) _ rfl W.heap.size 74 i1 _ 3 32 underlying23 hi1 hy0 hy1 hy2 rfl fZ _ 0 [] rfl hown0 A1 X.length c1 (X.flatMap sG) rfl (EW X) hx1 (Jj X) fZ fZ hB ?_));intro v2 w2 hown2 hgr hat;have hd2:=hd.grown hgr hB (fun g' h=>(hown0.lt g' h).1);have hown3:w2.ownsRow W.heap.size 74 3 v2 (zX X Y Z 1).length ((zX X Y Z 1).flatMap sG):=by simpa [zX] using hown2
     clear hown2 hgr hat hown hown0 hd;go_wp2;go_roundw
     case rel=>exact⟨1,by omega,rfl,hown3,hd2⟩
     case measure=>simp[intOf]
    |1,_ =>
     have hown0:wr.ownsRow W.heap.size 74 3 u6 X.length (X.flatMap sG):=hown;go_wp2_with (at_builtin;go_must (refine iE _ rfl (.tmp 31) (.tmp 32) _ rfl W.heap.size 74 i1 _ 3 32 underlying23 hi1 hy0 hy1 hy2 rfl fZ _ X.length (X.flatMap sG) rfl hown0 A2 Y.length c2 (Y.flatMap sG) rfl (EW Y) ahp (Jj Y) fZ fZ hB ?_));intro v2 w2 hown2 hgr hat;have hd2:=hd.grown hgr hB (fun g' h=>(hown0.lt g' h).1);have hown3:w2.ownsRow W.heap.size 74 3 v2 (zX X Y Z 2).length ((zX X Y Z 2).flatMap sG):=by
      show w2.ownsRow _ _ _ _ (X++Y).length ((X++Y).flatMap sG);rw[aZ,aj];exact hown2
     clear hown2 hgr hat hown hown0 hd;go_wp2;go_roundw
     case rel=>exact⟨2,by omega,rfl,hown3,hd2⟩
     case measure=>simp[intOf]
    |2,_ =>
     have hown0:wr.ownsRow W.heap.size 74 3 u6 (X.length+Y.length) ((X++Y).flatMap sG):=by
      have h:wr.ownsRow W.heap.size 74 3 u6 (X++Y).length ((X++Y).flatMap sG):=hown;rwa [aj]at h
     go_wp2_with (at_builtin;go_must (refine iE _ rfl (.tmp 31) (.tmp 32) _ rfl W.heap.size 74 i1 _ 3 32 underlying23 hi1 hy0 hy1 hy2 rfl fZ _ (X.length+Y.length) ((X++Y).flatMap sG) rfl hown0 A3 Z.length c3 (Z.flatMap sG) rfl (EW Z) hz1 (Jj Z) fZ fZ hB ?_));intro v2 w2 hown2 hgr hat;have hd2:=hd.grown hgr hB (fun g' h=>(hown0.lt g' h).1);have hown3:w2.ownsRow W.heap.size 74 3 v2 (zX X Y Z 3).length ((zX X Y Z 3).flatMap sG):=by
      show w2.ownsRow _ _ _ _ (X++Y++Z).length ((X++Y++Z).flatMap sG);have e1':(X++Y++Z).flatMap sG=X.flatMap sG++(Y.flatMap sG++Z.flatMap sG):=by rw[aZ,aZ,aA]
      have e2':(X++Y++Z).length=X.length+Y.length+Z.length:=by rw[aj,aj]
      rw[e1',e2'];exact hown2
     clear hown2 hgr hat hown hown0 hd;go_wp2;go_roundw
     case rel=>exact⟨3,by omega,rfl,hown3,hd2⟩
     case measure=>simp[intOf]
    |3,_ =>
     go_wp2;go_ret;exact⟨_,rfl,Px hown,hd⟩
end Go.Proofs.YtichfhpgdhdiaaaGreat
namespace Go.Proofs.YtichfhpgdhdiaaaGreat
open Go.RowKit
theorem pR:∀(l:List It) (vs:List Value),jF 3 (fun us x=>us=sG x) l vs→vs=l.flatMap sG
 |[],vs,h=>h
 |x::l,vs,⟨us,vs',e,_,h1,h2⟩=>by rw[e,h1,pR l vs' h2,aG]
theorem G8{w:World}{A:Option Addr}{n c:Nat}{l:List It}(h:og w (.slice A n c) l):iM w A (l.flatMap sG)∧l.length≤c∧c≤9223372036854775807:=by
 obtain⟨A',c',vs,e,h1,h2,h3,h4⟩:=h;cases e;rw[pR _ _ h4]at h3;exact⟨h3,h1,by unfold maxLen at h2;omega⟩
theorem aas{w:World}{A:Option Addr}{n c:Nat}{l:List It}(h:og w (.slice A n c) l){i:Nat}(hi:i≤n):og w (.slice A i c) (l.take i):=by
 have:=Sl.sliced h (i:=0) (j:=i) fZ hi;simp only[eP,dY]at this;unfold Go.sliced at this;rw[eP,eP]at this;have hA:(if c=0 then A else A.map (·.add (0*3)))=A:=by
  split
  ·rfl
  ·cases A with
   |none=>rfl
   |some a =>
    obtain⟨b,o,s⟩:=a;cases s<;>rfl
 rw[hA]at this;exact this
theorem UW{w:World}{A:Option Addr}{n c:Nat}{l:List It}(h:og w (.slice A n c) l){i:Nat}(hi:i≤n):og w (.slice (if c=i then A else Option.map (fun x=>x.add (i*3)) A) (n-i) (c-i)) (l.drop i):=by
 have hn:n=l.length:=by
  obtain⟨_,_,_,e,_⟩:=h;cases e;rfl
 have:=Sl.sliced h (i:=i) (j:=n) hi gF;rw[aF (by rw[aC];omega)]at this;exact this
def FQ(p:List It)(x:It):List It:=(p.filter fun y=>decide (kV y.1 x.1))++[x]++p.filter fun y=>!decide (kV y.1 x.1)
def nQ(p:List It)(x:It):List It×Int:=if mD p x.1 then(if x∈p then(p,0)else([],16))else(FQ p x,0)
theorem G9:∀(p:List It) (d:Dg) (i:Nat),zW p d i→p.take i=(p.filter fun y=>decide (kV y.1 d))∧p.drop i=p.filter fun y=>!decide (kV y.1 d)
 |[],d,i,_=>by simp
 |y::p,d,0,h=>by
  have hall:∀z∈y::p,¬kV z.1 d:=fun z hz=>by
   obtain⟨k,hk⟩:=bU hz;exact fun hl=>absurd ((h.2 k z hk).2 hl) fZ
  have h1:((y::p).filter fun y=>decide (kV y.1 d)) = []:=List.filter_eq_nil_iff.2 fun z hz=>by simp[hall z hz]
  have h2:((y::p).filter fun y=>!decide (kV y.1 d))=y::p:=List.filter_eq_self.2 fun z hz=>by simp[hall z hz]
  rw[h1,h2];exact⟨rfl,rfl⟩
 |y::p,d,i+1,h=>by
  have hy:kV y.1 d:=(h.2 0 y rfl).1 fZ ;have ih:=G9 p d i ⟨by have:=h.1;simp at this;omega,fun k x hk=>by
   rw[←h.2 (k+1) x (by simpa using hk)];omega⟩
  rw[dI,dM,List.filter_cons_of_pos (by simpa using hy),List.filter_cons_of_neg (by simpa using hy),ih.1,ih.2];exact⟨rfl,rfl⟩
def Mg(r:List It×Int)(w0:World)(e:Ending)(w:World):Prop:=∃z,e=.returned (.tuple #[z,.int .i64 r.2])∧og w z r.1∧Below w0.heap.size w0 w
theorem Mg.mk{r:List It×Int}{w0 w:World}{z:Value}{k:Int}(hk:k=r.2)(hz:og w z r.1)(hb:Below w0.heap.size w0 w):Mg r w0 (.returned (.tuple #[z,.int .i64 k])) w:=⟨z,by rw[hk],hz,hb⟩
theorem EX(w:World)(v:Value)(p:List It)(x:It)(h:og w v p)(hs:pO p)(hp:p.length≤10000):
  Calls prog 34 #[v,.agg #[.int .u64 (x.1.1.toNat:Int),.int .u64 (x.1.2.toNat:Int),.string (fu x.2)]] w (Mg (nQ p x) w):=by
 obtain⟨A,c,rfl,hc,hm⟩:=h.form;obtain⟨i1,hi1,hy0,hy1,hy2⟩:=info_parts Tryz.wS;have HK:=af ((ah w.heap.size w).alloc (ak _) (.cells #[.int .u64 (x.1.1.toNat:Int),.int .u64 (x.1.2.toNat:Int),.string (fu x.2)] 74));have hB:=gV.new w #[.int .u64 (x.1.1.toNat:Int),.int .u64 (x.1.2.toNat:Int),.string (fu x.2)] 74;have k0:=hB.cl 0;have k1:=hB.cl 1;have CB:=BA _ _ p x.1 (h.keep (dO HK.out)) hs fZ ;unfold lS at CB;have CB:=af CB;have Ra:=af hB;have HS:=af hs;have HF:Hid (nQ p x=if mD p x.1 then(if x∈p then(p,0)else([],16))else(FQ p x,0)):=rfl
 have HP:=af h;clear hB h hs;go_enter func34,ntmps34;go_wp2_with fail;refine CB.out.mono ?_;rintro e w1 ⟨io,hi,rfl,hb⟩;have HB:=(hTr HK hb);have nG:=af (Ra.out.keep hb);have HI:=af hi;have hP1:=HP.out.keep (dO HB.out);have hio:=hi.1;generalize nQ p x=r at *;clear k0 k1 CB HK Ra hb hi;cases hh:mD p x.1 with
 |false =>
  have HR:Hid (r=(FQ p x,0)):=by show _=_;rw[HF.out,hh];rfl
  obtain⟨j1,j2⟩:=G9 p x.1 io HI.out;have HJ:Hid (FQ p x=p.take io++[x]++p.drop io):=by show _=_;unfold FQ;rw[j1,j2]
  have HS1:=af (aas hP1 hio);have HS3:=af (UW hP1 hio);have amt:io≤c:=by omega
  have WU:Hid ((p.take io).length=io):=by show _=_;rw[aH];omega
  have HL3:Hid ((p.drop io).length=p.length-io):=by show _=_;rw[aC]
  clear HF hh j1 j2 hP1 HI;go_upto_region 3 with (fail);refine iN gB 12 (fun i v w=>match i with
   |0=>v=.slice A p.length c
   |1=>v=.int .i64 (io:Int)
   |2=>v=.slice A io c
   |3=>v=.agg #[.int .u64 (x.1.1.toNat:Int),.int .u64 (x.1.2.toNat:Int),.string (fu x.2)]
   |4=>∃g',v=.slice (some ⟨g',0,none⟩) 1 1∧iM w (some ⟨g',0,none⟩) (sG x)
   |5=>v=.slice A p.length c
   |6=>v=.int .i64 (io:Int)
   |7=>v=.slice (if c=io then A else Option.map (fun x=>x.add (io*3)) A) (p.length-io) (c-io)
   |8=>∃b' g',v=.slice (some ⟨b',0,none⟩) 3 3∧w.cell? ⟨b',0,none⟩=some (.slice A io c)∧w.cell? ⟨b',1,none⟩=some (.slice (some ⟨g',0,none⟩) 1 1)∧w.cell? ⟨b',2,none⟩=some (.slice (if c=io then A else Option.map (fun x=>x.add (io*3)) A) (p.length-io) (c-io))∧iM w (some ⟨g',0,none⟩) (sG x)
   |9=>og w v (p.take io++[x]++p.drop io)
   |10=>og w v (p.take io++[x]++p.drop io)
   |_=>v=.int .i64 0) 0 gB (fun i v w w' h hb=>?_) ?_ ?_
  ·match i,h with
   |0,h=>exact h
   |1,h=>exact h
   |2,h=>exact h
   |3,h=>exact h
   |4,h=>exact(by obtain⟨g',h1,h2⟩:=h;exact⟨g',h1,h2.keep (dO hb)⟩)
   |5,h=>exact h
   |6,h=>exact h
   |7,h=>exact h
   |8,h=>exact(by obtain⟨b',g',h1,h2,h3,h4,h5⟩:=h;exact⟨b',g',h1,dO hb _ _ _ h2,dO hb _ _ _ h3,dO hb _ _ _ h4,h5.keep (dO hb)⟩)
   |9,h=>exact h.keep (dO hb)
   |10,h=>exact h.keep (dO hb)
   |11,h=>exact h
   |_+12,h=>exact h
  ·rintro i o hi ho a w1 hdf hlen hold hbel gK K hK;clear hdf;have hX:=(nG.out.keep (gH _)).keep hbel;have q0:=hX.cl 0;have q1:=hX.cl 1;have q2:=hX.cl 2;have s0:=kZ hold 0 (.slice A p.length c);have s6:=kZ hold 6 (.int .i64 (io:Int));have s3:=kZ hold 3 (.pointer (some ⟨w.heap.size,0,none⟩));have hi':i=0∨i=1∨i=2∨i=3∨i=4∨i=5∨i=6∨i=7∨i=8∨i=9∨i=10∨i=11:=by omega
   rcases hi' with rfl|rfl|rfl|rfl|rfl|rfl|rfl|rfl|rfl|rfl|rfl|rfl<;>obtain rfl:=aB ho
   ·exact iJ s0
   ·exact iJ s6
   ·exact yM (iq gK 0 17) (iq gK 1 18)
   ·exact iJ s3
   ·have e20:=iq gK 3 20;simp only at e20;clear hlen;rw[aD]at e20;unfold Oper.wp;simp only[execOp,Act.eval,e20];go_simp;have hbn:=gV.new w1 #[.int .u64 (x.1.1.toNat:Int),.int .u64 (x.1.2.toNat:Int),.string (fu x.2)] 74;exact hK _ _ ⟨w1.heap.size,rfl,hbn.IZ⟩ ((ah _ _).alloc (ak _) _)
   ·exact iJ s0
   ·exact iJ s6
   ·exact yM (iq gK 5 22) (iq gK 6 23)
   ·have e19:=iq gK 2 19;simp only at e19;have e21:=iq gK 4 21;simp only at e21;have e24:=iq gK 7 24;simp only at e24;obtain⟨g',e21,hg'⟩:=e21;clear hlen;rw[aD]at e19 e21 e24;unfold Oper.wp;simp only[execOp,Act.eval,e19,e21,e24];go_simp;have hbn:=gV.new w1 #[.slice A io c,.slice (some ⟨g',0,none⟩) 1 1,.slice (if c=io then A else Option.map (fun x=>x.add (io*3)) A) (p.length-io) (c-io)] 23;exact hK _ _ ⟨w1.heap.size,g',rfl,hbn.cl 0,hbn.cl 1,hbn.cl 2,hg'.keep (Keeps.alloc _ _)⟩ ((ah _ _).alloc (ak _) _)
   ·have e25:=iq gK 8 25;simp only at e25;obtain⟨b',g',e25,k0,k1,k2,hg'⟩:=e25;unfold Oper.wp;simp only[execOp,Act.eval,e25];go_simp;have k3:=G8 (HS1.out.keep ((dO (gH _)).trans (dO hbel)));have k4:=G8 (HS3.out.keep ((dO (gH _)).trans (dO hbel)));refine(Mf w1 b' A (some ⟨g',0,none⟩) (if c=io then A else Option.map (fun x=>x.add (io*3)) A) c 1 (c-io) (p.take io) [x] (p.drop io) (by simp only[aH,aC,aQ];omega) gu k3.2.1 gu k4.2.1 k3.2.2 fZ k4.2.2 (by rw[WU.out];exact k0) k1 (by rw[HL3.out];exact k2) k3.1 (by simpa using hg') k4.1).mono ?_
    rintro e' w4 ⟨v4,rfl,hv4,hb4⟩;exact hK _ w4 hv4 hb4
   ·have e26:=iq gK 9 26;simp only at e26;obtain⟨q26,ady⟩:∃q,a.tmps.getD 26 undef=q:=⟨_,rfl⟩;rw[ady]at e26;unfold Oper.wp;simp only[execOp,Act.eval,ady];go_simp;exact hK _ w1 e26 gD
   ·exact PO0
  ·rintro a w1 hdf hlen hold hbel hnew;have e5:=qH hnew 11 5;simp only at e5;have e4:=qH hnew 10 4;simp only at e4;obtain⟨uq,hu,hact⟩:=kL [17,18,19,20,21,22,23,24,25,26,4,5] hdf hlen hold;simp only[hu]at e5;simp only[List.foldl,e5,SA]at hact;clear hdf hlen hold hnew e5 hu;subst hact;refine iP ?_;have hnew:=HB.out.trans (((gH _).trans hbel).mono HB.out.size);have HN:=af hnew;have HE4:=af e4;clear hnew hbel e4;go_wp2;go_ret2;exact Mg.mk (by rw[HR.out]) (by rw[HR.out,HJ.out];exact HE4.out) HN.out
 |true =>
  have hil:io<p.length:=by
   rcases aP io p.length with h|h
   ·exact h
   ·rw[HI.out.G7 h]at hh;cases hh
  obtain⟨y,hy⟩:∃y,p[io]?=some y:=⟨_,au hil⟩;have hyx:y.1=x.1:=by
   have:=HI.out.found HS.out hy;rw[hh]at this;exact of_decide_eq_true this.symm
  obtain⟨b1,o1,rfl,d0,d1,d2⟩:=hP1.get hy;have q2:=nG.out.cl 2;have Uy:(io:Int)<(p.length:Int):=by omega
  by_cases hd:y.2=x.2
  ·have HR:Hid (r=(p,0)):=by
    show _=_;rw[HF.out,hh,if_pos rfl,if_pos];have:y=x:=dP hyx hd;exact this▸aV hy
   have hb3:((fu y.2).toList==(fu x.2).toList)=true:=by rw[UX];exact decide_eq_true hd
   have VQ:=af hP1;clear HF hh hP1 HI hy hyx hd;go_wp2;go_quiet (fail);go_wp2;go_ret2;exact Mg.mk (by rw[HR.out]) (by rw[HR.out];exact VQ.out.keep (Keeps.drewN _ _)) (below_drewN' HB.out _)
  ·have HR:Hid (r=([],16)):=by
    show _=_;rw[HF.out,hh,if_pos rfl,if_neg];intro hm;obtain⟨k,hk⟩:=bU hm;have h1:=(HI.out.2 k x hk);have h2:k=io:=by
     rcases eZ k io with h|h|h
     ·have:=HS.out.lt hk hy h;rw[hyx]at this;exact absurd this (mO _)
     ·exact h
     ·have:=HS.out.lt hy hk h;rw[hyx]at this;exact absurd this (mO _)
    rw[h2,hy]at hk;cases hk;exact hd rfl
   have hb3:((fu y.2).toList==(fu x.2).toList)=false:=by rw[UX];exact decide_eq_false hd
   clear HF hh hP1 HI hy hyx hd;go_wp2;go_quiet (fail);go_wp2;go_ret2;exact Mg.mk (by rw[HR.out]) (by rw[HR.out];exact og.nil _) (below_drewN' HB.out _)
end Go.Proofs.YtichfhpgdhdiaaaGreat
namespace Go.Proofs.YtichfhpgdhdiaaaGreat
open Go.RowKit
def Bl(c:Nat):Bool:=decide ((97≤c∧c≤122)∨(65≤c∧c≤90)∨(48≤c∧c≤57)∨c=46∨c=95∨c=45)
def Ro(s:List UInt8):Bool:=decide (1≤s.length∧s.length≤24)&&!decide (s = [46])&&!decide (s = [46,46])&&s.all fun c=>Bl c.toNat
theorem N7(c:UInt8)(w:World):Calls prog 166 #[.int .u8 (c.toNat:Int)] w fun e w'=>e=.returned (.bool (Bl c.toNat))∧w'=w:=by
 generalize c.toNat=n at *;by_cases h1:(97:Int)≤n<;>by_cases h2:(n:Int)≤122<;>by_cases h3:(65:Int)≤n<;>by_cases h4:(n:Int)≤90<;>by_cases h5:(48:Int)≤n<;>by_cases h6:(n:Int)≤57<;>by_cases h7:(n:Int)=46<;>by_cases h8:(n:Int)=95<;>by_cases h9:(n:Int)=45
 all_goals try (exfalso;omega)
 all_goals
  have HE:Hid (Bl n=decide ((97≤n∧n≤122)∨(65≤n∧n≤90)∨(48≤n∧n≤57)∨n=46∨n=95∨n=45)):=rfl;generalize Bl n=r at *;have b7:((n:Int)==46)=decide ((n:Int)=46):=rfl;have b8:((n:Int)==95)=decide ((n:Int)=95):=rfl;have b9:((n:Int)==45)=decide ((n:Int)=45):=rfl;simp only[h7,h8,h9,decide_true,decide_false]at b7 b8 b9;go_enter func166,ntmps166;go_wp2;go_ret;exact⟨kS (by rw[HE.out];first|exact(decide_eq_true fZ ).symm|exact(decide_eq_false fZ ).symm),rfl⟩
structure En where
 name:List UInt8
 dir:Bool
 dg:Dg
 deriving DecidableEq
structure Ob where
 kind:Int
 data:List UInt8
 gW:List En
 tree:Dg
 gU:List Dg
 gM:List UInt8
 time:Int
 msg:List UInt8
 deriving DecidableEq
def Nq(n:Nat):List UInt8:=[UInt8.ofNat (n/2^56),UInt8.ofNat (n/2^48),UInt8.ofNat (n/2^40),UInt8.ofNat (n/2^32),UInt8.ofNat (n/2^24),UInt8.ofNat (n/2^16),UInt8.ofNat (n/2^8),UInt8.ofNat n]
def jb(d:Dg):List UInt8:=Nq d.1.toNat++Nq d.2.toNat
theorem jh(d:Dg):(jb d).length=16:=rfl
def qI(x:En):List UInt8:=jL x.name++gJ (if x.dir then 1 else 0)++jb x.dg
def jS(o:Ob):List UInt8 :=
 if o.kind=2 then gJ 2++gJ o.gW.length++o.gW.flatMap qI
 else if o.kind=3 then gJ 3++jb o.tree++gJ o.gU.length++o.gU.flatMap jb++jL o.gM++gJ o.time.toNat++jL o.msg
 else gJ o.kind.toNat++jL o.data
def N8(a b:List UInt8):Bool:=Op.bytesLess a b
def Ug(l:List En):Prop:=l.length≤200∧(∀x∈l,Ro x.name=true∧x.dg≠(0,0))∧∀i x y,l[i]?=some x→l[i+1]?=some y→N8 x.name y.name=true
def acG(o:Ob):Prop:=o.tree≠(0,0)∧o.gU.length≤8∧(∀d∈o.gU,d≠(0,0))∧o.gU.Nodup∧Ro o.gM=true∧0≤o.time∧o.time≤1099511627776∧o.msg.length≤200
def acH(o:Ob):Prop:=o.tree=(0,0)∧o.gU = []∧o.gM = []∧o.time=0∧o.msg = []
def Cw(o:Ob):Prop:=(o.kind=2∧o.data = []∧acH o∧Ug o.gW)∨(o.kind=3∧o.data = []∧o.gW = []∧acG o)∨((o.kind=1∨o.kind=4)∧o.gW = []∧acH o∧o.data.length≤65536)
def Ic(x:En):List Value:=[.string (fu x.name),.bool x.dir,.int .u64 (x.dg.1.toNat:Int),.int .u64 (x.dg.2.toNat:Int)]
theorem Xw(x:En):(Ic x).length=4:=rfl
def je(o:Ob)(ve vp:Value):Array Value:=#[.int .i64 o.kind,.string (fu o.data),ve,.int .u64 (o.tree.1.toNat:Int),.int .u64 (o.tree.2.toNat:Int),vp,.string (fu o.gM),.int .i64 o.time,.string (fu o.msg)]
def N9(w:World)(v:Value)(l:List En):Prop:=Sl w 4 (fun us x=>us=Ic x) v l
theorem N9.keep{w w':World}{v:Value}{l:List En}(h:N9 w v l)(k:Keeps w w'):N9 w' v l:=Sl.keep h k fun _ _ h=>h
theorem N9.form{w:World}{v:Value}{l:List En}(h:N9 w v l):∃A c,v=.slice A l.length c∧l.length≤c∧c≤9223372036854775807:=Sl.form h
theorem N9.nil(w:World):N9 w (.slice none 0 0) []:=Sl.nil _ _ _
theorem N9.get{w:World}{l:List En}{A:Option Addr}{c n:Nat}(h:N9 w (.slice A n c) l){i:Nat}{x:En}(hi:l[i]?=some x):
  ∃b off,A=some ⟨b,off,none⟩∧w.cell? ⟨b,off+i*4,none⟩=some (.string (fu x.name))∧w.cell? ⟨b,off+i*4+1,none⟩=some (.bool x.dir)∧w.cell? ⟨b,off+i*4+2,none⟩=some (.int .u64 (x.dg.1.toNat:Int))∧w.cell? ⟨b,off+i*4+3,none⟩=some (.int .u64 (x.dg.2.toNat:Int)):=by
 obtain⟨b,off,us,e,rfl,_,hc⟩:=Sl.get h hi fZ ;exact⟨b,off,e,hc 0 _ rfl,hc 1 _ rfl,hc 2 _ rfl,hc 3 _ rfl⟩
theorem GJ:∀(xs:List En),jF 4 (fun us x=>us=Ic x) xs (xs.flatMap Ic)
 |[]=>rfl
 |x::xs=>⟨Ic x,xs.flatMap Ic,by rw[aG],rfl,rfl,GJ xs⟩
theorem Ie{w:World}{B:Nat}{v:Value}{xs:List En}(h:w.ownsRow B 155 4 v xs.length (xs.flatMap Ic)):N9 w v xs:=by
 rcases id h.2 with ⟨rfl,hn⟩|⟨g,cap,cur,rfl,_,hg,hnc,hcm,_,htk⟩
 ·have:xs = []:=bL.1 hn;subst this;exact Sl.nil _ _ _
 ·refine⟨some ⟨g,0,none⟩,cap,xs.flatMap Ic,rfl,hnc,hcm,fun k u hu=>⟨g,0,rfl,?_⟩,GJ xs⟩;have hk:=(ay.1 hu).1;rw[lU Xw]at hk;rw[bH,h.cellAt k hk];exact hu
def wU(w:World)(ve vp:Value)(o:Ob):Prop:=N9 w ve o.gW∧qi w vp o.gU
theorem wU.keep{w w':World}{ve vp:Value}{o:Ob}(h:wU w ve vp o)(k:Keeps w w'):wU w' ve vp o:=⟨h.1.keep k,h.2.keep k⟩
def zP(o:Ob):Prop:=0≤o.kind∧o.kind≤1099511627776∧0≤o.time∧o.time≤1099511627776∧o.data.length≤1000000∧o.gW.length≤1000000∧o.gU.length≤1000000∧o.gM.length≤1000000∧o.msg.length≤1000000∧∀x∈o.gW,x.name.length≤1000000
end Go.Proofs.YtichfhpgdhdiaaaGreat
namespace Go.Proofs.YtichfhpgdhdiaaaGreat
open Go.RowKit
theorem GD(t:List UInt8)(ht:Ro t=true)(w:World):Calls prog 150 #[.string (fu t)] w fun e w'=>e=.returned (.bool true)∧w'=w:=by
 unfold Ro at ht;simp only[aK,decide_eq_true_eq,Bool.not_eq_true',decide_eq_false_iff_not,bN]at ht;obtain⟨⟨⟨⟨a1,a2⟩,a3⟩,a4⟩,a5⟩:=ht;have hsz:=gL t;have h1:¬(t.length:Int)<1:=by omega
 have h2:¬(24:Int)<(t.length:Int):=by omega
 have h3:((fu t).toList==[46])=false:=by rw[gQ];simpa using a3
 have h4:((fu t).toList==[46,46])=false:=by rw[gQ];simpa using a4
 go_enter func150,ntmps150;go_wp2;have HA:=af a5;have CL:=af N7;clear a1 a3 a4 a5 h1 h2 h3 h4;go_loopw [22] (fun iv wr=>∃k:Nat,k≤t.length∧iv=.int .i64 k∧wr=w) (fun iv _=>t.length-(intOf iv).toNat)
 case atStart=>exact⟨0,by omega,rfl,rfl⟩
 case round =>
  obtain⟨k,hk,rfl,rfl⟩:=hrel;by_cases hlt:k<t.length
  ·have hlt':(k:Int)<(t.length:Int):=by omega
   have hks:k<(fu t).size:=by omega
   have hkd:Bl ((fu t)[k]).toNat=true:=HA.out _ (by
    have:(fu t)[k]=t[k]:=rfl;rw[this];exact dA _)
   have CL':=af (CL.out ((fu t)[k]) wr);rw[hkd]at CL';clear hkd CL;go_wp2_with fail;refine CL'.out.mono ?_;rintro e w1 ⟨rfl,rfl⟩;go_wp2;go_roundw
   case rel=>exact⟨k+1,by omega,by go_num,trivial⟩
   case measure=>simp[intOf];omega
  ·have hlt':¬(k:Int)<(t.length:Int):=by omega
   go_wp2;go_ret;exact⟨rfl,rfl⟩
def acB(p:Prop)(w0:World)(e:Ending)(w:World):Prop:=∃b,e=.returned (.bool b)∧(b=true→p)∧w=w0
theorem vL{p:Prop}{w:World}:acB p w (.returned (.bool false)) w:=⟨false,rfl,fun h=>(by cases h),rfl⟩
theorem EF(t:List UInt8)(w:World)(htl:t.length≤1000000000):Calls prog 177 #[.string (fu t)] w (acB (Ro t=true) w):=by
 have hsz:=gL t;have HN:Hid (Ro t=(decide (1≤t.length∧t.length≤24)&&!decide (t = [46])&&!decide (t = [46,46])&&t.all fun c=>Bl c.toNat)):=rfl;by_cases h1:(t.length:Int)<1
 ·go_enter func177,ntmps177;go_wp2;go_ret;exact vL
 by_cases h2:(24:Int)<(t.length:Int)
 ·go_enter func177,ntmps177;go_wp2;go_ret;exact vL
 by_cases a3:t = [46]
 ·have h3:((fu t).toList==[46])=true:=by rw[gQ];simpa using a3
  clear a3;go_enter func177,ntmps177;go_wp2;go_ret;exact vL
 by_cases a4:t = [46,46]
 ·have h3:((fu t).toList==[46])=false:=by rw[gQ];simpa using a3
  have h4:((fu t).toList==[46,46])=true:=by rw[gQ];simpa using a4
  clear a3 a4;go_enter func177,ntmps177;go_wp2;go_ret;exact vL
 have h3:((fu t).toList==[46])=false:=by rw[gQ];simpa using a3
 have h4:((fu t).toList==[46,46])=false:=by rw[gQ];simpa using a4
 have HF:Hid ((∀j,j<t.length→∀h:j<(fu t).size,Bl ((fu t)[j]).toNat=true)→Ro t=true):=fun h=>by
  rw[HN.out,decide_eq_true (show 1≤t.length∧t.length≤24 by omega),decide_eq_false a3,decide_eq_false a4];simp only[Bool.not_false,Bool.and_true,Bool.true_and,bN];intro c hc;obtain⟨j,hj,rfl⟩:=List.getElem_of_mem hc;exact h j hj fZ
 have H0:Hid (∀j,j<0→∀h:j<(fu t).size,Bl ((fu t)[j]).toNat=true):=fun j h=>by omega
 clear HN a3 a4;go_enter func177,ntmps177;go_wp2;clear h1 h2 h3 h4;go_loopw [3] (fun iv wr=>∃k:Nat,k≤t.length∧iv=.int .i64 k∧Hid (∀j,j<k→∀h:j<(fu t).size,Bl ((fu t)[j]).toNat=true)∧wr=w) (fun iv _=>t.length-(intOf iv).toNat)
 case atStart=>exact⟨0,by omega,rfl,H0,rfl⟩
 case round =>
  clear H0;obtain⟨k,hk,rfl,HR,rfl⟩:=hrel;by_cases hlt:k<t.length
  ·have hlt':(k:Int)<(t.length:Int):=by omega
   have hks:k<(fu t).size:=by omega
   obtain⟨n,hn⟩:∃n:Nat,n=((fu t)[k]).toNat:=⟨_,rfl⟩;have HS:Hid (Bl n=true→∀j,j<k+1→∀h:j<(fu t).size,Bl ((fu t)[j]).toNat=true):=fun hl j hj h=>by
    rcases dD (eX.1 hj)with h5|rfl
    ·exact HR.out j h5 h
    ·rw[←hn];exact hl
   have hni:(((fu t)[k]).toNat:Int)=(n:Int):=by rw[hn]
   clear hn HR;by_cases h1:(97:Int)≤n<;>by_cases h2:(n:Int)≤122<;>by_cases h3:(65:Int)≤n<;>by_cases h4:(n:Int)≤90<;>by_cases h5:(48:Int)≤n<;>by_cases h6:(n:Int)≤57<;>by_cases h7:(n:Int)=46<;>by_cases h8:(n:Int)=95<;>by_cases h9:(n:Int)=45
   all_goals try (exfalso;omega)
   all_goals
    have HE:Hid (Bl n=decide ((97≤n∧n≤122)∨(65≤n∧n≤90)∨(48≤n∧n≤57)∨n=46∨n=95∨n=45)):=rfl;generalize Bl n=r at *;have b7:((n:Int)==46)=decide ((n:Int)=46):=rfl;have b8:((n:Int)==95)=decide ((n:Int)=95):=rfl;have b9:((n:Int)==45)=decide ((n:Int)=45):=rfl;simp only[h7,h8,h9,decide_true,decide_false]at b7 b8 b9;go_wp2;first
     |(go_ret;exact vL)
     |(go_roundw
       case rel=>exact⟨k+1,by omega,by go_num,HS.out (by rw[HE.out];exact decide_eq_true fZ ),trivial⟩
       case measure=>simp[intOf];omega)
  ·have hlt':¬(k:Int)<(t.length:Int):=by omega
   have HT:=af (HF.out fun j hj h=>HR.out j fZ h);go_wp2;go_ret;exact⟨true,rfl,fun _=>HT.out,rfl⟩
end Go.Proofs.YtichfhpgdhdiaaaGreat
namespace Go.Proofs.YtichfhpgdhdiaaaGreat
open Go.RowKit
theorem iB{w:World}{g:Nat}{t:TypeId}{a b c d e f x y z:Value}(h:gV w g t #[a,b,c,d,e,f,x,y,z]):
  w.cell? ⟨g,0,none⟩=some a∧w.cell? ⟨g,1,none⟩=some b∧w.cell? ⟨g,2,none⟩=some c∧w.cell? ⟨g,3,none⟩=some d∧w.cell? ⟨g,4,none⟩=some e∧w.cell? ⟨g,5,none⟩=some f∧w.cell? ⟨g,6,none⟩=some x∧w.cell? ⟨g,7,none⟩=some y∧w.cell? ⟨g,8,none⟩=some z :=
 ⟨h.cl 0,h.cl 1,h.cl 2,h.cl 3,h.cl 4,h.cl 5,h.cl 6,h.cl 7,h.cl 8⟩
theorem oN(d:Dg)(w:World):Calls prog 176 #[lS d] w fun e w'=>e=.returned (.bool (decide (d=(0,0))))∧Below w.heap.size w w':=by
 have HK:=af ((ah w.heap.size w).alloc (ak _) (.cells #[.int .u64 (d.1.toNat:Int),.int .u64 (d.2.toNat:Int)] 39));have hB:=gV.new w #[.int .u64 (d.1.toNat:Int),.int .u64 (d.2.toNat:Int)] 39;have k0:=hB.cl 0;have k1:=hB.cl 1;have HE:Hid (decide (d=(0,0))=(decide (d.1=0)&&decide (d.2=0))):=by
  show _=_;rw[fC];simp[Prod.ext_iff]
 unfold lS;clear hB;by_cases h1:d.1=0
 ·have b1:((d.1.toNat:Int)==0)=true:=by rw[h1];rfl
  by_cases h2:d.2=0
  ·have b2:((d.2.toNat:Int)==0)=true:=by rw[h2];rfl
   have HR:Hid (decide (d=(0,0))=true):=by show _=_;rw[HE.out,decide_eq_true h1,decide_eq_true h2];rfl
   clear h1 h2;go_enter func176,ntmps176;go_wp2;go_ret;exact⟨kS HR.out.symm,HK.out⟩
  ·have b2:((d.2.toNat:Int)==0)=false:=by rw[beq_eq_false_iff_ne];exact fun h=>h2 (mo.1 h)
   have HR:Hid (decide (d=(0,0))=false):=by show _=_;rw[HE.out,decide_eq_false h2,Bool.and_false]
   clear h1 h2;go_enter func176,ntmps176;go_wp2;go_ret;exact⟨kS HR.out.symm,HK.out⟩
 ·have b1:((d.1.toNat:Int)==0)=false:=by rw[beq_eq_false_iff_ne];exact fun h=>h1 (mo.1 h)
  have HR:Hid (decide (d=(0,0))=false):=by show _=_;rw[HE.out,decide_eq_false h1,Bool.false_and]
  clear h1;go_enter func176,ntmps176;go_wp2;go_ret;exact⟨kS HR.out.symm,HK.out⟩
def acC(p:Prop)(w0:World)(e:Ending)(w:World):Prop:=∃b,e=.returned (.bool b)∧(b=true→p)∧Below w0.heap.size w0 w
def qd(p:Prop)(w0:World)(e:Ending)(w:World):Prop:=∃k,e=.returned (.int .i64 k)∧(k=0→p)∧Below w0.heap.size w0 w
theorem qd.bad{p:Prop}{w0 w:World}{k:Int}(hk:k≠0)(hb:Below w0.heap.size w0 w):qd p w0 (.returned (.int .i64 k)) w:=⟨k,rfl,fun h=>absurd h hk,hb⟩
def OnP(kind:Int)(data:List UInt8)(gW:List En)(tree:Dg)(gU:List Dg)(gM:List UInt8)(time:Int)(msg:List UInt8):Prop :=
 ((kind=2∨kind=3)→data = [])∧(kind≠2→gW = [])∧(kind=3∨(tree=(0,0)∧gU = []∧gM = []∧time=0∧msg = []))
theorem Uf(w:World)(o:Ob)(ve vp:Value)(h:wU w ve vp o):
  Calls prog 171 #[.agg (je o ve vp)] w (acC (OnP o.kind o.data o.gW o.tree o.gU o.gM o.time o.msg) w):=by
 obtain⟨kind,data,gW,tree,gU,gM,time,msg⟩:=o;obtain⟨yG,yH⟩:=h;obtain⟨eA,ec,rfl,he1,he2⟩:=yG.form;obtain⟨pA,pc,rfl,hp1,hp2⟩:=yH.form;unfold je;simp only at *;have HK:=af ((ah w.heap.size w).alloc (ak _) (.cells #[.int .i64 kind,.string (fu data),.slice eA gW.length ec,.int .u64 (tree.1.toNat:Int),.int .u64 (tree.2.toNat:Int),.slice pA gU.length pc,.string (fu gM),.int .i64 time,.string (fu msg)] 44));have HB:=af (gV.new w #[.int .i64 kind,.string (fu data),.slice eA gW.length ec,.int .u64 (tree.1.toNat:Int),.int .u64 (tree.2.toNat:Int),.slice pA gU.length pc,.string (fu gM),.int .i64 time,.string (fu msg)] 44)
 have Fg:=af (yG.keep (dO HK.out));have Fh:=af (yH.keep (dO HK.out));clear yG yH;obtain⟨q0,q1,q2,q3,q4,q5,q6,q7,q8⟩:=iB HB.out;clear Fg Fh;go_enter func171,ntmps171;go_upto_region 1 with (fail);generalize w.alloc (.cells #[.int .i64 kind,.string (fu data),.slice eA gW.length ec,.int .u64 (tree.1.toNat:Int),.int .u64 (tree.2.toNat:Int),.slice pA gU.length pc,.string (fu gM),.int .i64 time,.string (fu msg)] 44)=w1 at *;by_cases k2:kind=2
 ·have b2:(kind==2)=true:=by rw[k2];rfl
  have b3:(kind==3)=false:=by rw[k2];rfl
  have n2:(kind != 2)=false:=by rw[k2];rfl
  by_cases jd:data = []
  ·have EH:((fu data).toList==[])=true:=by rw[jd,gQ];rfl
   by_cases t0:tree=(0,0)
   ·have CZ:=af (fun w'=>by have h:=oN tree w';rw[decide_eq_true t0]at h;unfold lS at h;exact h);by_cases jw:gU = []
    ·have Bo:((gU.length:Int)==0)=true:=by rw[jw];rfl
     by_cases iH:gM = []
     ·have sZ:((fu gM).toList==[])=true:=by rw[iH,gQ];rfl
      by_cases jy:time=0
      ·have Bp:(time==0)=true:=by rw[jy];rfl
       by_cases jR:msg = []
       ·have GH:((fu msg).toList==[])=true:=by rw[jR,gQ];rfl
        have HO:Hid (OnP kind data gW tree gU gM time msg):=⟨fun _=>jd,fun h=>absurd k2 h,.inr ⟨t0,jw,iH,jy,jR⟩⟩;try clear k2
        try clear k3
        try clear t0
        try clear jd
        try clear iQ
        try clear jw
        try clear iH
        try clear jy
        try clear jR
        go_wp2_with fail;refine(CZ.out _).mono ?_;rintro e w2 ⟨rfl,hb⟩;have HB2:=(hTr HK hb);have oU:=HB.out.keep hb;clear q0 q1 q2 q3 q4 q5 q6 q7 q8;obtain⟨q0,q1,q2,q3,q4,q5,q6,q7,q8⟩:=iB oU;clear hb CZ oU;go_wp2;go_ret;exact⟨true,rfl,fun _=>HO.out,HB2.out⟩
       ·have GH:((fu msg).toList==[])=false:=by rw[gQ];simpa using jR
        try clear k2
        try clear k3
        try clear t0
        try clear jd
        try clear iQ
        try clear jw
        try clear iH
        try clear jy
        try clear jR
        go_wp2_with fail;refine(CZ.out _).mono ?_;rintro e w2 ⟨rfl,hb⟩;have HB2:=(hTr HK hb);have oU:=HB.out.keep hb;clear q0 q1 q2 q3 q4 q5 q6 q7 q8;obtain⟨q0,q1,q2,q3,q4,q5,q6,q7,q8⟩:=iB oU;clear hb CZ oU;go_wp2;go_ret;exact⟨false,rfl,fun h=>(by cases h),HB2.out⟩
      ·have Bp:(time==0)=false:=by simpa using jy
       try clear k2
       try clear k3
       try clear t0
       try clear jd
       try clear iQ
       try clear jw
       try clear iH
       try clear jy
       try clear jR
       go_wp2_with fail;refine(CZ.out _).mono ?_;rintro e w2 ⟨rfl,hb⟩;have HB2:=(hTr HK hb);have oU:=HB.out.keep hb;clear q0 q1 q2 q3 q4 q5 q6 q7 q8;obtain⟨q0,q1,q2,q3,q4,q5,q6,q7,q8⟩:=iB oU;clear hb CZ oU;go_wp2;go_ret;exact⟨false,rfl,fun h=>(by cases h),HB2.out⟩
     ·have sZ:((fu gM).toList==[])=false:=by rw[gQ];simpa using iH
      try clear k2
      try clear k3
      try clear t0
      try clear jd
      try clear iQ
      try clear jw
      try clear iH
      try clear jy
      try clear jR
      go_wp2_with fail;refine(CZ.out _).mono ?_;rintro e w2 ⟨rfl,hb⟩;have HB2:=(hTr HK hb);have oU:=HB.out.keep hb;clear q0 q1 q2 q3 q4 q5 q6 q7 q8;obtain⟨q0,q1,q2,q3,q4,q5,q6,q7,q8⟩:=iB oU;clear hb CZ oU;go_wp2;go_ret;exact⟨false,rfl,fun h=>(by cases h),HB2.out⟩
    ·have Bo:((gU.length:Int)==0)=false:=by rw[beq_eq_false_iff_ne];exact fun h=>jw (bL.1 fZ )
     try clear k2
     try clear k3
     try clear t0
     try clear jd
     try clear iQ
     try clear jw
     try clear iH
     try clear jy
     try clear jR
     go_wp2_with fail;refine(CZ.out _).mono ?_;rintro e w2 ⟨rfl,hb⟩;have HB2:=(hTr HK hb);have oU:=HB.out.keep hb;clear q0 q1 q2 q3 q4 q5 q6 q7 q8;obtain⟨q0,q1,q2,q3,q4,q5,q6,q7,q8⟩:=iB oU;clear hb CZ oU;go_wp2;go_ret;exact⟨false,rfl,fun h=>(by cases h),HB2.out⟩
   ·have CZ:=af (fun w'=>by have h:=oN tree w';rw[decide_eq_false t0]at h;unfold lS at h;exact h);try clear k2
    try clear k3
    try clear t0
    try clear jd
    try clear iQ
    try clear jw
    try clear iH
    try clear jy
    try clear jR
    go_wp2_with fail;refine(CZ.out _).mono ?_;rintro e w2 ⟨rfl,hb⟩;have HB2:=(hTr HK hb);have oU:=HB.out.keep hb;clear q0 q1 q2 q3 q4 q5 q6 q7 q8;obtain⟨q0,q1,q2,q3,q4,q5,q6,q7,q8⟩:=iB oU;clear hb CZ oU;go_wp2;go_ret;exact⟨false,rfl,fun h=>(by cases h),HB2.out⟩
  ·have EH:((fu data).toList==[])=false:=by rw[gQ];simpa using jd
   try clear k2
   try clear k3
   try clear t0
   try clear jd
   try clear iQ
   try clear jw
   try clear iH
   try clear jy
   try clear jR
   go_wp2;go_ret;exact⟨false,rfl,fun h=>(by cases h),HK.out⟩
 ·have b2:(kind==2)=false:=by simpa using k2
  have n2:(kind != 2)=true:=by simpa using k2
  by_cases k3:kind=3
  ·have b3:(kind==3)=true:=by rw[k3];rfl
   by_cases jd:data = []
   ·have EH:((fu data).toList==[])=true:=by rw[jd,gQ];rfl
    by_cases iQ:gW = []
    ·have Br:¬(0:Int)<(gW.length:Int):=by rw[iQ];simp
     have HO:Hid (OnP kind data gW tree gU gM time msg):=⟨fun _=>jd,fun _=>iQ,.inl k3⟩;try clear k2
     try clear k3
     try clear t0
     try clear jd
     try clear iQ
     try clear jw
     try clear iH
     try clear jy
     try clear jR
     go_wp2;go_ret;exact⟨true,rfl,fun _=>HO.out,HK.out⟩
    ·have Br:(0:Int)<(gW.length:Int):=by have:=List.length_pos_iff.2 iQ;omega
     try clear k2
     try clear k3
     try clear t0
     try clear jd
     try clear iQ
     try clear jw
     try clear iH
     try clear jy
     try clear jR
     go_wp2;go_ret;exact⟨false,rfl,fun h=>(by cases h),HK.out⟩
   ·have EH:((fu data).toList==[])=false:=by rw[gQ];simpa using jd
    try clear k2
    try clear k3
    try clear t0
    try clear jd
    try clear iQ
    try clear jw
    try clear iH
    try clear jy
    try clear jR
    go_wp2;go_ret;exact⟨false,rfl,fun h=>(by cases h),HK.out⟩
  ·have b3:(kind==3)=false:=by simpa using k3
   by_cases iQ:gW = []
   ·have Br:¬(0:Int)<(gW.length:Int):=by rw[iQ];simp
    by_cases t0:tree=(0,0)
    ·have CZ:=af (fun w'=>by have h:=oN tree w';rw[decide_eq_true t0]at h;unfold lS at h;exact h);by_cases jw:gU = []
     ·have Bo:((gU.length:Int)==0)=true:=by rw[jw];rfl
      by_cases iH:gM = []
      ·have sZ:((fu gM).toList==[])=true:=by rw[iH,gQ];rfl
       by_cases jy:time=0
       ·have Bp:(time==0)=true:=by rw[jy];rfl
        by_cases jR:msg = []
        ·have GH:((fu msg).toList==[])=true:=by rw[jR,gQ];rfl
         have HO:Hid (OnP kind data gW tree gU gM time msg):=⟨fun h=> fZ ,fun _=>iQ,.inr ⟨t0,jw,iH,jy,jR⟩⟩;try clear k2
         try clear k3
         try clear t0
         try clear jd
         try clear iQ
         try clear jw
         try clear iH
         try clear jy
         try clear jR
         go_wp2_with fail;refine(CZ.out _).mono ?_;rintro e w2 ⟨rfl,hb⟩;have HB2:=(hTr HK hb);have oU:=HB.out.keep hb;clear q0 q1 q2 q3 q4 q5 q6 q7 q8;obtain⟨q0,q1,q2,q3,q4,q5,q6,q7,q8⟩:=iB oU;clear hb CZ oU;go_wp2;go_ret;exact⟨true,rfl,fun _=>HO.out,HB2.out⟩
        ·have GH:((fu msg).toList==[])=false:=by rw[gQ];simpa using jR
         try clear k2
         try clear k3
         try clear t0
         try clear jd
         try clear iQ
         try clear jw
         try clear iH
         try clear jy
         try clear jR
         go_wp2_with fail;refine(CZ.out _).mono ?_;rintro e w2 ⟨rfl,hb⟩;have HB2:=(hTr HK hb);have oU:=HB.out.keep hb;clear q0 q1 q2 q3 q4 q5 q6 q7 q8;obtain⟨q0,q1,q2,q3,q4,q5,q6,q7,q8⟩:=iB oU;clear hb CZ oU;go_wp2;go_ret;exact⟨false,rfl,fun h=>(by cases h),HB2.out⟩
       ·have Bp:(time==0)=false:=by simpa using jy
        try clear k2
        try clear k3
        try clear t0
        try clear jd
        try clear iQ
        try clear jw
        try clear iH
        try clear jy
        try clear jR
        go_wp2_with fail;refine(CZ.out _).mono ?_;rintro e w2 ⟨rfl,hb⟩;have HB2:=(hTr HK hb);have oU:=HB.out.keep hb;clear q0 q1 q2 q3 q4 q5 q6 q7 q8;obtain⟨q0,q1,q2,q3,q4,q5,q6,q7,q8⟩:=iB oU;clear hb CZ oU;go_wp2;go_ret;exact⟨false,rfl,fun h=>(by cases h),HB2.out⟩
      ·have sZ:((fu gM).toList==[])=false:=by rw[gQ];simpa using iH
       try clear k2
       try clear k3
       try clear t0
       try clear jd
       try clear iQ
       try clear jw
       try clear iH
       try clear jy
       try clear jR
       go_wp2_with fail;refine(CZ.out _).mono ?_;rintro e w2 ⟨rfl,hb⟩;have HB2:=(hTr HK hb);have oU:=HB.out.keep hb;clear q0 q1 q2 q3 q4 q5 q6 q7 q8;obtain⟨q0,q1,q2,q3,q4,q5,q6,q7,q8⟩:=iB oU;clear hb CZ oU;go_wp2;go_ret;exact⟨false,rfl,fun h=>(by cases h),HB2.out⟩
     ·have Bo:((gU.length:Int)==0)=false:=by rw[beq_eq_false_iff_ne];exact fun h=>jw (bL.1 fZ )
      try clear k2
      try clear k3
      try clear t0
      try clear jd
      try clear iQ
      try clear jw
      try clear iH
      try clear jy
      try clear jR
      go_wp2_with fail;refine(CZ.out _).mono ?_;rintro e w2 ⟨rfl,hb⟩;have HB2:=(hTr HK hb);have oU:=HB.out.keep hb;clear q0 q1 q2 q3 q4 q5 q6 q7 q8;obtain⟨q0,q1,q2,q3,q4,q5,q6,q7,q8⟩:=iB oU;clear hb CZ oU;go_wp2;go_ret;exact⟨false,rfl,fun h=>(by cases h),HB2.out⟩
    ·have CZ:=af (fun w'=>by have h:=oN tree w';rw[decide_eq_false t0]at h;unfold lS at h;exact h);try clear k2
     try clear k3
     try clear t0
     try clear jd
     try clear iQ
     try clear jw
     try clear iH
     try clear jy
     try clear jR
     go_wp2_with fail;refine(CZ.out _).mono ?_;rintro e w2 ⟨rfl,hb⟩;have HB2:=(hTr HK hb);have oU:=HB.out.keep hb;clear q0 q1 q2 q3 q4 q5 q6 q7 q8;obtain⟨q0,q1,q2,q3,q4,q5,q6,q7,q8⟩:=iB oU;clear hb CZ oU;go_wp2;go_ret;exact⟨false,rfl,fun h=>(by cases h),HB2.out⟩
   ·have Br:(0:Int)<(gW.length:Int):=by have:=List.length_pos_iff.2 iQ;omega
    try clear k2
    try clear k3
    try clear t0
    try clear jd
    try clear iQ
    try clear jw
    try clear iH
    try clear jy
    try clear jR
    go_wp2;go_ret;exact⟨false,rfl,fun h=>(by cases h),HK.out⟩
end Go.Proofs.YtichfhpgdhdiaaaGreat
