/- delta -/
import Derived.Test.YtichfhpgdhdiaaaGreatJ26
import Derived.Test.YtichfhpgdhdiaaaGreatJ29
import Derived.RangeFuncCalls
import Derived.Sort.QuietIn
import Derived.Sort.CutIn
import Derived.Laws.EntriesVeiled
import Derived.RangeFuncBox
import Derived.Test.YtichfhpgdhdiaaaGreatJ3
set_option maxRecDepth 100000
set_option maxHeartbeats 8000000
set_option linter.unusedVariables false
set_option linter.unusedSimpArgs false
open Go.Proofs.Tryz
namespace Go.Proofs.YtichfhpgdhdiaaaGreat
open Go.RowKit
attribute [local go_sem] Oper.semAt_some
def OkD(x:jq):Prop:=0≤x.off∧x.off≤1073741824∧0≤x.len∧x.len≤1073741824∧x.data.length≤1048576
structure JB(n:Nat)(s:List jq×List UInt8):Prop where
 l:s.1.length≤2*n
 t:s.2.length≤1048576*n
 y:∀y∈s.1,0≤y.off∧y.off≤1073741824∧0≤y.len∧y.len≤1073741824*n
theorem J9{l:List jq}{t:List UInt8}(h:t≠[]):kg (l,t)=l++[⟨0,0,t⟩]:=if_neg h
theorem Kb{l:List jq}:kg (l,[])=l:=if_pos rfl
theorem JB.flush{n:Nat}{l:List jq}{t:List UInt8}(h:JB n (l,t)):(kg (l,t)).length≤2*n+1∧∀y∈kg (l,t),0≤y.off∧y.off≤1073741824∧0≤y.len∧y.len≤1073741824*n:=by
 have h1:=h.l;simp only at h1;by_cases ht:t = []
 ·subst ht;rw[Kb];exact⟨by omega,h.y⟩
 ·rw[J9 ht];refine⟨by simp;omega,fun y hy=>?_⟩;rcases bq.1 hy with hy|hy
  ·exact h.y y hy
  ·obtain rfl:y=⟨0,0,t⟩:=by simpa using hy
   simp only;omega
theorem Gd{x:jq}:oV [] x = [x]:=rfl
theorem DV{l:List jq}{y x:jq}:oV (l++[y]) x=if y.cp∧y.off+y.len=x.off then l++[{ y with len:=y.len+x.len }]else(l++[y])++[x]:=by
 simp only[oV,eY,List.dropLast_concat]
theorem JB.step{n:Nat}{s:List jq×List UInt8}{x:jq}(h:JB n s)(hx:OkD x):JB (n+1) (joinStep s x):=by
 obtain⟨l,t⟩:=s;obtain⟨x1,x2,x3,x4,x5⟩:=hx;have h1:=h.l;have h2:=h.t;simp only at h1 h2;by_cases hi:x.ins
 ·have e:joinStep (l,t) x=(l,t++x.data):=if_pos hi;rw[e];refine⟨by simp only;omega,by show (t++x.data).length≤_;rw[aj];omega,fun y hy=>?_⟩;have:=h.y y hy;omega
 ·have e:joinStep (l,t) x=(oV (kg (l,t)) x,[]):=if_neg hi;rw[e];obtain⟨f1,f2⟩:=h.flush;generalize kg (l,t)=m at *;rcases List.eq_nil_or_concat m with rfl|⟨m',y,rfl⟩
  ·rw[Gd];refine⟨by simp only[aQ];omega,by simp,fun y hy=>?_⟩;obtain rfl:y=x:=by simpa using hy
   omega
  ·rw[List.concat_eq_append]at f1 f2 ⊢;rw[DV];have fy:=f2 y gu ;split
   ·refine⟨by simp at f1 ⊢;omega,by simp,fun z hz=>?_⟩;rcases bq.1 hz with hz|hz
    ·have:=f2 z (by simp[hz]);omega
    ·obtain rfl:z={ y with len:=y.len+x.len }:=by simpa using hz
     simp only;omega
   ·refine⟨by simp at f1 ⊢;omega,by simp,fun z hz=>?_⟩;rcases bq.1 hz with hz|hz
    ·have:=f2 z hz;omega
    ·obtain rfl:z=x:=by simpa using hz
     omega
theorem Gf:∀(xs:List jq) (n:Nat) (s:List jq×List UInt8),JB n s→(∀x∈xs,OkD x)→JB (n+xs.length) (xs.foldl joinStep s)
 |[],n,s,h,_=>h
 |x::xs,n,s,h,hx=>by
  have:=Gf xs (n+1) (joinStep s x) (h.step (hx x gu )) fun y hy=>hx y (by simp[hy])
  rw[aI,show n+(xs.length+1)=n+1+xs.length by omega];exact this
theorem Kc(pre:List jq)(h:∀x∈pre,OkD x):JB pre.length (pre.foldl joinStep ([],[])):=by
 have:=Gf pre 0 ([],[]) ⟨by simp,by simp,fun y hy=>by simp at hy⟩ h;rwa [bH]at this
def DW(w0:World)(H h:Nat)(pre:List jq)(W:World):Prop:=∃v,yN H h W.heap.size v (pre.foldl joinStep ([],[])).1 (pre.foldl joinStep ([],[])).2 W∧Below H w0 W
def Yields'(B:Nat)(w:World)(gf:FuncId)(lb:Array Value)(xs:List jq):Prop :=
 ∀(n l:Nat) (J:Nat→List jq→World→Prop),1≤n→(∀h pre W W',Below W.heap.size W W'→J h pre W→J h pre W')→(∀h h' pre W,h≤h'→J h pre W→J h' pre W) →
  (∀h pre x W,J h pre W→h≤W.heap.size→(∃rest,xs=pre++x::rest)→YieldAt Fence.wide (n-1) prog l #[dV x] W fun e W'=>e=.returned (.bool true)∧J W'.heap.size (pre++[x]) W'∧mM 5 B h W W') →
  ∀W,Below w.heap.size w W→J W.heap.size [] W→CallsIn Fence.wide n prog gf (#[.func (.yield l) #[] #[]]++lb) W fun e W'=>(∃v,e=.returned v)∧J W'.heap.size xs W'
theorem yN.putObj{H h N:Nat}{v:Value}{l:List jq}{t:List UInt8}{W:World}{r:Nat}{o o':Obj}(x:yN H h N v l t W)(hr:W.heap[r]?=some o)(ho:o.isCells=false):yN H h N v l t (W.putObj r o'):=by
 have far:∀{g:Nat} {t:TypeId} {cs:Array Value},gV W g t cs→g≠r:=by
  rintro g t cs hb rfl;unfold gV at hb;rw[hb]at hr;cases hr;cases ho
 have blk:∀{g:Nat} {t:TypeId} {cs:Array Value},gV W g t cs→gV (W.putObj r o') g t cs:=fun hb=>(World.putObj_heap_other (far hb)).trans hb
 have hg:W.grownBy (W.putObj r o') (some r):=grownBy_putObj' W r o';refine⟨⟨blk x.row.box,⟨x.row.row.1,?_⟩,x.row.low⟩,?_,blk x.Ni,x.hh⟩
 ·rcases x.row.row.2 with hn|⟨g,cap,cur,rfl,hb,hg,rest⟩
  ·exact .inl hn
  ·exact .inr ⟨g,cap,cur,rfl,hb,blk hg,rest⟩
 ·have go:∀p,Lib.BuilderAtF 122 5 H (H+1) p (Lib.byteCells t) W→Lib.BuilderAtF 122 5 H (H+1) p (Lib.byteCells t) (W.putObj r o'):=fun p ⟨h1,v,h2,h3,h4⟩=>by
   refine⟨h1,v,blk (t:=122) h2,h3.kept hg ?_,h4⟩;rcases h3.2 with ⟨rfl,_⟩|⟨g,cap,cur,fz,rfl,_,hgg,_⟩
   ·exact .inl rfl
   ·refine .inr fun e=>?_
    have e1:g=r:=by simpa [Value.ownBlock] using e
    subst e1;rw[hgg]at hr;cases hr;cases ho
  exact x.rQ.imp (go _) (go _)
def abE(xs:List jq)(w:World)(e:Ending)(w':World):Prop:=∃v,e=.returned v∧w'.ownsRow w.heap.size 191 3 v (xD xs).length ((xD xs).flatMap dC)∧Below w.heap.size w w'
theorem Sd(w:World)(gf:FuncId)(lb:Array Value)(eg:∀args w,(callFunc gf args).run prog w=.ok (.enter gf args) w)(xs:List jq)(hx:∀x∈xs,OkD x)(hxl:xs.length≤1048576)(hit:Yields' w.heap.size w gf lb xs):
  Calls prog 113 #[.func (.func gf) #[] lb] w (abE xs w):=by
 obtain⟨i1,hi1,hy0,hy1,hy2⟩:=info_parts Tryz.DF;have HX:=af hx;obtain⟨H,hH⟩:∃H,H=w.heap.size:=⟨_,rfl⟩;rw[←hH]at hit;have HIT:=af hit;have EG:=af eg;clear hx hit eg;refine(callsIn_wide (n:=3)).1 ?_;refine callsIn_of_wp_marks func113 rfl trivial ?_ rfl;simp only[ntmps113,di,aI,aM,Nat.reduceAdd,Nat.reduceSub,dm,dB,dL,dH,aO,cB];gi_upto_region 3 with (fail);have hA1:=(ah w.heap.size w).alloc (ak _) (.cells #[.slice none 0 0] 144);have hA2:=hA1.alloc gu (.cells #[.pointer none,.slice none 0 0] 122)
 have hb0:=(gV.new w #[.slice none 0 0] 144).alloc (.cells #[.pointer none,.slice none 0 0] 122);have hb1:=gV.new (w.alloc (.cells #[.slice none 0 0] 144)) #[.pointer none,.slice none 0 0] 122;rw[aJ]at hb1;have hsz:((w.alloc (.cells #[.slice none 0 0] 144)).alloc (.cells #[.pointer none,.slice none 0 0] 122)).heap.size=w.heap.size+2:=by simp
 generalize (w.alloc (.cells #[.slice none 0 0] 144)).alloc (.cells #[.pointer none,.slice none 0 0] 122)=w1 at *;rw[←hH]at hb0 hb1 hsz hA2;rw[←hH];have HH:=af hH;clear hA1 hH;gi_wp2_with fail;have hal:=(ah w1.heap.size w1).alloc (ak _) (.cells #[ql H] 1);have hb2:=gV.new w1 #[ql H] 1;rw[hsz]at hb2;have hsz2:(w1.alloc (.cells #[ql H] 1)).heap.size=H+3:=by simp[hsz]
 have hI0:DW w H (H+3) [] (w1.alloc (.cells #[ql H] 1)):=⟨.slice none 0 0,⟨⟨hb0.keep hal,World.ownsRow_nil _ _ _ _,fun g e=>by simp[Value.ownBlock]at e⟩,sH.below (.inl ⟨by omega,.slice none 0 0,hb1,⟨rfl,.inl ⟨rfl,rfl⟩⟩,by simp[Value.ownBlock]⟩) hal,hb2,ak _⟩,hA2.trans (hal.mono fZ )⟩;have hBW:Below H w (w1.alloc (.cells #[ql H] 1)):=hA2.trans (hal.mono fZ );rw[←hsz2]at hI0;unfold ql at hI0 hsz2 hal hb2 hBW;generalize w1.alloc (.cells #[.func (.func 147) #[] #[.pointer (some ⟨H+1,0,none⟩),.pointer (some ⟨H,0,none⟩)]] 1)=W0 at *
 clear hb0 hb1 hb2 hal hA2 hsz;have HB:=af hBW;clear hBW;refine Io (α:=jq) (gf:=gf) (lb:=lb) rfl EG.out dV rfl (fun pre x=>∃rest,xs=pre++x::rest) xs 5 H (DW w H) fZ (fun h h' pre W hh ⟨v,hj,hb⟩=>⟨v,hj.mono hh,hb⟩)
  (fun h pre W W' k ⟨v,hj,hb⟩=>⟨v,(hj.any).below k,hb.trans (k.mono (by have:=hj.Ni.lt;omega))⟩) (fun h pre W r o o' hr ⟨v,hj,hb⟩ h1 h2=>⟨v,hj.any.putObj h1 h2,hb.grown (grownBy_putObj' W r o') (by have:=hj.Ni.lt;omega) (fun k e=>by cases e;omega)⟩) hI0
  (fun l J hJ hJm hY W hB h0=>HIT.out 2 l J fZ hJ hJm hY W (by rw[←HH.out];exact HB.out.trans (hB.mono fZ )) h0)
  (fun x W=>W.alloc (.cells (dC x).toArray 191)) (fun x W=>(ah _ _).alloc (ak _) _) ?a1 ?assign ?body ?done
 case assign =>
  intro l x W K hK;unfold dV;gi_wp2;exact hK
 case body =>
  rintro l h pre x W W' hWh hhW ⟨r,o,o',hr,ho,hW'⟩ ⟨v,hj,hbel⟩ ⟨rest,hrest⟩;have hbx:gV W' W.heap.size 191 (dC x).toArray:=by
   have hn:=gV.new W (dC x).toArray 191;rw[hW'];refine(World.putObj_heap_other ?_).trans hn;rintro rfl;unfold gV at hn;rw[hn]at hr;cases hr;cases ho
  have hszW:W.heap.size<W'.heap.size:=hbx.lt;have hpb:JB pre.length (pre.foldl joinStep ([],[])):=Kc pre fun y hy=>HX.out y (by rw[hrest];simp[hy])
  have hxo:OkD x:=HX.out x (by rw[hrest];simp);have hpl:pre.length<xs.length:=by rw[hrest];simp
  have hnew:(pre++[x]).foldl joinStep ([],[])=joinStep (pre.foldl joinStep ([],[])) x:=by rw[List.foldl_append];rfl
  generalize hs:pre.foldl joinStep ([],[])=s at *;obtain⟨ls,ts⟩:=s;have hgx:h≤W.heap.size:=hhW;generalize W.heap.size=gx at *;clear hr ho hW' hI0;have hHh:H+3≤h:=hj.hh;have CI:=af (F7 x W');have q0:=hbx.cl 0;have q1:=hbx.cl 1;have q2:=hbx.cl 2;have hHS:=af hs;have hHN:=af hnew;have ah5:=af hrest;clear hs hnew hrest;by_cases hi:x.ins
  ·have hib:Ig x=true:=decide_eq_true hi;have hst:joinStep (ls,ts) x=(ls,ts++x.data):=if_pos hi;rw[hib]at CI;have HST:=af hst;clear hib hi hst;unfold dV at CI;have Vt:W'.cell? ⟨gx,0,none⟩=some (.int .i64 x.off):=q0;have q1':W'.cell? ⟨gx,1,none⟩=some (.int .i64 x.len):=q1;have q2':W'.cell? ⟨gx,2,none⟩=some (.string (fu x.data)):=q2;clear q0 q1 q2;gi_wp2_with fail;refine⟨trivial,?_⟩;refine((kz l).calls CI.out).mono ?_;rintro e w2 ⟨rfl,hb2⟩;have pu:=hbx.keep hb2;have r2:w2.cell? ⟨gx,2,none⟩=some (.string (fu x.data)):=pu.cl 2;have hj2:=hj.below hb2;have CW:=af (qV H (H+1) ts (fu x.data) w2 hj2.rQ (by have:=hpb.t;rw[gL];have:=hxo.2.2.2.2;simp only at *;omega) (by have:=hb2.size;omega))
   clear Vt q1' q2';gi_wp2_with fail;refine⟨trivial,?_⟩;refine((kz l).calls CW.out).mono ?_;rintro e w3 ⟨rfl,hb3,hB3,YU⟩;rw[iI]at hb3;obtain⟨hj3,hf3⟩:=hj2.built hb3 hB3 YU;have hF:tJ H h W'.heap.size W' w3:=(jg hb2 fZ ).trans hf3;have hP:∀a,ownPost 5 H h (DW w H) (pre++[x]) W' .normal a w3:=fun _=>⟨hF.wT,hF.BL fZ ,v,by rw[hHN.out,HST.out];exact hj3.fin (by have:=hF.size;omega),hbel.trans hF.jM⟩
   have hP':=af hP;clear hP hF hf3 hj3 hb3 YU hB3 CW hj2 hj CI r2 pu hbx hpb;gi_wp2;exact hP'.out _
  ·have hib:Ig x=false:=decide_eq_false hi;have hst:joinStep (ls,ts) x=(oV (kg (ls,ts)) x,[]):=if_neg hi;rw[hib]at CI;have HST:=af hst;clear hib hi hst;unfold dV at CI;have Vt:W'.cell? ⟨gx,0,none⟩=some (.int .i64 x.off):=q0;have q1':W'.cell? ⟨gx,1,none⟩=some (.int .i64 x.len):=q1;have q2':W'.cell? ⟨gx,2,none⟩=some (.string (fu x.data)):=q2;clear q0 q1 q2;obtain⟨fl1,fl2⟩:=hpb.flush;gi_wp2_with fail;refine⟨trivial,?_⟩;refine((kz l).calls CI.out).mono ?_;rintro e w2 ⟨rfl,hb2⟩;have hj2:=hj.below hb2;have pu:=hbx.keep hb2;have hsz2:=hb2.size;have CF:=af (Gc H h W'.heap.size v ls ts w2 hj2 fZ fZ (by have:=hpb.l;simp only at this;omega))
   have g2:w2.cell? ⟨H+2,0,none⟩=some (ql H):=hj2.Ni.cl 0;unfold ql at g2;clear Vt q1' q2';gi_wp2_with fail;refine⟨trivial,?_⟩;refine((kz l).calls CF.out).mono ?_;rintro e w3 ⟨rfl,⟨v3,hj3⟩,hf3⟩;have Yl:tJ H h W'.heap.size W' w3:=(jg hb2 fZ ).trans hf3;have jH:gV w3 gx 191 (dC x).toArray:=hf3.keep gx _ ⟨hgx,hszW⟩ pu fun cs fz e=>by injection e with _ e;exact absurd e gm
   have Qf:=hf3.size;have hW3:W'.heap.size≤w3.heap.size:=by omega
   clear g2 CF hf3 hj2 pu hb2 hj hbx;generalize kg (ls,ts)=m0 at *;have hzz:=hj3.hh;rcases List.eq_nil_or_concat m0 with rfl|⟨m,y,rfl⟩
   ·
    have Vu:=af (Gd (x:=x));obtain⟨A3,c3,rfl⟩:=iw hj3.row.row;have d3:w3.cell? ⟨H,0,none⟩=some (.slice A3 0 c3):=hj3.row.box.cl 0;have hlH:H<w3.heap.size:=hj3.row.box.lt;clear fl1 fl2;gi_wp2_with fail;refine oD (S:=fun _=>True) (kz l) gB gB trivial 24 ?_;refine gP 0 ?_;refine gP 1 ?_;refine gP 2 ?_;refine jm 3 ?_;refine jm 4 ?_;refine jm 5 ?_;refine jm 6 ?_;refine jm 7 ?_;refine gP 8 ?_;refine gP 9 ?_;refine jm 10 ?_;refine jm 11 ?_;refine jm 12 ?_;refine jm 13 ?_;refine jm 14 ?_;refine jm 15 ?_
    refine jm 16 ?_;refine jm 17 ?_;refine jm 18 ?_;refine jm 19 ?_;refine jm 20 ?_;refine jm 21 ?_;refine jm 22 ?_;refine jm 23 ?_;refine kF.lt 24 ?_;intro K hK;go_simp;refine hK _ _ (wF ?_);clear hK K;have J4:=hj3.below (ah w3.heap.size w3).drew;have jE:=jH.keep (ah w3.heap.size w3).drew;have F4:tJ H h W'.heap.size W' w3.drew:=Yl.trans (jg (ah w3.heap.size w3).drew fZ );have Y6:w3.heap.size≤w3.drew.heap.size:=ak _;clear hj3 jH Yl d3;generalize w3.drew=w4 at *;have hal:=(ah w4.heap.size w4).alloc (ak _) (.cells #[.int .i64 x.off,.int .i64 x.len,.string (fu x.data)] 191)
    have J5:=J4.below hal;have hrow:=J5.row.row;have hc4:w4.cell? ⟨H,0,none⟩=some (.slice A3 0 c3):=J4.row.box.cl 0;have p0:w4.cell? ⟨gx,0,none⟩=some (.int .i64 x.off):=jE.cl 0;have p1:w4.cell? ⟨gx,1,none⟩=some (.int .i64 x.len):=jE.cl 1;have p2:w4.cell? ⟨gx,2,none⟩=some (.string (fu x.data)):=jE.cl 2;gi_wp2_with (gi_at_builtin;go_must (refine nM _ rfl (.tmp 56) (.tmp 58) _ rfl H 191 i1 _ 3 32 underlying144 hi1 hy0 hy1 hy2 rfl fZ (.slice A3 0 c3) 0 _ rfl hrow ⟨w4.heap.size,0,none⟩ 1 1 [.int .i64 x.off,.int .i64 x.len,.string (fu x.data)] rfl rfl (gY _ _ _ _) (by simp[Value.oneCell']) fZ fZ (by simp;omega) ?_))
    intro v5 w5 hown hgr hat;obtain⟨A5,c5,rfl⟩:=iw hown;have l5:=J5.row.box.grown hgr (ig J5.row.row J5.row.box gm ).symm;have s5:w5.cell? ⟨H,0,none⟩=some (.slice A3 0 c3):=l5.cl 0;have f5:=l5.frozen 0;have hown2:w5.ownsRow H 191 3 (.slice A5 (0+1) c5) (([]:List jq).length+1) (([]:List jq).flatMap dC++dC x):=hown;obtain⟨J6,F6⟩:=J5.push (y:=x) (by simp;omega) (by simp;omega) (by simp only[aJ];exact hat) hown2 hgr;have hF:tJ H h W'.heap.size W' (w5.setCell ⟨H,0,none⟩ (.slice A5 (0+1) c5)):=(F4.trans (jg hal fZ )).trans F6
    have hP:∀a,ownPost 5 H h (DW w H) (pre++[x]) W' .normal a (w5.setCell ⟨H,0,none⟩ (.slice A5 (0+1) c5)):=fun _=>⟨hF.wT,hF.BL fZ ,_,by rw[hHN.out,HST.out,Vu.out];exact J6.fin (by have:=hF.size;omega),hbel.trans hF.jM⟩
    have hP':=af hP;clear hP hF F6 J6 hown2 hgr hat hrow J5 hal l5 hown;gi_wp2;exact hP'.out _
   ·rw[List.concat_eq_append]at *;have fy:=fl2 y gu ;obtain⟨gr,cr,rfl,hr1,hr2,hr3,hr4⟩:=zk hj3.row.row gu ;have hml:(m++[y]).length=m.length+1:=by simp
    have hget:(m++[y])[m.length]?=some y:=by simp
    have e0:w3.cell? ⟨gr,m.length*3,none⟩=some (.int .i64 y.off):=by
     rw[hj3.row.row.cellAt (m.length*3) (by rw[hml];omega),show m.length*3=m.length*3+0 by omega,flat_get DX (m++[y]) m.length 0 y hget fZ ];rfl
    have e1:w3.cell? ⟨gr,m.length*3+1,none⟩=some (.int .i64 y.len):=by
     rw[hj3.row.row.cellAt (m.length*3+1) (by rw[hml];omega),flat_get DX (m++[y]) m.length 1 y hget fZ ];rfl
    have e2:w3.cell? ⟨gr,m.length*3+2,none⟩=some (.string (fu y.data)):=by
     rw[hj3.row.row.cellAt (m.length*3+2) (by rw[hml];omega),flat_get DX (m++[y]) m.length 2 y hget fZ ];rfl
    have d3:w3.cell? ⟨H,0,none⟩=some (.slice (some ⟨gr,0,none⟩) (m++[y]).length cr):=hj3.row.box.cl 0;rw[hml]at d3 hr1;obtain⟨kn,hkn⟩:∃kn,kn=m.length+1:=⟨_,rfl⟩;rw[←hkn]at d3 hr1;have hkl:m.length<kn:=by omega
    have q0:w3.cell? ⟨gx,0,none⟩=some (.int .i64 x.off):=jH.cl 0;have hys:IntKind.i64.wrap (y.off+y.len)=y.off+y.len:=jo fZ fZ ;have hlH:H<w3.heap.size:=hj3.row.box.lt;have hlx:gx<w3.heap.size:=jH.lt;have Y7:=DV (l:=m) (y:=y) (x:=x);have akY:=af hget;have Vk:=af hml;clear hget hml;have hyb:y.len≤1125899906842624∧0≤y.len∧0≤y.off∧y.off≤1073741824:=by omega
    have hcc:=uf y w3.drew;have akZ:m.length≤4194304:=by have:=fl1;simp at this;omega
    have hkm:kn≤4194305:=by omega
    have hw1:(kn:Int)-1=(m.length:Int):=by omega
    have Ar:=af hkn;clear hkn;have ak0:decide ((0:Int)≤(m.length:Int))=true:=by simp
    have Ww:(⟨H,0,none⟩:Addr).block<w3.drew.heap.size:=hlH;have Y8:(⟨gx,0,none⟩:Addr).block<w3.drew.heap.size:=hlx;have Y9:(⟨gr,m.length*3,none⟩:Addr).block<w3.drew.heap.size:=hr4;have Wx:(⟨gr,m.length*3+1,none⟩:Addr).block<w3.drew.heap.size:=hr4;have Za:(⟨gr,m.length*3+2,none⟩:Addr).block<w3.drew.heap.size:=hr4;by_cases hcy:y.cp
    ·by_cases Nj:y.off+y.len=x.off
     ·have Ke:oV (m++[y]) x=m++[{ y with len:=y.len+x.len }]:=by rw[Y7,if_pos ⟨hcy,Nj⟩]
      have Vu:=af Ke;clear Y7 Ke;have afh:((y.off+y.len)==x.off)=true:=by simpa using Nj
      clear Nj;have hcb:P7 y=true:=decide_eq_true hcy;rw[hcb]at hcc;unfold dV at hcc;have CC:=af hcc;clear hcb hcc hcy fy fl2;gi_wp2_with fail;refine oD (S:=fun w'=>w'.cell? ⟨H,0,none⟩=some (.slice (some ⟨gr,0,none⟩) kn cr)∧w'.cell? ⟨gr,m.length*3,none⟩=some (.int .i64 y.off)∧w'.cell? ⟨gr,m.length*3+1,none⟩=some (.int .i64 y.len)∧w'.cell? ⟨gr,m.length*3+2,none⟩=some (.string (fu y.data))∧w'.cell? ⟨gx,0,none⟩=some (.int .i64 x.off)) (kz l) gB gB ⟨d3,e0,e1,e2,q0⟩ 24 ?_;refine gP 0 ?_;refine gP 1 ?_;refine gP 2 ?_;refine jr 3 [] ?_
      refine gP 4 ?_;refine gP 5 ?_;refine jr 6 [] ?_;refine kF.on 7 ?_;intro K hK;go_simp;refine CC.out.mono ?_;rintro e w4 ⟨rfl,hb4⟩;have hK':=hK;clear hK CC;refine hK' _ _ ⟨by rw[hb4.cell (p:=⟨H,0,none⟩) (by exact(by assumption))];exact d3,by rw[hb4.cell (p:=⟨gr,m.length*3,none⟩) (by exact(by assumption))];exact e0,by rw[hb4.cell (p:=⟨gr,m.length*3+1,none⟩) (by exact(by assumption))];exact e1,by rw[hb4.cell (p:=⟨gr,m.length*3+2,none⟩) (by exact(by assumption))];exact e2,by rw[hb4.cell (p:=⟨gx,0,none⟩) (by exact(by assumption))];exact q0⟩ ?_;clear hK' K
      refine gP 8 ?_;refine gP 9 ?_;refine jr 10 [] ?_;refine gP 11 ?_;refine gP 12 ?_;refine gP 13 ?_;refine jr 14 [] ?_;refine jr 15 [] ?_;refine gP 16 ?_;refine gP 17 ?_;refine gP 18 ?_;refine jr 19 [] ?_;refine gP 20 ?_;refine gP 21 ?_;refine jr 22 [] ?_;refine gP 23 ?_;refine kF.lt 24 ?_;intro K hK;go_simp;refine hK _ _ (wF ?_);clear hK K;have J4:=(hj3.below (ah w3.heap.size w3).drew).below hb4;have jE:=(jH.keep (ah w3.heap.size w3).drew).keep hb4;have F4:tJ H h W'.heap.size W' w4:=(Yl.trans (jg (ah w3.heap.size w3).drew fZ )).trans (jg hb4 (by simp;omega))
      have Y6:w3.heap.size≤w4.heap.size:=hb4.size;have d4:w4.cell? ⟨H,0,none⟩=some (.slice (some ⟨gr,0,none⟩) kn cr):=by rw[hb4.cell Ww];exact d3
      have e4:w4.cell? ⟨gr,m.length*3+1,none⟩=some (.int .i64 y.len):=by rw[hb4.cell Wx];exact e1
      have p4:w4.cell? ⟨gx,1,none⟩=some (.int .i64 x.len):=jE.cl 1;have f4:w4.frozen? ⟨gr,m.length*3+1,none⟩=false:=J4.row.row.frozenAt _;have hzl:IntKind.i64.wrap (y.len+x.len)=y.len+x.len:=jo (by have:=hxo.2.2.1;omega) (by have:=hxo.2.2.2.1;omega);clear hj3 jH Yl hb4 d3 e0 e1 e2 q0 Ww Y8 Y9 Wx Za;gi_wp2_with fail;refine oD (S:=fun w'=>w'.cell? ⟨H,0,none⟩=some (.slice (some ⟨gr,0,none⟩) kn cr)∧w'.cell? ⟨gr,m.length*3+1,none⟩=some (.int .i64 y.len)∧w'.cell? ⟨gx,1,none⟩=some (.int .i64 x.len)) (kz l) gB gB ⟨d4,e4,p4⟩ 10 ?_;refine jr 0 [] ?_
      refine gP 1 ?_;refine gP 2 ?_;refine gP 3 ?_;refine jr 4 [] ?_;refine gP 5 ?_;refine jr 6 [] ?_;refine gP 7 ?_;refine gP 8 ?_;refine gP 9 ?_;refine kF.lt 10 ?_;intro K hK;go_simp;refine hK _ _ (wF ?_);clear hK K;obtain⟨J6,F6⟩:=(J4.below (ah w4.heap.size w4).drew).Wy (y.len+x.len);have hF:tJ H h W'.heap.size W' (w4.drew.setCell ⟨gr,m.length*3+1,none⟩ (.int .i64 (y.len+x.len))):=(F4.trans (jg (ah w4.heap.size w4).drew fZ )).trans F6;have hP:∀a,ownPost 5 H h (DW w H) (pre++[x]) W' .normal a (w4.drew.setCell ⟨gr,m.length*3+1,none⟩ (.int .i64 (y.len+x.len))):=fun _=>⟨hF.wT,hF.BL fZ ,_,by rw[hHN.out,HST.out,Vu.out];exact J6.fin (by have:=hF.size;omega),hbel.trans hF.jM⟩
      have hP':=af hP;clear hP hF F6 J6 J4 jE F4 d4 e4 p4 f4;gi_wp2;exact hP'.out _
     ·have Ke:oV (m++[y]) x=(m++[y])++[x]:=by rw[Y7,if_neg fun h=>Nj h.2]
      have Vu:=af Ke;clear Y7 Ke;have afh:((y.off+y.len)==x.off)=false:=by simpa using Nj
      clear Nj;have hcb:P7 y=true:=decide_eq_true hcy;rw[hcb]at hcc;unfold dV at hcc;have CC:=af hcc;clear hcb hcc hcy fy fl2;gi_wp2_with fail;refine oD (S:=fun w'=>w'.cell? ⟨H,0,none⟩=some (.slice (some ⟨gr,0,none⟩) kn cr)∧w'.cell? ⟨gr,m.length*3,none⟩=some (.int .i64 y.off)∧w'.cell? ⟨gr,m.length*3+1,none⟩=some (.int .i64 y.len)∧w'.cell? ⟨gr,m.length*3+2,none⟩=some (.string (fu y.data))∧w'.cell? ⟨gx,0,none⟩=some (.int .i64 x.off)) (kz l) gB gB ⟨d3,e0,e1,e2,q0⟩ 24 ?_;refine gP 0 ?_;refine gP 1 ?_;refine gP 2 ?_;refine jr 3 [] ?_
      refine gP 4 ?_;refine gP 5 ?_;refine jr 6 [] ?_;refine kF.on 7 ?_;intro K hK;go_simp;refine CC.out.mono ?_;rintro e w4 ⟨rfl,hb4⟩;have hK':=hK;clear hK CC;refine hK' _ _ ⟨by rw[hb4.cell (p:=⟨H,0,none⟩) (by exact(by assumption))];exact d3,by rw[hb4.cell (p:=⟨gr,m.length*3,none⟩) (by exact(by assumption))];exact e0,by rw[hb4.cell (p:=⟨gr,m.length*3+1,none⟩) (by exact(by assumption))];exact e1,by rw[hb4.cell (p:=⟨gr,m.length*3+2,none⟩) (by exact(by assumption))];exact e2,by rw[hb4.cell (p:=⟨gx,0,none⟩) (by exact(by assumption))];exact q0⟩ ?_;clear hK' K
      refine gP 8 ?_;refine gP 9 ?_;refine jr 10 [] ?_;refine gP 11 ?_;refine gP 12 ?_;refine gP 13 ?_;refine jr 14 [] ?_;refine jr 15 [] ?_;refine gP 16 ?_;refine gP 17 ?_;refine gP 18 ?_;refine jr 19 [] ?_;refine gP 20 ?_;refine gP 21 ?_;refine jr 22 [] ?_;refine gP 23 ?_;refine kF.lt 24 ?_;intro K hK;go_simp;refine hK _ _ (wF ?_);clear hK K;have J4:=(hj3.below (ah w3.heap.size w3).drew).below hb4;have jE:=(jH.keep (ah w3.heap.size w3).drew).keep hb4;have F4:tJ H h W'.heap.size W' w4:=(Yl.trans (jg (ah w3.heap.size w3).drew fZ )).trans (jg hb4 (by simp;omega))
      have Y6:w3.heap.size≤w4.heap.size:=hb4.size;clear hj3 jH Yl hb4 d3 e0 e1 e2 q0 Ww Y8 Y9 Wx Za;have hal:=(ah w4.heap.size w4).alloc (ak _) (.cells #[.int .i64 x.off,.int .i64 x.len,.string (fu x.data)] 191);have J5:=J4.below hal;have hrow:=J5.row.row;rw[Vk.out,←Ar.out]at hrow;have hc4:w4.cell? ⟨H,0,none⟩=some (.slice (some ⟨gr,0,none⟩) kn cr):=by have:=J4.row.box.cl 0;rw[Vk.out,←Ar.out]at this;exact this
      have p0:w4.cell? ⟨gx,0,none⟩=some (.int .i64 x.off):=jE.cl 0;have p1:w4.cell? ⟨gx,1,none⟩=some (.int .i64 x.len):=jE.cl 1;have p2:w4.cell? ⟨gx,2,none⟩=some (.string (fu x.data)):=jE.cl 2;gi_wp2_with (gi_at_builtin;go_must (refine nM _ rfl (.tmp 56) (.tmp 58) _ rfl H 191 i1 _ 3 32 underlying144 hi1 hy0 hy1 hy2 rfl fZ (.slice (some ⟨gr,0,none⟩) kn cr) kn _ rfl hrow ⟨w4.heap.size,0,none⟩ 1 1 [.int .i64 x.off,.int .i64 x.len,.string (fu x.data)] rfl rfl (gY _ _ _ _) (by simp[Value.oneCell']) fZ fZ (by simp;omega) ?_))
      intro v5 w5 hown hgr hat;obtain⟨A5,c5,rfl⟩:=iw hown;have l5:=J5.row.box.grown hgr (ig J5.row.row J5.row.box gm ).symm;have s5:w5.cell? ⟨H,0,none⟩=some (.slice (some ⟨gr,0,none⟩) kn cr):=by have:=l5.cl 0;rw[Vk.out,←Ar.out]at this;exact this
      have f5:=l5.frozen 0;have hown2:w5.ownsRow H 191 3 (.slice A5 (kn+1) c5) ((m++[y]).length+1) ((m++[y]).flatMap dC++dC x):=by rw[Vk.out,←Ar.out];simpa [dC] using hown
      obtain⟨J6,F6⟩:=J5.push (y:=x) (by simp;omega) (by simp;omega) (by simp only[aJ];exact hat) hown2 hgr;have hF:tJ H h W'.heap.size W' (w5.setCell ⟨H,0,none⟩ (.slice A5 (kn+1) c5)):=(F4.trans (jg hal fZ )).trans F6;have hP:∀a,ownPost 5 H h (DW w H) (pre++[x]) W' .normal a (w5.setCell ⟨H,0,none⟩ (.slice A5 (kn+1) c5)):=fun _=>⟨hF.wT,hF.BL fZ ,_,by rw[hHN.out,HST.out,Vu.out];exact J6.fin (by have:=hF.size;omega),hbel.trans hF.jM⟩
      have hP':=af hP;clear hP hF F6 J6 hown2 hgr hat hrow J5 hal l5 hown;gi_wp2;exact hP'.out _
    ·have Ke:oV (m++[y]) x=(m++[y])++[x]:=by rw[Y7,if_neg fun h=>hcy h.1]
     have Vu:=af Ke;clear Y7 Ke;have hcb:P7 y=false:=decide_eq_false hcy;rw[hcb]at hcc;unfold dV at hcc;have CC:=af hcc;clear hcb hcc hcy fy fl2;gi_wp2_with fail;refine oD (S:=fun w'=>w'.cell? ⟨H,0,none⟩=some (.slice (some ⟨gr,0,none⟩) kn cr)∧w'.cell? ⟨gr,m.length*3,none⟩=some (.int .i64 y.off)∧w'.cell? ⟨gr,m.length*3+1,none⟩=some (.int .i64 y.len)∧w'.cell? ⟨gr,m.length*3+2,none⟩=some (.string (fu y.data))∧w'.cell? ⟨gx,0,none⟩=some (.int .i64 x.off)) (kz l) gB gB ⟨d3,e0,e1,e2,q0⟩ 24 ?_;refine gP 0 ?_;refine gP 1 ?_;refine gP 2 ?_
     refine jr 3 [] ?_;refine gP 4 ?_;refine gP 5 ?_;refine jr 6 [] ?_;refine kF.on 7 ?_;intro K hK;go_simp;refine CC.out.mono ?_;rintro e w4 ⟨rfl,hb4⟩;have hK':=hK;clear hK CC;refine hK' _ _ ⟨by rw[hb4.cell (p:=⟨H,0,none⟩) (by exact(by assumption))];exact d3,by rw[hb4.cell (p:=⟨gr,m.length*3,none⟩) (by exact(by assumption))];exact e0,by rw[hb4.cell (p:=⟨gr,m.length*3+1,none⟩) (by exact(by assumption))];exact e1,by rw[hb4.cell (p:=⟨gr,m.length*3+2,none⟩) (by exact(by assumption))];exact e2,by rw[hb4.cell (p:=⟨gx,0,none⟩) (by exact(by assumption))];exact q0⟩ ?_
     clear hK' K;refine gP 8 ?_;refine gP 9 ?_;refine jm 10 ?_;refine jm 11 ?_;refine jm 12 ?_;refine jm 13 ?_;refine jm 14 ?_;refine jm 15 ?_;refine jm 16 ?_;refine jm 17 ?_;refine jm 18 ?_;refine jm 19 ?_;refine jm 20 ?_;refine jm 21 ?_;refine jm 22 ?_;refine jm 23 ?_;refine kF.lt 24 ?_;intro K hK;go_simp;refine hK _ _ (wF ?_);clear hK K;have J4:=(hj3.below (ah w3.heap.size w3).drew).below hb4;have jE:=(jH.keep (ah w3.heap.size w3).drew).keep hb4;have F4:tJ H h W'.heap.size W' w4:=(Yl.trans (jg (ah w3.heap.size w3).drew fZ )).trans (jg hb4 (by simp;omega))
     have Y6:w3.heap.size≤w4.heap.size:=hb4.size;clear hj3 jH Yl hb4 d3 e0 e1 e2 q0 Ww Y8 Y9 Wx Za;have hal:=(ah w4.heap.size w4).alloc (ak _) (.cells #[.int .i64 x.off,.int .i64 x.len,.string (fu x.data)] 191);have J5:=J4.below hal;have hrow:=J5.row.row;rw[Vk.out,←Ar.out]at hrow;have hc4:w4.cell? ⟨H,0,none⟩=some (.slice (some ⟨gr,0,none⟩) kn cr):=by have:=J4.row.box.cl 0;rw[Vk.out,←Ar.out]at this;exact this
     have p0:w4.cell? ⟨gx,0,none⟩=some (.int .i64 x.off):=jE.cl 0;have p1:w4.cell? ⟨gx,1,none⟩=some (.int .i64 x.len):=jE.cl 1;have p2:w4.cell? ⟨gx,2,none⟩=some (.string (fu x.data)):=jE.cl 2;gi_wp2_with (gi_at_builtin;go_must (refine nM _ rfl (.tmp 56) (.tmp 58) _ rfl H 191 i1 _ 3 32 underlying144 hi1 hy0 hy1 hy2 rfl fZ (.slice (some ⟨gr,0,none⟩) kn cr) kn _ rfl hrow ⟨w4.heap.size,0,none⟩ 1 1 [.int .i64 x.off,.int .i64 x.len,.string (fu x.data)] rfl rfl (gY _ _ _ _) (by simp[Value.oneCell']) fZ fZ (by simp;omega) ?_))
     intro v5 w5 hown hgr hat;obtain⟨A5,c5,rfl⟩:=iw hown;have l5:=J5.row.box.grown hgr (ig J5.row.row J5.row.box gm ).symm;have s5:w5.cell? ⟨H,0,none⟩=some (.slice (some ⟨gr,0,none⟩) kn cr):=by have:=l5.cl 0;rw[Vk.out,←Ar.out]at this;exact this
     have f5:=l5.frozen 0;have hown2:w5.ownsRow H 191 3 (.slice A5 (kn+1) c5) ((m++[y]).length+1) ((m++[y]).flatMap dC++dC x):=by rw[Vk.out,←Ar.out];simpa [dC] using hown
     obtain⟨J6,F6⟩:=J5.push (y:=x) (by simp;omega) (by simp;omega) (by simp only[aJ];exact hat) hown2 hgr;have hF:tJ H h W'.heap.size W' (w5.setCell ⟨H,0,none⟩ (.slice A5 (kn+1) c5)):=(F4.trans (jg hal fZ )).trans F6;have hP:∀a,ownPost 5 H h (DW w H) (pre++[x]) W' .normal a (w5.setCell ⟨H,0,none⟩ (.slice A5 (kn+1) c5)):=fun _=>⟨hF.wT,hF.BL fZ ,_,by rw[hHN.out,HST.out,Vu.out];exact J6.fin (by have:=hF.size;omega),hbel.trans hF.jM⟩
     have hP':=af hP;clear hP hF F6 J6 hown2 hgr hat hrow J5 hal l5 hown;gi_wp2;exact hP'.out _
 case done =>
  rintro D W hD ⟨v,hj,hbel⟩ hK;have hjb:JB xs.length (xs.foldl joinStep ([],[])):=Kc xs HX.out;have hfl:=(show xD xs=kg (xs.foldl joinStep ([],[]))from rfl);generalize xs.foldl joinStep ([],[])=s at *;obtain⟨ls,ts⟩:=s;have hHW:H+3≤W.heap.size:=hj.hh;have CF:=af (Gc H W.heap.size W.heap.size v ls ts W hj (ak _) (ak _) (by have:=hjb.l;simp only at this;omega));have g2:W.cell? ⟨H+2,0,none⟩=some (ql H):=hj.Ni.cl 0;unfold ql at g2;have HFL:=af hfl;clear hfl hj hI0;gi_wp2_with fail;refine⟨trivial,?_⟩;refine(callsIn_wide.2 CF.out).mono ?_;rintro e w2 ⟨rfl,⟨v2,hj2⟩,hf2⟩
  have hK2:=hf2.wT.same D _ hK rfl;have hb2:=hbel.trans hf2.jM;have hc2:w2.cell? ⟨H,0,none⟩=some v2:=hj2.row.box.cl 0;have hrow:=hj2.row.row;rw[show kg (ls,ts)=xD xs from HFL.out.symm]at hrow;have HR:=af hrow;obtain⟨A2,c2,rfl⟩:=iw hrow;have hsz:=hf2.size;clear g2 CF hj2 hf2 hrow hK hbel;gi_wp2;refine⟨by simp,.inl ⟨_,_,rfl,run_takeDeferred hK2,?_⟩⟩;refine⟨_,results_tmp rfl _ _ _,.slice A2 (xD xs).length c2,rfl,?_,?_⟩
  ·rw[←HH.out];exact ownsRow_putObj HR.out _ hK2 rfl
  ·rw[←HH.out];exact hb2.grown (grownBy_putObj' w2 D _) fZ (fun k e=>by cases e;omega)
end Go.Proofs.YtichfhpgdhdiaaaGreat
