/- Packs -/
import Derived.Test.YtichfhpgdhdiaaaGreatJ42
import Derived.Test.YtichfhpgdhdiaaaGreatJ3
set_option maxRecDepth 100000
set_option maxHeartbeats 8000000
set_option linter.unusedVariables false
set_option linter.unusedSimpArgs false
open Go.Proofs.Tryz
namespace Go.Proofs.YtichfhpgdhdiaaaGreat
open Go.RowKit
attribute [local go_sem] Oper.semAt_some
def Oo(p:List It)(l base:List Dg)(mr:Nat)(w W0 W:World):Prop :=
 ∃cs:List lZ,cs.length=l.length∧(∀i d c,l[i]?=some d→cs[i]?=some c→FP p l base d i c)∧(∀c∈cs,0≤c.size∧c.size≤10000000000)∧pM W mr cs∧iZ (fun b=>b=mr) W0.heap.size W0 W∧Below w.heap.size w W
section
variable {p:List It}{l base:List Dg}{mr:Nat}{w W0 W W':World}
theorem Oo.below(h:Oo p l base mr w W0 W)(k:Below W.heap.size W W'):Oo p l base mr w W0 W':=by
 obtain⟨cs,h1,h2,h3,h4,h5,h6⟩:=h;exact⟨cs,h1,h2,h3,h4.keep k,h5.trans (iK k),h6.trans (k.mono h6.size)⟩
theorem Oo.put(h:Oo p l base mr w W0 W){r:Nat}{o o':Obj}(hr:W0.heap.size≤r)(hw:w.heap.size≤W0.heap.size)(h1:W.heap[r]?=some o)(h2:o.isCells=false):Oo p l base mr w W0 (W.putObj r o'):=by
 obtain⟨cs,a1,a2,a3,a4,a5,a6⟩:=h;have hne:mr≠r:=fun e=>by
  subst e;have hx:W.heap[mr]?=_:=a4;rw[hx]at h1;cases h1;cases h2
 exact⟨cs,a1,a2,a3,(World.putObj_heap_other hne).trans a4,a5.trans (iZ.put hr),a6.grown (grownBy_putObj' W r o') a6.size (fun k e=>by cases e;omega)⟩
theorem Oo.new{cs:List lZ}{k:Nat}{d:Dg}{c x:lZ}(h1:cs.length=l.length)(h2:∀i d c,l[i]?=some d→cs[i]?=some c→FP p l base d i c)(h3:∀c∈cs,0≤c.size∧c.size≤10000000000)(h4:pM W mr cs)(h5:iZ (fun b=>b=mr) W0.heap.size W0 W)(h6:Below w.heap.size w W)(hm:w.heap.size≤mr)(hx:l[k]?=some d)(hc:cs[k]?=some c)(hA:FP p l base d k x)(hz:0≤x.size∧x.size≤10000000000):Oo p l base mr w W0 (Oj W mr k x):=by
 have hg:=EP W mr k x;refine⟨cs.set k x,by rw[aX];exact h1,fun i d' c' hd hc'=>?_,fun c' hc'=>?_,h4.put' hc x,h5.trans (Ol hg),h6.grown hg h6.size (fun q e=>by cases e;exact hm)⟩
 ·by_cases e:k=i
  ·subst e;rw[bE (ay.1 hc).1]at hc';obtain rfl:=aB hc';obtain rfl:=aB (hx.symm.trans hd);exact hA
  ·rw[bB e]at hc';exact h2 i d' c' hd hc'
 ·rcases bS hc' with h|rfl
  ·exact h3 c' h
  ·exact hz
def VO(p:List It)(l base:List Dg)(mr k:Nat)(w W0 W:World):Prop :=
 ∃cs:List lZ,cs.length=l.length∧(∀i d c,l[i]?=some d→cs[i]?=some c→FP p l base d i c)∧(∀i d c,i<k→l[i]?=some d→cs[i]?=some c→vP p l base d i c)∧(∀c∈cs,0≤c.size∧c.size≤10000000000)∧pM W mr cs∧iZ (fun b=>b=mr) W0.heap.size W0 W∧Below w.heap.size w W
theorem EQ(h:Oo p l base mr w W0 W):VO p l base mr 0 w W0 W:=by
 obtain⟨cs,h1,h2,h3,h4,h5,h6⟩:=h;exact⟨cs,h1,h2,fun i d c h=>absurd h (Nat.not_lt_zero _),h3,h4,h5,h6⟩
def YN(p:List It)(l base:List Dg)(w0:World)(e:Ending)(w:World):Prop :=
 ∃g cs,e=.returned (.slice (some ⟨g,0,none⟩) l.length l.length)∧Rs w (.slice (some ⟨g,0,none⟩) l.length l.length) cs∧cs.length=l.length∧(∀i d c,l[i]?=some d→cs[i]?=some c→vP p l base d i c)∧Below w0.heap.size w0 w
theorem VO.fin{D:Nat}(h:VO p l base mr l.length w W0 W)(hD:W0.heap.size≤D)(hw:w.heap.size≤W0.heap.size)(h1:W.heap[D]?=some (.deferred (some [])))(hn:l.length≤1000):
  YN p l base w (.returned (.slice (some ⟨mr,0,none⟩) l.length l.length)) (W.putObj D (.deferred none)):=by
 obtain⟨cs,a1,a2,a3,a4,a5,a6,a7⟩:=h;have hne:mr≠D:=fun e=>by
  subst e;have hx:W.heap[mr]?=_:=a5;rw[hx]at h1;cases h1
 have hr:pM (W.putObj D (.deferred none)) mr cs:=(World.putObj_heap_other hne).trans a5;have hc:=hr.chs fZ ;rw[a1]at hc;exact⟨mr,cs,rfl,hc,a1,fun i d c hd hc=>a3 i d c (ay.1 hd).1 hd hc,a7.grown (grownBy_putObj' W D _) a7.size (fun k e=>by cases e;omega)⟩
theorem GX{cs:List lZ}{k:Nat}{d:Dg}{c:lZ}(h1:cs.length=l.length)(h2:∀i d c,l[i]?=some d→cs[i]?=some c→FP p l base d i c)(h2z:∀i d c,i<k→l[i]?=some d→cs[i]?=some c→vP p l base d i c)(h3:∀c∈cs,0≤c.size∧c.size≤10000000000)(h4:pM W mr cs)(h5:iZ (fun b=>b=mr) W0.heap.size W0 W)(h6:Below w.heap.size w W)(hx:l[k]?=some d)(hc:cs[k]?=some c)(hz:c.size+16<wQ (iC p d).length):VO p l base mr (k+1) w W0 W:=by
 refine⟨cs,h1,h2,fun i d' c' hi hd hc'=>?_,h3,h4,h5,h6⟩;rcases Nat.lt_succ_iff_lt_or_eq.1 hi with h|rfl
 ·exact h2z i d' c' h hd hc'
 ·obtain rfl:=aB (hx.symm.trans hd);obtain rfl:=aB (hc.symm.trans hc');refine⟨h2 i d c hd hc',fun hh=>?_⟩;have:=(h2 i d c hd hc' hh).2.2;omega
theorem VO.drop{cs:List lZ}{k:Nat}{d:Dg}{c:lZ}(h1:cs.length=l.length)(h2:∀i d c,l[i]?=some d→cs[i]?=some c→FP p l base d i c)(h2z:∀i d c,i<k→l[i]?=some d→cs[i]?=some c→vP p l base d i c)(h3:∀c∈cs,0≤c.size∧c.size≤10000000000)(h4:pM W mr cs)(h5:iZ (fun b=>b=mr) W0.heap.size W0 W)(h6:Below w.heap.size w W)(hm:w.heap.size≤mr)(hx:l[k]?=some d)(hc:cs[k]?=some c):VO p l base mr (k+1) w W0 (W.setCell ⟨mr,k*5,none⟩ (.bool false)):=by
 have hg:=gG W mr (k*5) (.bool false);have hr:pM (W.setCell ⟨mr,k*5,none⟩ (.bool false)) mr (cs.set k ⟨false,c.base,c.delta,c.size⟩):=h4.set1 (j:=0) hc fZ rfl;have key:∀i d' c',l[i]?=some d'→(cs.set k ⟨false,c.base,c.delta,c.size⟩)[i]?=some c'→(i=k∧c'.has=false)∨(i≠k∧cs[i]?=some c'):=fun i d' c' hd hc'=>by
  by_cases e:k=i
  ·subst e;rw[bE (ay.1 hc).1]at hc';obtain rfl:=aB hc';exact .inl ⟨rfl,rfl⟩
  ·rw[bB e]at hc';exact .inr ⟨fun h=>e h.symm,hc'⟩
 refine⟨_,by rw[aX];exact h1,fun i d' c' hd hc'=>?_,fun i d' c' hi hd hc'=>?_,fun c' hc'=>?_,hr,h5.trans (Ol hg),h6.grown hg h6.size (fun q e=>by cases e;exact hm)⟩
 ·rcases key i d' c' hd hc' with ⟨_,hf⟩|⟨_,h⟩
  ·intro hh;rw[hf]at hh;cases hh
  ·exact h2 i d' c' hd h
 ·rcases key i d' c' hd hc' with ⟨_,hf⟩|⟨hne,h⟩
  ·exact⟨fun hh=>(by rw[hf]at hh;cases hh),fun hh=>(by rw[hf]at hh;cases hh)⟩
  ·exact h2z i d' c' fZ hd h
 ·rcases bS hc' with h|rfl
  ·exact h3 c' h
  ·exact h3 c (aV hc)
theorem UM(p:List It)(s d:Dg)(h:nK (nT (iC p s) (iC p d))=(mG p s d,0)):(mG p s d).length≤4295800000:=by
 obtain⟨h1,h2⟩:=tV h;have h3:=wo h1;have h4:=Am (nT (iC p s) (iC p d));have h5:=kX ((nT (iC p s) (iC p d)).length:Int);rw[h2,aj];have:=bT 65548 h3;omega
theorem UN(hb:Below w.heap.size w W0)(hk:iZ (fun b=>b=mr) W0.heap.size W0 W)(hm:w.heap.size≤mr):∀b,b<w.heap.size→W.heap[b]?=w.heap[b]?:=fun b hl=>by
 have e:=hb.block b hl;obtain⟨o,ho⟩:∃o,w.heap[b]?=some o:=⟨_,bg hl⟩;rw[ho]at e ⊢;exact hk.low b o (bM hl hb.size) fZ e
theorem XT(hb:Below w.heap.size w W0)(hk:iZ (fun b=>b=mr) W0.heap.size W0 W)(hm:w.heap.size≤mr):Keeps w W:=fun b o u hu=>by
 have hl:b<w.heap.size:=by
  unfold World.cell? at hu;rcases aP b w.heap.size with h|h
  ·exact h
  ·simp only[eu h]at hu;cases hu
 have:=UN hb hk hm b hl;unfold World.cell? at *;simp only at *;rw[this];exact hu
end
theorem Oq(w:World)(A1 A2:Option Addr)(c1 c2 mb mn:Nat)(p:List It)(l base:List Dg)(hl:qi w (.slice A2 l.length c2) l)(hb:qi w (.slice A1 base.length c1) base)(hm:ol w mb mn (JA p))(hn:l.length≤1000)(hbn:base.length≤1000000)(hp:zR p):
  Calls prog 28 #[(.slice A2 l.length c2),(.slice A1 base.length c1),.map (some mb)] w (YN p l base w):=by
 have HL:=af hl;have HBs:=af hb;have HM:=af hm;have Jv:=af (fun d=>qg hp d);have QO:=af (fun s d=>Pv hp s d);have ahc:=hm.lt;obtain⟨ic,hic,hy0,hy1,hy2⟩:=info_parts Tryz.L8;have k0:=(ah w.heap.size w).alloc (ak _) (.cells #[(.slice A2 l.length c2)] 27);have hs0:(w.alloc (.cells #[(.slice A2 l.length c2)] 27)).heap.size=w.heap.size+1:=by simp
 have k1:=k0.alloc fZ (.cells #[.map (some mb)] 72);have x3:=(gV.new w #[(.slice A2 l.length c2)] 27).alloc (.cells #[.map (some mb)] 72);have x5:=gV.new (w.alloc (.cells #[(.slice A2 l.length c2)] 27)) #[.map (some mb)] 72;rw[hs0]at x5;have hs1:((w.alloc (.cells #[(.slice A2 l.length c2)] 27)).alloc (.cells #[.map (some mb)] 72)).heap.size=w.heap.size+2:=by simp
 clear hl hb hm k0 hs0;refine(callsIn_wide (n:=3)).1 ?_;refine callsIn_of_wp_marks func28 rfl trivial ?_ rfl;simp only[ntmps28,di,aI,aM,Nat.reduceAdd,Nat.reduceSub,dm,dB,dL,dH,aO,cB];gi_upto_region 1 with (fail);generalize (w.alloc (.cells #[(.slice A2 l.length c2)] 27)).alloc (.cells #[.map (some mb)] 72)=w1 at *;have q3:=x3.cl 0;have k2:=k1.alloc k1.size (.cells (madeCells FO (l.length*5)) 132);have xr:=gV.new w1 (madeCells FO (l.length*5)) 132;rw[hs1]at xr
 have hs2:(w1.alloc (.cells (madeCells FO (l.length*5)) 132)).heap.size=w.heap.size+3:=by simp[hs1]
 have x3':=x3.alloc (.cells (madeCells FO (l.length*5)) 132);have x5':=x5.alloc (.cells (madeCells FO (l.length*5)) 132);gi_upto_region 2 with (gi_at_make;refine Cq _ rfl _ _ _ rfl 132 ic (.agg #[.bool false,.int .u64 0,.int .u64 0,.string ⟨#[]⟩,.int .i64 0]) 5 underlying78 hic hy0 hy1 .i64 .i64 _ _ l.length rfl rfl rfl rfl (by rw[hy2];omega) fZ ?_;rw[hs1];change wpListIn _ _ _ _ _ _ _ (w1.alloc (.cells (madeCells FO (l.length*5)) 132));generalize w1.alloc (.cells (madeCells FO (l.length*5)) 132)=w2 at *)
 have k3:=k2.alloc k2.size (.cells #[.slice (some ⟨w.heap.size+2,0,none⟩) l.length l.length] 78);have x7:=gV.new w2 #[.slice (some ⟨w.heap.size+2,0,none⟩) l.length l.length] 78;rw[hs2]at x7;have y3:=x3'.alloc (.cells #[.slice (some ⟨w.heap.size+2,0,none⟩) l.length l.length] 78);have y5:=x5'.alloc (.cells #[.slice (some ⟨w.heap.size+2,0,none⟩) l.length l.length] 78);have yr:=xr.alloc (.cells #[.slice (some ⟨w.heap.size+2,0,none⟩) l.length l.length] 78);have hs3:(w2.alloc (.cells #[.slice (some ⟨w.heap.size+2,0,none⟩) l.length l.length] 78)).heap.size=w.heap.size+4:=by simp[hs2]
 change Code.wpIn _ _ _ _ _ _ (w2.alloc (.cells #[.slice (some ⟨w.heap.size+2,0,none⟩) l.length l.length] 78));generalize w2.alloc (.cells #[.slice (some ⟨w.heap.size+2,0,none⟩) l.length l.length] 78)=w3 at *;clear x3 x5 x3' x5' xr k1 k2 hs1 hs2 q3;have q3:=y3.cl 0;have q5:=y5.cl 0;gi_wp2_with fail;refine⟨trivial,?_⟩;refine(callsIn_wide.2 (QZ w3 A1 A2 base.length c1 l.length c2 mb)).mono ?_;rintro e w' ⟨rfl,rfl⟩;rw[hs3];gi_wp2_with fail;have m1:=k3.alloc k3.size (.cells #[(.slice A2 l.length c2)] 27);have z1:(w3.alloc (.cells #[(.slice A2 l.length c2)] 27)).heap.size=w.heap.size+5:=by simp[hs3]
 have m2:=m1.alloc m1.size (.cells #[(.slice A1 base.length c1)] 27);have z2:((w3.alloc (.cells #[(.slice A2 l.length c2)] 27)).alloc (.cells #[(.slice A1 base.length c1)] 27)).heap.size=w.heap.size+6:=by simp[hs3]
 have m3:=m2.alloc m2.size (.cells #[.map (some mb)] 72);have u4:=((gV.new w3 #[(.slice A2 l.length c2)] 27).alloc (.cells #[(.slice A1 base.length c1)] 27)).alloc (.cells #[.map (some mb)] 72);have u5:=(gV.new (w3.alloc (.cells #[(.slice A2 l.length c2)] 27)) #[(.slice A1 base.length c1)] 27).alloc (.cells #[.map (some mb)] 72);have u6:=gV.new ((w3.alloc (.cells #[(.slice A2 l.length c2)] 27)).alloc (.cells #[(.slice A1 base.length c1)] 27)) #[.map (some mb)] 72
 rw[hs3]at u4;rw[z1]at u5;rw[z2]at u6;have t3:=((y3.alloc (.cells #[(.slice A2 l.length c2)] 27)).alloc (.cells #[(.slice A1 base.length c1)] 27)).alloc (.cells #[.map (some mb)] 72);have t5:=((y5.alloc (.cells #[(.slice A2 l.length c2)] 27)).alloc (.cells #[(.slice A1 base.length c1)] 27)).alloc (.cells #[.map (some mb)] 72);have t7:=((x7.alloc (.cells #[(.slice A2 l.length c2)] 27)).alloc (.cells #[(.slice A1 base.length c1)] 27)).alloc (.cells #[.map (some mb)] 72)
 have tr:=((yr.alloc (.cells #[(.slice A2 l.length c2)] 27)).alloc (.cells #[(.slice A1 base.length c1)] 27)).alloc (.cells #[.map (some mb)] 72);have z3:(((w3.alloc (.cells #[(.slice A2 l.length c2)] 27)).alloc (.cells #[(.slice A1 base.length c1)] 27)).alloc (.cells #[.map (some mb)] 72)).heap.size=w.heap.size+7:=by simp[hs3]
 generalize ((w3.alloc (.cells #[(.slice A2 l.length c2)] 27)).alloc (.cells #[(.slice A1 base.length c1)] 27)).alloc (.cells #[.map (some mb)] 72)=W0 at *;clear y3 y5 yr x7 k3 m1 m2 z1 z2 hs3 q3 q5;have HI0:Hid (Oo p l base (w.heap.size+2) w W0 W0):=by
  refine⟨List.replicate l.length FN,by simp,fun i d c _ hc=>?_,fun c hc=>?_,?_,iZ.refl _,m3⟩
  ·obtain⟨_,rfl⟩:=fB.1 (aV hc);intro h;cases h
  ·obtain⟨_,rfl⟩:=fB.1 hc;exact⟨Int.le_refl _,by decide⟩
  ·show gV _ _ _ _;rw[UL];exact tr
 have FK:Hid (∀W,iZ (fun b=>b=w.heap.size+2) W0.heap.size W0 W→(gV W w.heap.size 27 #[(.slice A2 l.length c2)]∧gV W (w.heap.size+1) 72 #[.map (some mb)]∧gV W (w.heap.size+3) 78 #[.slice (some ⟨w.heap.size+2,0,none⟩) l.length l.length])∧gV W (w.heap.size+5) 27 #[(.slice A1 base.length c1)]∧gV W (w.heap.size+6) 72 #[.map (some mb)]∧gV W (w.heap.size+4) 27 #[(.slice A2 l.length c2)]∧qi W (.slice A1 base.length c1) base∧qi W (.slice A2 l.length c2) l∧ol W mb mn (JA p)):=fun W hk=>by
  have kk:=XT m3 hk fZ ;exact⟨⟨hk.blk t3 fZ fZ ,hk.blk t5 fZ fZ ,hk.blk t7 fZ fZ ⟩,hk.blk u5 fZ fZ ,hk.blk u6 fZ fZ ,hk.blk u4 fZ fZ ,HBs.out.keep kk,HL.out.keep kk,HM.out.of_heap (UN m3 hk fZ mb ahc)⟩
 have HW0:=af m3;clear tr t3 t5 t7 u4 u5 u6 HBs m3;refine Jg (α:=YL) (gf:=105) (lb:=#[.pointer (some ⟨w.heap.size+5,0,none⟩),.pointer (some ⟨w.heap.size+6,0,none⟩),.pointer (some ⟨w.heap.size+4,0,none⟩)]) rfl (enters_of func105 gB rfl)
  cnV rfl (fun pre x=>pre++[x] <+: qh p l base) (qh p l base) (fun b=>b=w.heap.size+2) (fun _ W=>Oo p l base (w.heap.size+2) w W0 W) (fun W=>Oo p l base (w.heap.size+2) w W0 W) 0
  (fun pre W W' k h=>h.below k) (fun pre W r o o' hr h h1 h2=>h.put hr fZ h1 h2) (fun W W' k h=>h.below k) (fun W r o o' hr h h1 h2=>h.put hr fZ h1 h2) HI0.out
  (fun lp J Jx hJ hJx hY W hB hJ0=>UI _ lp fZ _ _ _ A1 A2 c1 c2 mb mn p l base (fun b=>b=w.heap.size+2) W0.heap.size (fun W=>iZ (fun b=>b=w.heap.size+2) W0.heap.size W0 W) (fun W W' k h=>h.trans k) (fun W h=>(FK.out W h).2) hbn fZ J Jx hJ hY W (iK hB) hJ0)
  (fun x W=>W.alloc (.cells (YM x) 138)) (fun x W=>(ah _ _).alloc (ak _) _) ?a1 ?assign ?body ?done ?stop
 case assign =>
  intro lp x W K hK;unfold cnV;gi_wp2;exact hK
 case body =>
  rintro lp pre x W W' hWh hW' hI hG;obtain⟨r,o,o',hr,ho,rfl⟩:=hW';have hbn:=gV.new W (YM x) 138;have hrn:W.heap.size≠r:=fun e=>by
   subst e;rw[show (W.alloc (.cells (YM x) 138)).heap[W.heap.size]?=_ from hbn]at hr;cases hr;cases ho
  have hbx:gV ((W.alloc (.cells (YM x) 138)).putObj r o') W.heap.size 138 (YM x):=(World.putObj_heap_other hrn).trans hbn;have hsz:W0.heap.size+2<((W.alloc (.cells (YM x) 138)).putObj r o').heap.size:=by rw[iT];simp;omega
  generalize (W.alloc (.cells (YM x) 138)).putObj r o'=Wb at *;obtain⟨rest,hG⟩:=hG;obtain⟨hxd,hxf⟩:=XR (p:=p) (l:=l) (base:=base) (x:=x) (by rw[←hG];simp);clear hbn hrn hr ho hG rest;generalize hgx:W.heap.size=gx at *;clear hgx W;obtain⟨xd,xt,xf⟩:=x;simp only at hxd hxf;subst hxd;unfold YM at hbx;simp only at hbx;obtain⟨b0,b1,b2,b3⟩:=zV hbx;have hkn:iZ (fun b=>b=w.heap.size+2) W0.heap.size W0 Wb:=hI.choose_spec.2.2.2.2.1;obtain⟨⟨n3,n5,n7⟩,_⟩:=FK.out Wb hkn;have p3:=n3.cl 0;have HXF:=af hxf;have nG:=af hbx;have HI:=af hI;by_cases hfl:xf=l.length
  ·subst hfl;have hbb:(((l.length:Nat):Int)==(l.length:Int))=true:=by simp
   clear n3 n5 n7 hbx hI hkn;gi_wp2;exact⟨rfl,KeepsOthers.refl _,iZ.refl _,HI.out⟩
  ·have amn:xf<l.length:=by
    rcases hxf with ⟨_,h0⟩|⟨k,hk,h0⟩
    ·have:0<l.length∨l.length=0:=by omega
     rcases this with h|h
     ·omega
     ·omega
    ·have:=(ay.1 hk).1;omega
   have hbb:((xf:Int)==(l.length:Int))=false:=by simp;omega
   have CS:=Fw Wb (fu (iC p xd)) (by rw[gL];exact Jv.out xd);rw[iI]at CS;have CS:=af CS;clear n3 n5 n7 hbx hI hkn hxf;gi_wp2_with fail;refine⟨trivial,?_⟩;refine((kz lp).calls CS.out).mono ?_;rintro e w2 ⟨B,g,hBg,rfl,hIx,hb2⟩;have hs2:=hb2.size;have hb3:=hb2.alloc hb2.size (.cells #[.pointer (some ⟨g,0,none⟩)] 141);have YO:=af (hIx.below ((ah w2.heap.size w2).alloc (ak _) (.cells #[.pointer (some ⟨g,0,none⟩)] 141)));have YP:=af (gV.new w2 #[.pointer (some ⟨g,0,none⟩)] 141)
   have adm:=af (nG.out.keep hb3);have HI3:=af (HI.out.below hb3);have adn:Hid (iZ (fun b=>b=w.heap.size+2) W0.heap.size Wb (w2.alloc (.cells #[.pointer (some ⟨g,0,none⟩)] 141))):=iK hb3;have ado:Hid (KeepsOthers Wb (w2.alloc (.cells #[.pointer (some ⟨g,0,none⟩)] 141))):=⟨hb3.size,fun k o hx ho=>(hb3.block k (ax.1 hx).1).trans hx⟩;have b3':=(nG.out.keep hb3).cl 3;have hgs:W0.heap.size<w2.heap.size:=by omega
   clear b0 b1 b2 b3 p3 hb2 hb3 hIx CS nG HI hs2 hBg;gi_upto_region 6 with (fail);change Code.wpIn _ _ _ _ _ _ (w2.alloc (.cells #[.pointer (some ⟨g,0,none⟩)] 141));generalize w2.alloc (.cells #[.pointer (some ⟨g,0,none⟩)] 141)=w3 at *;generalize w2.heap.size=gs at *;gi_wp2;clear b3';gi_loopw [10] (fun iv wr=>∃k:Nat,xf≤k∧k≤l.length∧iv=.int .i64 k∧Hid (Oo p l base (w.heap.size+2) w W0 wr)∧Hid (KeepsOthers Wb wr)∧Hid (iZ (fun b=>b=w.heap.size+2) W0.heap.size Wb wr)∧Hid (nO (iC p xd) B g wr)∧Hid (gV wr gx 138 #[.int .u64 (xd.1.toNat:Int),.int .u64 (xd.2.toNat:Int),.string (fu (iC p xd)),.int .i64 (xf:Int)])∧Hid (gV wr gs 141 #[.pointer (some ⟨g,0,none⟩)])) (fun iv _=>l.length-(intOf iv).toNat)
   case atStart=>exact⟨xf,ak _,by omega,rfl,HI3,ado,adn,YO,adm,YP⟩
   case round =>
    clear HI3 ado adn YO adm YP;obtain⟨k,hkf,hk,rfl,HI,HKO,Ar,YO,nG,YP⟩:=hrel;obtain⟨cs,hlc,hca,hcz,hrow,hkn,hbw⟩:=HI.out;obtain⟨⟨n3,n5,n7⟩,_,_,_,_,hdl,_⟩:=FK.out wr hkn;have p3:=n3.cl 0;by_cases hlt:k<l.length
    ·have hlt':(k:Int)<(l.length:Int):=by omega
     obtain⟨d,hx⟩:∃d,l[k]?=some d:=⟨_,au hlt⟩;obtain⟨c,hcx⟩:∃c,cs[k]?=some c:=⟨_,au fZ ⟩;obtain⟨ba,oa,hA,e0,e1⟩:=hdl.get hx;have p5:=n5.cl 0;have s0:=YP.out.cl 0;have hdr:=gH wr;obtain⟨_,_,_,_,_,_,hmm⟩:=FK.out wr.drew (hkn.trans (iK hdr));obtain⟨kl,hkl⟩:=nk d;have hlk:=hmm.look (P:=prog) false lX underlying72 kN (rG _) d hkl;rw[uF]at hlk;unfold lS at hlk;obtain⟨dx1,dx2,_⟩:=QO.out xd d;have CD:=F9 wr.drew (b:=fu (iC p d)) (YO.out.below hdr) (by rw[gL];exact Jv.out d) (Jv.out xd)
     rw[iI]at CD;have hck:=(tV dx1).1;have HCN:=af (Al hck);have HCL:=af (wo hck);have MC:=af dx1;have aan:=UM p xd d dx1;have CD:=af CD;have ahe:=af (HI.out.below hdr);have HC:=af (show cs.length=l.length∧(∀i d c,l[i]?=some d→cs[i]?=some c→FP p l base d i c)∧(∀c∈cs,0≤c.size∧c.size≤10000000000)from⟨hlc,hca,hcz⟩);have HR:=af hrow;have HK:=af hkn;have HB:=af hbw;have HX:=af hx;have Cx:=af hcx;subst hA;clear n3 n5 n7 hdl hmm hkl dx1 dx2 hck hlc hca hcz hrow hkn hbw hx hcx hlk CD HI ahe;have hkl':=af (nk d);gi_upto_region 9 with (fail)
     clear p3 p5 s0 e0 e1;refine Jh (kz lp) gB gB 14 (fun i v ww=>match i with
      |0=>v=.agg #[.pointer (some ⟨g,0,none⟩)]
      |1=>v=.map (some mb)
      |2=>v=.slice (some ⟨ba,oa,none⟩) l.length c2
      |3=>v=.int .i64 (k:Int)
      |4=>v=.pointer (some ⟨ba,oa+k*2,none⟩)
      |5=>v=.agg #[.int .u64 (d.1.toNat:Int),.int .u64 (d.2.toNat:Int)]
      |6=>v=.string (fu (iC p d))
      |7=>∃A n c,v=.slice A n c∧R8 ww v (nT (iC p xd) (iC p d))
      |8=>v=.tuple #[.string (fu (mG p xd d)),.int .i64 0]
      |9=>v=.tuple #[.string (fu (mG p xd d)),.int .i64 0]
      |10=>v=.string (fu (mG p xd d))
      |11=>v=.int .i64 0
      |12=>v=.string (fu (mG p xd d))
      |_=>v=.int .i64 0) 0 gB (fun i v w w' h hb=>?_) ?_ ?_
     ·match i,h with
      |0,h=>exact h
      |1,h=>exact h
      |2,h=>exact h
      |3,h=>exact h
      |4,h=>exact h
      |5,h=>exact h
      |6,h=>exact h
      |7,h=>exact(by obtain⟨A',n',c',h1,h2⟩:=h;exact⟨A',n',c',h1,h2.keep (dO hb)⟩)
      |8,h=>exact h
      |9,h=>exact h
      |10,h=>exact h
      |11,h=>exact h
      |12,h=>exact h
      |13,h=>exact h
      |_+14,h=>exact h
     ·rintro i o hi ho a w1 hdf hlen hold hbel gK K hK;clear hdf;have oW:=(gH wr).trans hbel;obtain⟨⟨n3,n5,_⟩,_,_,_,_,ahf,hm9⟩:=FK.out w1 (HK.out.trans (iK oW));have y3:=n3.cl 0;have y5:=n5.cl 0;have y9:=(YP.out.keep oW).cl 0;obtain⟨ba',oa',hA',yd0,yd1⟩:=ahf.get HX.out;injection hA' with hA';injection hA' with hA1 hA2;subst hA1 hA2;obtain⟨kl,hkl⟩:=hkl'.out;have hlk:=hm9.look (P:=prog) false lX underlying72 kN (rG _) d hkl;rw[uF]at hlk;unfold lS at hlk;have s3:=kZ hold 3 (.pointer (some ⟨w.heap.size,0,none⟩))
      have s5:=kZ hold 5 (.pointer (some ⟨w.heap.size+1,0,none⟩));have s9:=kZ hold 9 (.pointer (some ⟨gs,0,none⟩));have s10:=kZ hold 10 (.int .i64 (k:Int));have hi':i=0∨i=1∨i=2∨i=3∨i=4∨i=5∨i=6∨i=7∨i=8∨i=9∨i=10∨i=11∨i=12∨i=13:=by omega
      rcases hi' with rfl|rfl|rfl|rfl|rfl|rfl|rfl|rfl|rfl|rfl|rfl|rfl|rfl|rfl<;>obtain rfl:=aB ho
      ·exact iJ s9
      ·exact iJ s5
      ·exact iJ s3
      ·exact iJ s10
      ·exact yM (iq gK 2 43) (iq gK 3 44)
      ·exact iJ (iq gK 4 45)
      ·exact yM (iq gK 1 42) (iq gK 5 46)
      ·refine sM (iq gK 0 41) (iq gK 6 47) ?_;have CD:=F9 w1 (b:=fu (iC p d)) (YO.out.below oW) (by rw[gL];exact Jv.out d) (Jv.out xd);rw[iI]at CD;refine CD.mono ?_;rintro e' w4 ⟨v4,rfl,hr4,hb4⟩;obtain⟨A4,c4,rfl⟩:=iw hr4;exact hK _ w4 ⟨_,_,_,rfl,OJ hr4⟩ hb4
      ·have e48:=iq gK 7 48;simp only at e48;obtain⟨A',n',c',e48,adp⟩:=e48;rw[e48]at adp;unfold Oper.wp;simp only[execOp,Act.eval,e48];go_simp;have CE:=Na w1 adp (fun y hy=>(by have h:=HCN.out y hy;have h1:=h.o0;have h2:=h.o1;have h3:=h.l0;have h4:=h.l1;have h5:=h.d1;exact⟨⟨by omega,by omega⟩,⟨by omega,by omega⟩,by omega⟩)) (by have:=HCL.out;omega);rw[MC.out]at CE;refine CE.mono ?_;rintro e' w4 ⟨rfl,hb4⟩;exact hK _ w4 rfl hb4
      ·exact iJ (iq gK 8 49)
      ·exact iJ (iq gK 9 40)
      ·exact iJ (iq gK 9 40)
      ·exact iJ (iq gK 10 50)
      ·exact iJ (iq gK 11 51)
     ·rintro a w1 hdf hlen hold hbel hnew;have e11:=qH hnew 12 11;simp only at e11;have e12:=qH hnew 13 12;simp only at e12;obtain⟨uq,hu,hact⟩:=kL [41,42,43,44,45,46,47,48,49,40,50,51,11,12] hdf hlen hold;simp only[hu]at e11 e12;simp only[List.foldl,e11,e12,SA]at hact;clear hdf hlen hold hnew e11 e12 hu;subst hact;refine wF ?_;have om:=(gH wr).trans hbel;have ahg:=HK.out.trans (iK om);have hzs:(fu (mG p xd d)).size=(mG p xd d).length:=gL _;have CT:=af (yK w1 (mG p xd d).length fZ );clear hbel;gi_wp2_with fail;refine⟨trivial,?_⟩;refine((kz lp).calls CT.out).mono ?_
      rintro e w6 ⟨rfl,hb6⟩;have hb:=om.trans (hb6.mono om.size);clear om hb6 CT ahg;obtain⟨⟨_,_,n7⟩,_⟩:=FK.out w6 (HK.out.trans (iK hb));have p7:=n7.cl 0;obtain⟨hlc,hca,hcz⟩:=HC.out;have hrow:=(show pM w6 _ _ from HR.out.keep hb);obtain⟨r0,r1,r2,r3,r4⟩:=hrow.cells Cx.out;have hfz:=fun j=>gV.frozen hrow j
      have f0:=hfz (k*5);have f1:=hfz (k*5+1);have f2:=hfz (k*5+2);have f3:=hfz (k*5+3);have f4:=hfz (k*5+4);obtain⟨b0,b1,b2,b3⟩:=zV (nG.out.keep hb);have hg:=EP w6 (w.heap.size+2) k ⟨true,xd,mG p xd d,wQ (mG p xd d).length⟩;have hbk:=HB.out.trans (hb.mono HB.out.size);have hkk:=HK.out.trans (iK hb);have hko:KeepsOthers Wb w6:=HKO.out.trans ⟨hb.size,fun k o hx ho=>(hb.block k (ax.1 hx).1).trans hx⟩;have hav:∀y,(true=true→(xd∈base∨∃j,j<k∧l[j]?=some xd)∧mG p xd d=mG p xd d∧(wQ (mG p xd d).length:Int)=wQ (mG p xd d).length)∨y:=fun _=>.inl fun _=>⟨by
       rcases HXF.out with ⟨h,_⟩|⟨j,hj,hf⟩
       ·exact .inl h
       ·exact .inr ⟨j,by omega,hj⟩,rfl,rfl⟩
      have htx:(wQ (mG p xd d).length:Int)≤10000000000:=by
       have:=zU (n:=(mG p xd d).length) (k:=5) fZ ;unfold wQ;omega
      have HN1:=af (Oo.new (x:=⟨true,xd,mG p xd d,wQ (mG p xd d).length⟩) hlc hca hcz hrow hkk hbk fZ HX.out Cx.out (by
       rcases hav False with h|h
       ·exact h
       ·exact h.elim) ⟨by simp only;omega,htx⟩)
      have HN2:=af (hko.trans (aaq hrow hg));have HN3:=af ((Ar.out.trans (iK hb)).trans (Ol (h:=W0.heap.size) hg));have HN4:=af ((YO.out.below hb).ahb hrow hg);have HN5:=af ((nG.out.keep hb).grown hg (by intro e;injection e with e;omega));have HN6:=af ((YP.out.keep hb).grown hg (by intro e;injection e with e;omega));have HO1:Hid (Oo p l base (w.heap.size+2) w W0 w6):=⟨cs,hlc,hca,hcz,hrow,hkk,hbk⟩;have Wq:=af hko;have M9:=af (Ar.out.trans (iK hb));have Fv:=af (YO.out.below hb);have ZJ:=af (nG.out.keep hb);have HO6:=af (YP.out.keep hb);have HRW:=af hrow
      have aar:k<cs.length:=by omega
      clear n7 hlc hca hcz hrow hfz hg hbk hkk hko hav htx HKO Ar YO nG YP HC HR HK HB HX Cx hb;obtain⟨has,jQ,del,Rp⟩:=c;simp only at r0 r1 r2 r3 r4;cases has with
      |false =>
       gi_upto_region 12 with (fail);clear r0 r1 r2 r3 r4 f0 f1 f2 f3 f4;gi_upto_region 8 with (refine uO _ rfl (.tmp 81) (.tmp 80) rfl (w.heap.size+2) k ⟨true,xd,mG p xd d,wQ (mG p xd d).length⟩ cs HRW.out aar rfl rfl rfl ?_);clear b0 b1 b2 b3 p7 HRW;generalize Oj w6 (w.heap.size+2) k ⟨true,xd,mG p xd d,wQ (mG p xd d).length⟩=w7 at *;gi_wp2;go_roundw
       case rel=>exact⟨k+1,by omega,by omega,by go_num,HN1,HN2,HN3,HN4,HN5,HN6⟩
       case measure=>simp[intOf];omega
      |true =>
       by_cases hlz:(wQ (mG p xd d).length:Int)<Rp
       ·gi_upto_region 12 with (fail);clear r0 r1 r2 r3 r4 f0 f1 f2 f3 f4;gi_upto_region 8 with (refine uO _ rfl (.tmp 81) (.tmp 80) rfl (w.heap.size+2) k ⟨true,xd,mG p xd d,wQ (mG p xd d).length⟩ cs HRW.out aar rfl rfl rfl ?_);clear b0 b1 b2 b3 p7 HRW;generalize Oj w6 (w.heap.size+2) k ⟨true,xd,mG p xd d,wQ (mG p xd d).length⟩=w7 at *;gi_wp2;go_roundw
        case rel=>exact⟨k+1,by omega,by omega,by go_num,HN1,HN2,HN3,HN4,HN5,HN6⟩
        case measure=>simp[intOf];omega
       ·have hdz:decide ((wQ (mG p xd d).length:Int)<Rp)=false:=decide_eq_false hlz;clear hlz;gi_upto_region 8 with (fail);clear r0 r1 r2 r3 r4 f0 f1 f2 f3 f4 b0 b1 b2 b3 p7 HRW hdz;gi_wp2;go_roundw
        case rel=>exact⟨k+1,by omega,by omega,by go_num,HO1,Wq,M9,Fv,ZJ,HO6⟩
        case measure=>simp[intOf];omega
    ·obtain rfl:k=l.length:=by omega
     have hlt':¬(l.length:Int)<(l.length:Int):=by omega
     clear n3 n5 n7 hdl hlc hca hcz hrow hkn hbw;gi_wp2;exact⟨HKO.out,by have:=Ar.out;rw[z3]at this;exact this,HI.out⟩
 case done =>
  rintro D W hD hi hK;have hkn:=hi.choose_spec.2.2.2.2.1;obtain⟨⟨n3,n5,n7⟩,_⟩:=FK.out W hkn;have p3:=n3.cl 0;have HI:=af hi;have L9:=af hK;clear hkn n3 n5 n7 hi hK HI0 QO;gi_wp2;clear p3;gi_loopw [84] (fun i wr=>∃k:Nat,k≤l.length∧i=.int .i64 k∧Hid (VO p l base (w.heap.size+2) k w W0 wr)∧Hid (wr.heap[D]?=some (.deferred (some [])))) (fun i _=>l.length-(intOf i).toNat)
  case atStart=>exact⟨0,by omega,rfl,af (EQ HI.out),L9⟩
  case round =>
   clear HI L9;obtain⟨k,hk,rfl,HT,L9⟩:=hrel;obtain⟨cs,hlc,hca,hcz,hsz,hrow,hkn,hbw⟩:=HT.out;obtain⟨⟨n3,n5,n7⟩,_,_,_,_,hdl,hmm⟩:=FK.out wr hkn;by_cases hlt:k<l.length
   ·have hlt':(k:Int)<(l.length:Int):=by omega
    obtain⟨d,hx⟩:∃d,l[k]?=some d:=⟨_,au hlt⟩;obtain⟨c,hcx⟩:∃c,cs[k]?=some c:=⟨_,au fZ ⟩;obtain⟨ba,oa,hA,e0,e1⟩:=hdl.get hx;obtain⟨z,hz⟩:∃z,c.size=z:=⟨_,rfl⟩;have hzb:=hsz c (aV hcx);obtain⟨_,_,_,_,cz⟩:=hrow.cells hcx;rw[hz]at hzb cz;have hal:=(ah wr.heap.size wr).alloc (ak _) (.cells #[.int .u64 (d.1.toNat:Int),.int .u64 (d.2.toNat:Int)] 39);have XD:=af (gV.new wr #[.int .u64 (d.1.toNat:Int),.int .u64 (d.2.toNat:Int)] 39);have X7:=af (n7.keep hal);have X5:=af (n5.keep hal);have XS:=af (dO hal _ _ _ cz)
    have XM:=af (hmm.keep hal);have hkl':=af (nk d);have CT:=af (fun w=>yK w (iC p d).length (by have:=Jv.out d;omega));obtain⟨bb,hbb⟩:∃bb,decide ((wQ (iC p d).length:Int)≤z+16)=bb:=⟨_,rfl⟩;have HBB:=af hbb;have HC:=af (show cs.length=l.length∧(∀i d c,l[i]?=some d→cs[i]?=some c→FP p l base d i c)∧(∀i d c,i<k→l[i]?=some d→cs[i]?=some c→vP p l base d i c)∧(∀c∈cs,0≤c.size∧c.size≤10000000000)from⟨hlc,hca,hcz,hsz⟩);have HR:=af (hrow.keep hal);have HK:Hid (iZ (fun b=>b=w.heap.size+2) W0.heap.size W0 (wr.alloc (.cells #[.int .u64 (d.1.toNat:Int),.int .u64 (d.2.toNat:Int)] 39))):=hkn.trans (iK hal)
    have HB:=af (hbw.trans (hal.mono hbw.size));have HD2:=af ((hal.block D (ax.1 L9.out).1).trans L9.out);have HX:=af hx;have Cx:=af hcx;have HZ:=af hz;subst hA;clear hlc hca hcz hsz hrow hkn hbw n3 n5 n7 hdl hmm hx hcx hz hal cz hbb HT L9;gi_upto_region 16 with (fail);clear e0 e1;generalize wr.alloc (.cells #[.int .u64 (d.1.toNat:Int),.int .u64 (d.2.toNat:Int)] 39)=w3 at *;generalize wr.heap.size=gx at *;refine wpIn_wide.2 ?_;refine iN gB 12 (fun i v ww=>match i with
     |0=>v=.slice (some ⟨w.heap.size+2,0,none⟩) l.length l.length
     |1=>v=.int .i64 (k:Int)
     |2=>v=.pointer (some ⟨w.heap.size+2,k*5,none⟩)
     |3=>v=.pointer (some ⟨w.heap.size+2,k*5+4,none⟩)
     |4=>v=.int .i64 z
     |5=>v=.int .i64 (z+16)
     |6=>v=.map (some mb)
     |7=>v=.agg #[.int .u64 (d.1.toNat:Int),.int .u64 (d.2.toNat:Int)]
     |8=>v=.string (fu (iC p d))
     |9=>v=.int .i64 ((iC p d).length:Int)
     |10=>v=.int .i64 (wQ (iC p d).length:Int)
     |_=>v=.bool bb) 0 gB (fun i v w w' h hb=>?_) ?_ ?_
    ·exact PH
    ·rintro i o hi ho a w1 hdf hlen hold hbel gK K hK;clear hdf;have oW:=(gH w3).trans hbel;have y7:=((X7.out.keep (gH _)).keep hbel).cl 0;have y5:=((X5.out.keep (gH _)).keep hbel).cl 0;obtain⟨yd0,yd1⟩:=kI ((XD.out.keep (gH _)).keep hbel);have ys:=dO oW _ _ _ XS.out;obtain⟨kl,hkl⟩:=hkl'.out;have hlk:=(XM.out.keep oW).look (P:=prog) false lX underlying72 kN (rG _) d hkl;rw[uF]at hlk;unfold lS at hlk;have s5:=kZ hold 5 (.pointer (some ⟨w.heap.size+1,0,none⟩));have s7:=kZ hold 7 (.pointer (some ⟨w.heap.size+3,0,none⟩))
     have s14:=kZ hold 14 (.int .i64 (k:Int));have s15:=kZ hold 15 (.pointer (some ⟨gx,0,none⟩));have hi':i=0∨i=1∨i=2∨i=3∨i=4∨i=5∨i=6∨i=7∨i=8∨i=9∨i=10∨i=11:=by omega
     rcases hi' with rfl|rfl|rfl|rfl|rfl|rfl|rfl|rfl|rfl|rfl|rfl|rfl<;>obtain rfl:=aB ho
     ·exact iJ s7
     ·exact iJ s14
     ·exact yM (iq gK 0 89) (iq gK 1 90)
     ·exact iJ (iq gK 2 91)
     ·exact iJ (iq gK 3 92)
     ·refine qM (iq gK 4 93) ?_;exact hK _ w1 (congrArg (Value.int .i64) (jo fZ fZ )) gD
     ·exact iJ s5
     ·exact iJ s15
     ·exact yM (iq gK 6 95) (iq gK 7 96)
     ·refine qM (iq gK 8 97) ?_;exact hK _ w1 (by first|rfl|exact congrArg (fun q:Nat=>Value.int .i64 (q:Int)) (gL _)) gD
     ·refine qM (iq gK 9 98) ?_;refine(CT.out w1).mono ?_;rintro e' w4 ⟨rfl,hb4⟩;exact hK _ w4 rfl hb4
     ·refine sM (iq gK 5 94) (iq gK 10 99) ?_;exact hK _ w1 (congrArg Value.bool HBB.out) gD
    ·rintro a w1 hdf hlen hold hbel hnew;have e100:=qH hnew 11 100;simp only at e100;obtain⟨uq,hu,hact⟩:=kL [89,90,91,92,93,94,95,96,97,98,99,100] hdf hlen hold;simp only[hu]at e100;simp only[List.foldl,e100,SA]at hact;clear hdf hlen hold hnew e100 hu;subst hact;refine iP ?_;have om:=(gH w3).trans hbel;obtain⟨hlc,hca,hcz,hsz⟩:=HC.out;have hrow:=(show pM w1 _ _ from HR.out.keep om);have hkn:=HK.out.trans (iK om);have hbw:=HB.out.trans (om.mono HB.out.size);have HD3:=af ((om.block D (ax.1 HD2.out).1).trans HD2.out);have x7:=(X7.out.keep om).cl 0;cases bb with
     |true =>
      obtain⟨r0,_⟩:=hrow.cells Cx.out;have f0:=gV.frozen hrow (k*5);have hne:D≠w.heap.size+2:=fun e=>by
       have h1:w1.heap[w.heap.size+2]?=_:=hrow;have h2:=HD3.out;rw[e,h1]at h2;cases h2
      have HT2:=af (VO.drop hlc hca hcz hsz hrow hkn hbw fZ HX.out Cx.out);have HD4:Hid ((w1.setCell ⟨w.heap.size+2,k*5,none⟩ (.bool false)).heap[D]?=some (.deferred (some []))):=(bf w1 ⟨w.heap.size+2,k*5,none⟩ _ D hne).trans HD3.out;clear hbel X7 X5 XS XM CT XD HC HR HK HB HD2 HD3 hlc hca hcz hsz hrow hkn hbw om hne HX Cx HZ;gi_wp2;go_roundw
      case rel=>exact⟨k+1,by omega,by go_num,HT2,HD4⟩
      case measure=>simp[intOf];omega
     |false =>
      have hzz:¬(wQ (iC p d).length:Int)≤z+16:=of_decide_eq_false HBB.out;have HT2:=af (GX hlc hca hcz hsz hrow hkn hbw HX.out Cx.out (by rw[HZ.out];omega));clear hbel X7 X5 XS XM CT XD HC HR HK HB HD2 hlc hca hcz hsz hrow hkn hbw om HX Cx HZ hzz;gi_wp2;go_roundw
      case rel=>exact⟨k+1,by omega,by go_num,HT2,HD3⟩
      case measure=>simp[intOf];omega
   ·obtain rfl:k=l.length:=by omega
    have hlt':¬(l.length:Int)<(l.length:Int):=by omega
    have p7:=n7.cl 0;clear n3 n5 n7 hdl hmm hlc hca hcz hsz hrow hkn hbw;gi_wp2;refine⟨by simp,.inl ⟨_,_,rfl,run_takeDeferred L9.out,?_⟩⟩;refine⟨.slice (some ⟨w.heap.size+2,0,none⟩) l.length l.length,by simp[results,results28,go_sem],?_⟩;exact HT.out.fin (by rw[z3]at *;omega) fZ L9.out hn
 case stop =>
  rintro D W hD hi hK;have hkn:=hi.choose_spec.2.2.2.2.1;obtain⟨⟨n3,n5,n7⟩,_⟩:=FK.out W hkn;have p3:=n3.cl 0;have HI:=af hi;have L9:=af hK;clear hkn n3 n5 n7 hi hK HI0 QO;gi_wp2;clear p3;gi_loopw [84] (fun i wr=>∃k:Nat,k≤l.length∧i=.int .i64 k∧Hid (VO p l base (w.heap.size+2) k w W0 wr)∧Hid (wr.heap[D]?=some (.deferred (some [])))) (fun i _=>l.length-(intOf i).toNat)
  case atStart=>exact⟨0,by omega,rfl,af (EQ HI.out),L9⟩
  case round =>
   clear HI L9;obtain⟨k,hk,rfl,HT,L9⟩:=hrel;obtain⟨cs,hlc,hca,hcz,hsz,hrow,hkn,hbw⟩:=HT.out;obtain⟨⟨n3,n5,n7⟩,_,_,_,_,hdl,hmm⟩:=FK.out wr hkn;by_cases hlt:k<l.length
   ·have hlt':(k:Int)<(l.length:Int):=by omega
    obtain⟨d,hx⟩:∃d,l[k]?=some d:=⟨_,au hlt⟩;obtain⟨c,hcx⟩:∃c,cs[k]?=some c:=⟨_,au fZ ⟩;obtain⟨ba,oa,hA,e0,e1⟩:=hdl.get hx;obtain⟨z,hz⟩:∃z,c.size=z:=⟨_,rfl⟩;have hzb:=hsz c (aV hcx);obtain⟨_,_,_,_,cz⟩:=hrow.cells hcx;rw[hz]at hzb cz;have hal:=(ah wr.heap.size wr).alloc (ak _) (.cells #[.int .u64 (d.1.toNat:Int),.int .u64 (d.2.toNat:Int)] 39);have XD:=af (gV.new wr #[.int .u64 (d.1.toNat:Int),.int .u64 (d.2.toNat:Int)] 39);have X7:=af (n7.keep hal);have X5:=af (n5.keep hal);have XS:=af (dO hal _ _ _ cz)
    have XM:=af (hmm.keep hal);have hkl':=af (nk d);have CT:=af (fun w=>yK w (iC p d).length (by have:=Jv.out d;omega));obtain⟨bb,hbb⟩:∃bb,decide ((wQ (iC p d).length:Int)≤z+16)=bb:=⟨_,rfl⟩;have HBB:=af hbb;have HC:=af (show cs.length=l.length∧(∀i d c,l[i]?=some d→cs[i]?=some c→FP p l base d i c)∧(∀i d c,i<k→l[i]?=some d→cs[i]?=some c→vP p l base d i c)∧(∀c∈cs,0≤c.size∧c.size≤10000000000)from⟨hlc,hca,hcz,hsz⟩);have HR:=af (hrow.keep hal);have HK:Hid (iZ (fun b=>b=w.heap.size+2) W0.heap.size W0 (wr.alloc (.cells #[.int .u64 (d.1.toNat:Int),.int .u64 (d.2.toNat:Int)] 39))):=hkn.trans (iK hal)
    have HB:=af (hbw.trans (hal.mono hbw.size));have HD2:=af ((hal.block D (ax.1 L9.out).1).trans L9.out);have HX:=af hx;have Cx:=af hcx;have HZ:=af hz;subst hA;clear hlc hca hcz hsz hrow hkn hbw n3 n5 n7 hdl hmm hx hcx hz hal cz hbb HT L9;gi_upto_region 16 with (fail);clear e0 e1;generalize wr.alloc (.cells #[.int .u64 (d.1.toNat:Int),.int .u64 (d.2.toNat:Int)] 39)=w3 at *;generalize wr.heap.size=gx at *;refine wpIn_wide.2 ?_;refine iN gB 12 (fun i v ww=>match i with
     |0=>v=.slice (some ⟨w.heap.size+2,0,none⟩) l.length l.length
     |1=>v=.int .i64 (k:Int)
     |2=>v=.pointer (some ⟨w.heap.size+2,k*5,none⟩)
     |3=>v=.pointer (some ⟨w.heap.size+2,k*5+4,none⟩)
     |4=>v=.int .i64 z
     |5=>v=.int .i64 (z+16)
     |6=>v=.map (some mb)
     |7=>v=.agg #[.int .u64 (d.1.toNat:Int),.int .u64 (d.2.toNat:Int)]
     |8=>v=.string (fu (iC p d))
     |9=>v=.int .i64 ((iC p d).length:Int)
     |10=>v=.int .i64 (wQ (iC p d).length:Int)
     |_=>v=.bool bb) 0 gB (fun i v w w' h hb=>?_) ?_ ?_
    ·exact PH
    ·rintro i o hi ho a w1 hdf hlen hold hbel gK K hK;clear hdf;have oW:=(gH w3).trans hbel;have y7:=((X7.out.keep (gH _)).keep hbel).cl 0;have y5:=((X5.out.keep (gH _)).keep hbel).cl 0;obtain⟨yd0,yd1⟩:=kI ((XD.out.keep (gH _)).keep hbel);have ys:=dO oW _ _ _ XS.out;obtain⟨kl,hkl⟩:=hkl'.out;have hlk:=(XM.out.keep oW).look (P:=prog) false lX underlying72 kN (rG _) d hkl;rw[uF]at hlk;unfold lS at hlk;have s5:=kZ hold 5 (.pointer (some ⟨w.heap.size+1,0,none⟩));have s7:=kZ hold 7 (.pointer (some ⟨w.heap.size+3,0,none⟩))
     have s14:=kZ hold 14 (.int .i64 (k:Int));have s15:=kZ hold 15 (.pointer (some ⟨gx,0,none⟩));have hi':i=0∨i=1∨i=2∨i=3∨i=4∨i=5∨i=6∨i=7∨i=8∨i=9∨i=10∨i=11:=by omega
     rcases hi' with rfl|rfl|rfl|rfl|rfl|rfl|rfl|rfl|rfl|rfl|rfl|rfl<;>obtain rfl:=aB ho
     ·exact iJ s7
     ·exact iJ s14
     ·exact yM (iq gK 0 89) (iq gK 1 90)
     ·exact iJ (iq gK 2 91)
     ·exact iJ (iq gK 3 92)
     ·refine qM (iq gK 4 93) ?_;exact hK _ w1 (congrArg (Value.int .i64) (jo fZ fZ )) gD
     ·exact iJ s5
     ·exact iJ s15
     ·exact yM (iq gK 6 95) (iq gK 7 96)
     ·refine qM (iq gK 8 97) ?_;exact hK _ w1 (by first|rfl|exact congrArg (fun q:Nat=>Value.int .i64 (q:Int)) (gL _)) gD
     ·refine qM (iq gK 9 98) ?_;refine(CT.out w1).mono ?_;rintro e' w4 ⟨rfl,hb4⟩;exact hK _ w4 rfl hb4
     ·refine sM (iq gK 5 94) (iq gK 10 99) ?_;exact hK _ w1 (congrArg Value.bool HBB.out) gD
    ·rintro a w1 hdf hlen hold hbel hnew;have e100:=qH hnew 11 100;simp only at e100;obtain⟨uq,hu,hact⟩:=kL [89,90,91,92,93,94,95,96,97,98,99,100] hdf hlen hold;simp only[hu]at e100;simp only[List.foldl,e100,SA]at hact;clear hdf hlen hold hnew e100 hu;subst hact;refine iP ?_;have om:=(gH w3).trans hbel;obtain⟨hlc,hca,hcz,hsz⟩:=HC.out;have hrow:=(show pM w1 _ _ from HR.out.keep om);have hkn:=HK.out.trans (iK om);have hbw:=HB.out.trans (om.mono HB.out.size);have HD3:=af ((om.block D (ax.1 HD2.out).1).trans HD2.out);have x7:=(X7.out.keep om).cl 0;cases bb with
     |true =>
      obtain⟨r0,_⟩:=hrow.cells Cx.out;have f0:=gV.frozen hrow (k*5);have hne:D≠w.heap.size+2:=fun e=>by
       have h1:w1.heap[w.heap.size+2]?=_:=hrow;have h2:=HD3.out;rw[e,h1]at h2;cases h2
      have HT2:=af (VO.drop hlc hca hcz hsz hrow hkn hbw fZ HX.out Cx.out);have HD4:Hid ((w1.setCell ⟨w.heap.size+2,k*5,none⟩ (.bool false)).heap[D]?=some (.deferred (some []))):=(bf w1 ⟨w.heap.size+2,k*5,none⟩ _ D hne).trans HD3.out;clear hbel X7 X5 XS XM CT XD HC HR HK HB HD2 HD3 hlc hca hcz hsz hrow hkn hbw om hne HX Cx HZ;gi_wp2;go_roundw
      case rel=>exact⟨k+1,by omega,by go_num,HT2,HD4⟩
      case measure=>simp[intOf];omega
     |false =>
      have hzz:¬(wQ (iC p d).length:Int)≤z+16:=of_decide_eq_false HBB.out;have HT2:=af (GX hlc hca hcz hsz hrow hkn hbw HX.out Cx.out (by rw[HZ.out];omega));clear hbel X7 X5 XS XM CT XD HC HR HK HB HD2 hlc hca hcz hsz hrow hkn hbw om HX Cx HZ hzz;gi_wp2;go_roundw
      case rel=>exact⟨k+1,by omega,by go_num,HT2,HD3⟩
      case measure=>simp[intOf];omega
   ·obtain rfl:k=l.length:=by omega
    have hlt':¬(l.length:Int)<(l.length:Int):=by omega
    have p7:=n7.cl 0;clear n3 n5 n7 hdl hmm hlc hca hcz hsz hrow hkn hbw;gi_wp2;refine⟨by simp,.inl ⟨_,_,rfl,run_takeDeferred L9.out,?_⟩⟩;refine⟨.slice (some ⟨w.heap.size+2,0,none⟩) l.length l.length,by simp[results,results28,go_sem],?_⟩;exact HT.out.fin (by rw[z3]at *;omega) fZ L9.out hn
end Go.Proofs.YtichfhpgdhdiaaaGreat
namespace Go.Proofs.YtichfhpgdhdiaaaGreat
open Go.RowKit
theorem XU:JA []=fun _=>none:=by funext d;simp[JA,mD]
theorem UO{q:List It}{x:It}(hs:pO (q++[x])):JA (q++[x])=uD (JA q) x.1 (.string (fu x.2)):=by
 funext d
 unfold uD;by_cases e:d=x.1
 ·subst e;have hm:x∈q++[x]:=by simp
  rw[if_pos rfl];unfold JA;rw[if_pos (rP hm),ER hs hm]
 ·rw[if_neg e];have hh:mD (q++[x]) d=mD q d:=by
   unfold mD;rw[decide_eq_decide];simp only[eG,dJ,eB,bq,dw,e,or_false]
  unfold JA;rw[hh];cases hq:mD q d with
  |false=>rfl
  |true =>
   have h1:=pK hq;have h2:=ER hs (x:=(d,iC q d)) (by simp[h1]);simp only at h2;rw[h2]
def PkE(p:List It)(l base:List Dg)(w0:World)(e:Ending)(w:World):Prop:=Below w0.heap.size w0 w ∧
 ((xB p l base∧∃s,YK p l base s∧e=.returned (.tuple #[.string (fu s),.int .i64 0]))∨(¬xB p l base∧∃k:Int,k≠0∧e=.returned (.tuple #[.string ⟨#[]⟩,.int .i64 k])))
theorem Dm{p:List It}{l base:List Dg}{w0 w:World}{k:Int}(hb:Below w0.heap.size w0 w)(h:¬xB p l base)(hk:k≠0):PkE p l base w0 (.returned (.tuple #[.string ⟨#[]⟩,.int .i64 k])) w:=⟨hb,.inr ⟨h,k,hk,rfl⟩⟩
theorem tq(w:World)(v vl vb:Value)(p:List It)(l base:List Dg)(h:og w v p)(hl:qi w vl l)(hb:qi w vb base)(hp:zR p)(hpl:p.length≤10000)(hll:l.length≤1000000)(hbl:base.length≤1000000):
  Calls prog 9 #[v,vl,vb] w (PkE p l base w):=by
 obtain⟨A0,c0,rfl,hc0,hm0⟩:=h.form;obtain⟨A2,c2,rfl,hc2,hm2⟩:=hl.form;obtain⟨A1,c1,rfl,hc1,hm1⟩:=hb.form;have hmm:=@run_makeMap prog;have HK:=af ((ah w.heap.size w).alloc (ak _) (.map #[] 0));have HM:Hid (ol (w.alloc (.map #[] 0)) w.heap.size 0 (JA (p.take 0))):=by
  show ol _ _ _ _;rw[bO,XU];exact pJ w
 have HP:=af h;have HL:=af hl;have HB:=af hb;have HG:=af hp;clear h hl hb hp;by_cases hn:l.length≤1000
 ·have hnn:¬(1000:Int)<(l.length:Int):=by omega
  go_enter func9,ntmps9;go_wp2;go_loopw [22] (fun iv wr=>∃k:Nat,k≤p.length∧iv=.int .i64 k∧Hid (ol wr w.heap.size k (JA (p.take k)))∧Below w.heap.size w wr) (fun iv _=>p.length-(intOf iv).toNat)
  case atStart=>exact⟨0,by omega,rfl,HM,HK.out⟩
  case round =>
   clear HM HK;obtain⟨k,hk,rfl,Je,hbw⟩:=hrel;by_cases hlt:k<p.length
   ·obtain⟨x,hx⟩:∃x,p[k]?=some x:=⟨_,au hlt⟩;obtain⟨b1,o1,rfl,q0,q1,q2⟩:=(HP.out.keep (dO hbw)).get hx;obtain⟨kl,hkl⟩:=nk x.1;unfold lS at hkl;have Ji:=af (Je.out.alloc (.cells #[.int .u64 (x.1.1.toNat:Int),.int .u64 (x.1.2.toNat:Int),.string (fu x.2)] 74));have HB2:=af (hbw.alloc hbw.size (.cells #[.int .u64 (x.1.1.toNat:Int),.int .u64 (x.1.2.toNat:Int),.string (fu x.2)] 74));have hsn:pO (p.take k++[x]):=by rw[←take_snoc' hx];exact HG.out.1.sub (List.take_sublist _ _)
    have MH:Hid (JA (p.take (k+1))=uD (JA (p.take k)) x.1 (.string (fu x.2))):=by show _=_;rw[take_snoc' hx,UO hsn]
    have nG:=af (gV.new wr #[.int .u64 (x.1.1.toNat:Int),.int .u64 (x.1.2.toNat:Int),.string (fu x.2)] 74);clear Je hbw hsn hx;go_upto_region 7 with (fail);clear q0 q1 q2;generalize wr.alloc (.cells #[.int .u64 (x.1.1.toNat:Int),.int .u64 (x.1.2.toNat:Int),.string (fu x.2)] 74)=w3 at *;generalize wr.heap.size=gx at *;have q0:=nG.out.cl 0;have q1:=nG.out.cl 1;have q2:=nG.out.cl 2;go_wp2_with (at_mapUpdate;refine kC _ rfl _ _ _ _ rfl lX underlying72 kN Ji.out (by unfold maxLen;omega) rfl x.1 rfl hkl _ rfl rfl ?_;intro w1 hM1 hg1 hs1)
    have JY:Hid (ol w1 w.heap.size (k+1) (JA (p.take (k+1)))):=by
     show ol _ _ _ _;rw[MH.out];exact hM1
    have HB3:=af (HB2.out.grown hg1 HB2.out.size (fun g h=>by cases h;exact ak _));clear hM1 hg1 hs1 Ji HB2 hkl nG q0 q1 q2;go_roundw
    case rel=>exact⟨k+1,by omega,by go_num,JY,HB3.out⟩
    case measure=>simp[intOf];omega
   ·obtain rfl:k=p.length:=by omega
    generalize wr=wa at *;have HKn:Hid (ol wa w.heap.size p.length (JA p)):=by
     have h:=Je.out;rw[aF (ak _)]at h;exact h
    have o8:=af hbw;have hlt':¬(p.length:Int)<(p.length:Int):=by omega
    have hmb:w.heap.size<wa.heap.size:=HKn.out.lt;have lG:=af ((ah wa.heap.size wa).alloc (ak _) (.map #[] 0));have Ri:Hid (ol (wa.alloc (.map #[] 0)) wa.heap.size 0 (nu (l.take 0))):=by
     have:(nu []:Dg→Option Value)=fun _=>none:=by funext y;simp[nu]
     show ol _ _ _ _;rw[bO,this];exact pJ wa
    clear Je hbw hk;go_wp2;go_loopw [35] (fun iv wr=>∃k:Nat,k≤l.length∧iv=.int .i64 k∧Hid (ol wr wa.heap.size k (nu (l.take k)))∧Below wa.heap.size wa wr∧Hid ((l.take k).Nodup∧∀d∈l.take k,mD p d=true)) (fun iv _=>l.length-(intOf iv).toNat)
    case atStart=>exact⟨0,by omega,rfl,Ri,lG.out,by simp[Hid]⟩
    case round =>
     clear Ri lG;obtain⟨k,hk,rfl,Je,hbw,HO⟩:=hrel;have I8:=(hTr o8 hbw);by_cases hlt:k<l.length
     ·obtain⟨d,hx⟩:∃d,l[k]?=some d:=⟨_,au hlt⟩;obtain⟨b1,o1,rfl,q0,q1⟩:=(HL.out.keep (dO I8.out)).get hx;obtain⟨kl,hkl⟩:=nk d;unfold lS at hkl;have hal:=(ah wr.heap.size wr).alloc (ak _) (.cells #[.int .u64 (d.1.toNat:Int),.int .u64 (d.2.toNat:Int)] 39);have Ji:=af (Je.out.alloc (.cells #[.int .u64 (d.1.toNat:Int),.int .u64 (d.2.toNat:Int)] 39));have HB2:=af (hbw.alloc hbw.size (.cells #[.int .u64 (d.1.toNat:Int),.int .u64 (d.2.toNat:Int)] 39));have nG:=af (gV.new wr #[.int .u64 (d.1.toNat:Int),.int .u64 (d.2.toNat:Int)] 39)
      have Jb:=af (HP.out.keep (dO (I8.out.trans (hal.mono I8.out.size))));have HX:=af hx;clear Je hbw hx hal I8;go_upto_region 13 with (fail);clear q0 q1;generalize wr.alloc (.cells #[.int .u64 (d.1.toNat:Int),.int .u64 (d.2.toNat:Int)] 39)=w3 at *;generalize wr.heap.size=gx at *;obtain⟨q0,q1⟩:=kI nG.out;have CH:=Ma w3 _ p d Jb.out HG.out.1 fZ ;unfold lS at CH;have CH:=af CH;have Wq:=HO;by_cases hh:mD p d=true
      ·rw[hh]at CH;go_wp2_with fail;refine CH.out.mono ?_;rintro e w4 ⟨rfl,hb4⟩;have Pt:=af (Ji.out.keep hb4);have kY:=(hTr HB2 hb4);have UF:=af (nG.out.keep hb4);clear q0 q1 CH Ji HB2 nG Jb hb4;obtain⟨q0,q1⟩:=kI UF.out;by_cases hin:d∈l.take k
       ·have hv:(nu (l.take k) d).getD (.bool false)=.bool true:=by unfold nu;rw[if_pos hin];rfl
        have HNO:Hid (¬xB p l base):=fun ho=>by
         have h1:(l.take (k+1)).Nodup:=ho.2.1.sublist (List.take_sublist _ _);rw[take_snoc' HX.out]at h1;exact(List.nodup_append.1 h1).2.2 d hin d gu rfl
        have HBE:=af (o8.out.trans (kY.out.mono o8.out.size));clear HX hin HO Wq;go_wp2_with (at_lookup;refine kR false _ rfl _ _ _ rfl lX underlying75 kN Pt.out (sW _) rfl d rfl hkl ?_;simp only[hv]);go_ret2;exact Dm HBE.out HNO.out gm
       ·have hv:(nu (l.take k) d).getD (.bool false)=.bool false:=by unfold nu;rw[if_neg hin];rfl
        have M9:Hid ((l.take (k+1)).Nodup∧∀d∈l.take (k+1),mD p d=true):=by
         show _∧_;rw[take_snoc' HX.out];refine⟨List.nodup_append.2 ⟨HO.out.1,by simp,fun a ha b hb e=>?_⟩,fun y hy=>?_⟩
         ·obtain rfl:b=d:=by simpa using hb
          subst e;exact hin ha
         ·rcases bq.1 hy with h|h
          ·exact HO.out.2 y h
          ·obtain rfl:y=d:=by simpa using h
           exact hh
        have MH:Hid (nu (l.take (k+1))=uD (nu (l.take k)) d (.bool true)):=by show _=_;rw[take_snoc' HX.out,Bt]
        clear HX hin HO Wq hh;go_wp2_with (first|(at_lookup;refine kR false _ rfl _ _ _ rfl lX underlying75 kN Pt.out (sW _) rfl d rfl hkl ?_;simp only[hv])|(at_mapUpdate;refine kC _ rfl _ _ _ _ rfl lX underlying75 kN Pt.out (by unfold maxLen;omega) rfl d rfl hkl _ rfl rfl ?_;intro w1 hM1 hg1 hs1));have HM5:Hid (ol w1 wa.heap.size (k+1) (nu (l.take (k+1)))):=by
         show ol _ _ _ _;rw[MH.out];exact hM1
        have pq:=af (kY.out.grown hg1 kY.out.size (fun g h=>by cases h;exact ak _));clear hM1 hg1 hs1 Pt kY UF q0 q1 hv;go_roundw
        case rel=>exact⟨k+1,by omega,by go_num,HM5,pq.out,M9⟩
        case measure=>simp[intOf];omega
      ·have hh2:mD p d=false:=by simpa using hh
       rw[hh2]at CH;have HNO:Hid (¬xB p l base):=fun ho=>hh (ho.2.2.1 d (aV HX.out))
       clear HX HO Wq hh;go_wp2_with fail;refine CH.out.mono ?_;rintro e w4 ⟨rfl,hb4⟩;have kY:=HB2.out.trans (hb4.mono HB2.out.size);have HBE:=(hTr o8 kY);clear q0 q1 CH Ji HB2 nG Jb hb4 kY;go_wp2;go_ret2;exact Dm HBE.out HNO.out gm
     ·obtain rfl:k=l.length:=by omega
      have hlt2:¬(l.length:Int)<(l.length:Int):=by omega
      have M9:Hid (l.Nodup∧∀d∈l,mD p d=true):=by
       have h:=HO.out;rw[aF (ak _)]at h;exact h
      have HKr:=af (HKn.out.keep hbw);generalize wr=wc at *;clear Je hbw HO hk HKn;go_wp2;go_loopw [51] (fun iv wr=>∃k:Nat,k≤base.length∧iv=.int .i64 k∧Below wc.heap.size wc wr∧Hid (∀d∈base.take k,mD p d=true)) (fun iv _=>base.length-(intOf iv).toNat)
      case atStart=>exact⟨0,by omega,rfl,ah _ _,by simp[Hid]⟩
      case round =>
       obtain⟨k,hk,rfl,hbw,HO⟩:=hrel;have UQ:=(hTr I8 hbw);by_cases hlt:k<base.length
       ·obtain⟨d,hx⟩:∃d,base[k]?=some d:=⟨_,au hlt⟩;obtain⟨b1,o1,rfl,q0,q1⟩:=(HB.out.keep (dO UQ.out)).get hx;have hal:=(ah wr.heap.size wr).alloc (ak _) (.cells #[.int .u64 (d.1.toNat:Int),.int .u64 (d.2.toNat:Int)] 39);have HB2:=af (hbw.alloc hbw.size (.cells #[.int .u64 (d.1.toNat:Int),.int .u64 (d.2.toNat:Int)] 39));have nG:=af (gV.new wr #[.int .u64 (d.1.toNat:Int),.int .u64 (d.2.toNat:Int)] 39);have Jb:=af (HP.out.keep (dO (UQ.out.trans (hal.mono UQ.out.size))));have HX:=af hx
        clear hbw hx hal UQ;go_upto_region 22 with (fail);clear q0 q1;generalize wr.alloc (.cells #[.int .u64 (d.1.toNat:Int),.int .u64 (d.2.toNat:Int)] 39)=w3 at *;generalize wr.heap.size=gx at *;obtain⟨q0,q1⟩:=kI nG.out;have CH:=Ma w3 _ p d Jb.out HG.out.1 fZ ;unfold lS at CH;have CH:=af CH;by_cases hh:mD p d=true
        ·rw[hh]at CH;go_wp2_with fail;refine CH.out.mono ?_;rintro e w4 ⟨rfl,hb4⟩;have kY:=(hTr HB2 hb4);have Fv:Hid (∀d∈base.take (k+1),mD p d=true):=fun y hy=>by
          rw[take_snoc' HX.out]at hy;rcases bq.1 hy with h|h
          ·exact HO.out y h
          ·obtain rfl:y=d:=by simpa using h
           exact hh
         clear q0 q1 CH HB2 nG Jb hb4 HX HO hh;go_wp2;go_roundw
         case rel=>exact⟨k+1,by omega,by go_num,kY.out,Fv⟩
         case measure=>simp[intOf];omega
        ·have hh2:mD p d=false:=by simpa using hh
         rw[hh2]at CH;have HNO:Hid (¬xB p l base):=fun ho=>hh (ho.2.2.2 d (aV HX.out))
         clear HX HO hh;go_wp2_with fail;refine CH.out.mono ?_;rintro e w4 ⟨rfl,hb4⟩;have kY:=HB2.out.trans (hb4.mono HB2.out.size);have HBE:=(hTr I8 kY);clear q0 q1 CH HB2 nG Jb hb4 kY;go_wp2;go_ret2;exact Dm HBE.out HNO.out gm
       ·obtain rfl:k=base.length:=by omega
        have hlt3:¬(base.length:Int)<(base.length:Int):=by omega
        have Vj:Hid (xB p l base):=⟨hn,M9.out.1,M9.out.2,by
         have h:=HO.out;rw[aF (ak _)]at h;exact h⟩
        have HKd:=af (HKr.out.keep hbw);have HLd:=af (HL.out.keep (dO UQ.out));have adv:=af (HB.out.keep (dO UQ.out));have CC:=af (Oq wr A1 A2 c1 c2 w.heap.size p.length p l base HLd.out adv.out HKd.out hn hbl HG.out);clear hbw HO hk HKr I8 HB HL HP M9;go_wp2_with fail;refine CC.out.mono ?_;rintro e w5 ⟨g5,cs,rfl,hch,hcl,hcz,hb5⟩;have HZ:=af hcz;have CA:=af (Jf w5 _ _ w.heap.size p.length p l base cs (HLd.out.keep (dO hb5)) hch (HKd.out.keep hb5) hcl hn HG.out hcz);have pq:=(hTr UQ hb5);have HCL:=af hcl;clear CC hch hcz hb5 HLd adv HKd UQ hcl
        go_wp2_with fail;refine CA.out.mono ?_;rintro e w6 ⟨rfl,hb6⟩;have HE:Hid (PkE p l base w (.returned (.tuple #[.string (fu (nH p l cs)),.int .i64 0])) w6):=⟨pq.out.trans (hb6.mono pq.out.size),.inl ⟨Vj.out,_,⟨cs,HCL.out,HZ.out,rfl⟩,rfl⟩⟩;clear CA hb6 pq Vj HCL HZ;go_wp2;go_ret2;exact HE.out
 ·have hnn:(1000:Int)<(l.length:Int):=by omega
  go_enter func9,ntmps9;go_wp2;go_ret2;exact Dm (ah _ _) (fun h=>hn h.1) gm
end Go.Proofs.YtichfhpgdhdiaaaGreat
