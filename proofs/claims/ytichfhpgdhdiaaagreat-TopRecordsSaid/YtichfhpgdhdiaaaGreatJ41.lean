/- Objects -/
import Derived.Test.YtichfhpgdhdiaaaGreatJ40
import Derived.Test.YtichfhpgdhdiaaaGreatJ3
import Derived.Test.YtichfhpgdhdiaaaGreatJ38
import Derived.Test.YtichfhpgdhdiaaaGreatJ39
import Derived.Test.YtichfhpgdhdiaaaGreatJ32
set_option maxRecDepth 100000
set_option maxHeartbeats 8000000
set_option linter.unusedVariables false
set_option linter.unusedSimpArgs false
open Go.Proofs.Tryz
namespace Go.Proofs.YtichfhpgdhdiaaaGreat
open Go.RowKit
theorem qJ(w:World)(o:Ob)(ve vp:Value)(h:wU w ve vp o)(ho:Cw o)(hl:(jS o).length≤65536):
  Calls prog 86 #[.agg (je o ve vp)] w (R7 w):=by
 obtain⟨hE,hD⟩:=h;obtain⟨eA,ec,rfl,he1,he2⟩:=hE.form;obtain⟨pA,pc,rfl,hp1,hp2⟩:=hD.form;have hal:=(ah w.heap.size w).alloc (ak _) (.cells (je o (.slice eA o.gW.length ec) (.slice pA o.gU.length pc)) 44);have CE:=qK _ o _ _ ⟨hE.keep (dO hal),hD.keep (dO hal)⟩ ho hl;have HK:=af hal;have hB:=gV.new w (je o (.slice eA o.gW.length ec) (.slice pA o.gU.length pc)) 44;unfold je at *;obtain⟨q0,q1,q2,q3,q4,q5,q6,q7,q8⟩:=iB hB;have CE:=af CE;clear hal hB hE hD;go_enter func86,ntmps86
 go_wp2_with fail;refine CE.out.mono ?_;rintro e w2 ⟨rfl,hb⟩;have HN:=(hTr HK hb);clear hb q0 q1 q2 q3 q4 q5 q6 q7 q8;go_wp2;go_ret;exact⟨rfl,HN.out⟩
theorem o9{w:World}{B B':Nat}{e:TypeId}{sz n:Nat}{v:Value}{xs:List Value}(h:w.ownsRow B e sz v n xs)(hb:B'≤B):w.ownsRow B' e sz v n xs:=by
 refine⟨h.1,?_⟩;rcases h.2 with h|⟨g,cap,cur,h1,h2,h3⟩
 ·exact .inl h
 ·exact .inr ⟨g,cap,cur,h1,aS hb h2,h3⟩
def nC(B:Nat)(w:World)(ve vp:Value)(o:Ob):Prop:=w.ownsRow B 155 4 ve o.gW.length (o.gW.flatMap Ic)∧w.ownsRow B 39 2 vp o.gU.length (o.gU.flatMap rq)
theorem nC.at{B:Nat}{w:World}{ve vp:Value}{o:Ob}(h:nC B w ve vp o):wU w ve vp o:=⟨Ie h.1,ze h.2⟩
theorem nC.kept{B b:Nat}{w w':World}{ve vp:Value}{o:Ob}(h:nC B w ve vp o)(hg:w.grownBy w' (some b))(hb:b<B):nC B w' ve vp o :=
 ⟨h.1.kept hg (.inr (by intro e;have:=(h.1.lt _ e).1;omega)),h.2.kept hg (.inr (by intro e;have:=(h.2.lt _ e).1;omega))⟩
theorem nC.below{B:Nat}{w w':World}{ve vp:Value}{o:Ob}(h:nC B w ve vp o)(hg:Below w.heap.size w w'):nC B w' ve vp o :=
 ⟨h.1.kept (iF hg) (by cases ve.ownBlock<;>simp),h.2.kept (iF hg) (by cases vp.ownBlock<;>simp)⟩
theorem nC.lower{B B':Nat}{w:World}{ve vp:Value}{o:Ob}(h:nC B w ve vp o)(hb:B'≤B):nC B' w ve vp o:=⟨o9 h.1 hb,o9 h.2 hb⟩
structure DC(B b:Nat)(l:List UInt8)(o:Ob)(ve vp:Value)(w0 w:World):Prop where
 res:gV w B 44 (je jO (.slice none 0 0) (.slice none 0 0))
 rd:gV w (B+1) 164 #[.string (fu l),.bool false]
 ob:gV w b 44 (je o ve vp)
 en:w.ownsRow (b+1) 155 4 ve o.gW.length (o.gW.flatMap Ic)
 pa:w.ownsRow (b+1) 39 2 vp o.gU.length (o.gU.flatMap rq)
 jM:Below B w0 w
 lo:B+2≤b∧b+1≤w.heap.size
section
variable {B b:Nat}{l l':List UInt8}{o o':Ob}{ve vp FY Dy:Value}{w0 w w':World}
theorem DC.at(h:DC B b l o ve vp w0 w):wU w ve vp o:=⟨Ie h.en,ze h.pa⟩
theorem DC.forms(h:DC B b l o ve vp w0 w):∃A n c A' n' c',ve=.slice A n c∧vp=.slice A' n' c':=by
 obtain⟨A,c,e⟩:=iw h.en;obtain⟨A',c',e'⟩:=iw h.pa;exact⟨A,_,c,A',_,c',e,e'⟩
theorem DC.reader(h:DC B b l o ve vp w0 w)(h1:gV w' (B+1) 164 #[.string (fu l'),.bool false])(hg:w.grownBy w' (some (B+1))):DC B b l' o ve vp w0 w':=by
 refine⟨h.res.grown hg (by intro e;injection e with e;omega),h1,h.ob.grown hg (by have:=h.lo;intro e;injection e with e;omega),h.en.kept hg ?_,h.pa.kept hg ?_,h.jM.grown hg (by have:=h.lo;omega) (fun q e=>by cases e;omega),⟨h.lo.1,aS h.lo.2 hg.size⟩⟩
 ·right;intro e;have:=(h.en.lt _ e).1;have:=h.lo;omega
 ·right;intro e;have:=(h.pa.lt _ e).1;have:=h.lo;omega
theorem DC.below(h:DC B b l o ve vp w0 w)(k:Below w.heap.size w w'):DC B b l o ve vp w0 w' :=
 ⟨h.res.keep k,h.rd.keep k,h.ob.keep k,h.en.kept (iF k) (by cases ve.ownBlock<;>simp),h.pa.kept (iF k) (by cases vp.ownBlock<;>simp),h.jM.trans (k.mono (by have:=h.lo;omega)),⟨h.lo.1,aS h.lo.2 k.size⟩⟩
theorem DC.set(h:DC B b l o ve vp w0 w)(j:Nat)(u:Value)(hc:(je o ve vp).setIfInBounds j u=je o' FY Dy)(he:w.ownsRow (b+1) 155 4 FY o'.gW.length (o'.gW.flatMap Ic))(hp:w.ownsRow (b+1) 39 2 Dy o'.gU.length (o'.gU.flatMap rq)):DC B b l o' FY Dy w0 (w.setCell ⟨b,j,none⟩ u):=by
 have hg:=gG w b j u;have hs:=h.ob.set j u;rw[hc]at hs;refine⟨h.res.grown hg (by have:=h.lo;intro e;injection e with e;omega),h.rd.grown hg (by have:=h.lo;intro e;injection e with e;omega),hs,?_,?_,h.jM.grown hg (by have:=h.lo;omega) (fun q' e=>by have:=h.lo;cases e;omega),⟨h.lo.1,aS h.lo.2 hg.size⟩⟩
 ·exact he.kept hg (.inr (by intro e;have:=(he.lt _ e).1;omega))
 ·exact hp.kept hg (.inr (by intro e;have:=(hp.lt _ e).1;omega))
theorem DC.put(h:DC B b l o ve vp w0 w)(j:Nat)(u:Value)(hc:(je o ve vp).setIfInBounds j u=je o' ve vp)(he:o'.gW=o.gW)(hp:o'.gU=o.gU):DC B b l o' ve vp w0 (w.setCell ⟨b,j,none⟩ u) :=
 h.set j u hc (by rw[he];exact h.en) (by rw[hp];exact h.pa)
theorem DC.OH(h:DC B b l o ve vp w0 w)(o2:Ob)(ve2 JS:Value):nC B (kJ w B o2 ve2 JS) ve vp o:=by
 have hg:=iR w B o2 ve2 JS;have hlo:=h.lo;exact⟨o9 (h.en.kept hg (.inr (by intro e;have:=(h.en.lt _ e).1;omega))) fZ ,o9 (h.pa.kept hg (.inr (by intro e;have:=(h.pa.lt _ e).1;omega))) fZ ⟩
end
def Yd(o:Ob)(w0:World)(e:Ending)(w:World):Prop:=∃(A:Option Addr) (n c:Nat) (A':Option Addr) (n' c':Nat),e=.returned (.tuple #[.agg (je o (.slice A n c) (.slice A' n' c')),.int .i64 0])∧nC w0.heap.size w (.slice A n c) (.slice A' n' c') o∧Below w0.heap.size w0 w
theorem PY(W:World)(g:Nat)(d:Dg)(l:List UInt8)(h:gV W g 164 #[.string (fu (jb d++l)),.bool false]):
  Calls prog 84 #[.pointer (some ⟨g,0,none⟩)] W (Wm g (.agg #[.int .u64 (d.1.toNat:Int),.int .u64 (d.2.toNat:Int)]) l W):=Dw W g d l h
theorem tZ(W:World)(o:Ob)(ho:Cw o)(hl:(jS o).length≤65536):
  Calls prog 36 #[.string (fu (jS o))] W (Yd o W):=by
 have Vj:=af ho;have HLN:=af hl;obtain⟨kind,data,gW,tree,gU,gM,time,msg⟩:=o;rcases ho with ⟨hkd,jd,hno,Rk⟩|⟨hkd,jd,iQ,hco⟩|⟨hkd|hkd,h3⟩
 ·obtain⟨n1,n2,n3,n4,n5⟩:=hno;simp only at hkd jd n1 n2 n3 n4 n5;subst hkd jd n1 n2 n3 n4 n5;have hE:jS ⟨2,[],gW,(0,0),[],[],0,[]⟩=gJ 2++(gJ gW.length++gW.flatMap qI):=by
   simp[jS,aA]
  have HEL:Hid (gW.length≤200):=Rk.1;have Ye:Hid (∀x∈gW,x.name.length≤65536):=fun x hx=>by have:=wu (Rk.2.1 x hx).1;omega
  have HFL:Hid ((gW.flatMap qI).length≤65536):=by show _≤_;rw[hE]at hl;simp only[aj]at hl;omega
  clear Rk hl;rw[hE];have HB0:Hid (gV ((W.alloc (.cells (je jO (.slice none 0 0) (.slice none 0 0)) 44)).alloc (.cells #[.string (fu (gJ 2++(gJ gW.length++gW.flatMap qI))),.bool false] 164)) (W.heap.size+1) 164 #[.string (fu (gJ 2++(gJ gW.length++gW.flatMap qI))),.bool false]):=by
   have h:=gV.new (W.alloc (.cells (je jO (.slice none 0 0) (.slice none 0 0)) 44)) #[.string (fu (gJ 2++(gJ gW.length++gW.flatMap qI))),.bool false] 164;rw[aJ]at h;exact h
  have yT:=af ((gV.new W (je jO (.slice none 0 0) (.slice none 0 0)) 44).alloc (.cells #[.string (fu (gJ 2++(gJ gW.length++gW.flatMap qI))),.bool false] 164));have o8:=af (((ah W.heap.size W).alloc (ak _) (.cells (je jO (.slice none 0 0) (.slice none 0 0)) 44)).alloc gu (.cells #[.string (fu (gJ 2++(gJ gW.length++gW.flatMap qI))),.bool false] 164));have hws:((W.alloc (.cells (je jO (.slice none 0 0) (.slice none 0 0)) 44)).alloc (.cells #[.string (fu (gJ 2++(gJ gW.length++gW.flatMap qI))),.bool false] 164)).heap.size=W.heap.size+2:=by simp
  go_enter func36,ntmps36;go_upto_region 2 with (fail);change Code.wp _ _ _ _ ((W.alloc (.cells (je jO (.slice none 0 0) (.slice none 0 0)) 44)).alloc (.cells #[.string (fu (gJ 2++(gJ gW.length++gW.flatMap qI))),.bool false] 164));generalize (W.alloc (.cells (je jO (.slice none 0 0) (.slice none 0 0)) 44)).alloc (.cells #[.string (fu (gJ 2++(gJ gW.length++gW.flatMap qI))),.bool false] 164)=wa at *;have hws:=af hws;go_wp2_with fail
  refine(pX wa (W.heap.size+1) 2 (gJ gW.length++gW.flatMap qI) fZ HB0.out).mono ?_;rintro e wb ⟨rfl,hB,hG⟩;have D0:Hid (DC W.heap.size wb.heap.size (gJ gW.length++gW.flatMap qI) ⟨2,[],[],(0,0),[],[],0,[]⟩ (.slice none 0 0) (.slice none 0 0) W (wb.alloc (.cells (je ⟨2,[],[],(0,0),[],[],0,[]⟩ (.slice none 0 0) (.slice none 0 0)) 44))):=by
   have hr:=yT.out.grown hG (by intro e;injection e with e;omega);have hsz:=hG.size;have Y0:=hws.out;exact⟨hr.alloc _,hB.alloc _,gV.new wb _ _,World.ownsRow_nil _ _ _ _,World.ownsRow_nil _ _ _ _,(o8.out.grown hG o8.out.size (fun q e=>by cases e;omega)).alloc fZ _,by omega,by simp⟩
  clear hB hG HB0 yT o8 hws;go_upto_region 3 with (fail);generalize Ju:wb.heap.size=ob at *;change Code.wp _ _ _ _ (wb.alloc (.cells (je ⟨2,[],[],(0,0),[],[],0,[]⟩ (.slice none 0 0) (.slice none 0 0)) 44));generalize wb.alloc (.cells (je ⟨2,[],[],(0,0),[],[],0,[]⟩ (.slice none 0 0) (.slice none 0 0)) 44)=wc at *;clear Ju;have b1:((2:Int)==1)=false:=rfl;have b2:((2:Int)==2)=true:=rfl;have b3:((2:Int)==3)=false:=rfl;have b4:((2:Int)==4)=false:=rfl;clear hE;obtain⟨q0,q1,q2,q3,q4,q5,q6,q7,q8⟩:=iB D0.out.ob;have r0:=D0.out.rd.cl 0
  have r1:=D0.out.rd.cl 1;obtain⟨f0,f1,f2,f3,f4,f5,f6,f7,f8⟩:=mP D0.out.ob;go_wp2_with fail;refine(MZ _ _ 200 gW [] HEL.out fZ Ye.out (by have:=HFL.out;simp only[aM];omega) (by have h:=D0.out.rd;rw[aU];exact h)).mono ?_;rintro e u1 ⟨vA,vc,⟨rfl,hB,hG⟩,hR⟩;have hsz0:=D0.out.lo.2;have E:=D0.out.reader hB hG;clear q0 q1 q2 q3 q4 q5 q6 q7 q8 r0 r1 f0 f1 f2 f3 f4 f5 f6 f7 f8;obtain⟨q0,q1,q2,q3,q4,q5,q6,q7,q8⟩:=iB E.ob;have r0:=E.rd.cl 0;have r1:=E.rd.cl 1;obtain⟨f0,f1,f2,f3,f4,f5,f6,f7,f8⟩:=mP E.ob;have D1:=af (E.set 2 (.slice vA gW.length vc) (o':=⟨2,[],gW,(0,0),[],[],0,[]⟩) (FY:=.slice vA gW.length vc) (Dy:=.slice none 0 0) rfl (o9 hR hsz0) E.pa)
  clear hR hsz0;clear hB hG E D0;go_upto_region 15 with (fail);clear q0 q1 q2 q3 q4 q5 q6 q7 q8 r0 r1 f0 f1 f2 f3 f4 f5 f6 f7 f8;generalize (u1).setCell ⟨ob,2,none⟩ (.slice vA gW.length vc)=v1 at *;obtain⟨q0,q1,q2,q3,q4,q5,q6,q7,q8⟩:=iB D1.out.ob;have r0:=D1.out.rd.cl 0;have r1:=D1.out.rd.cl 1;obtain⟨f0,f1,f2,f3,f4,f5,f6,f7,f8⟩:=mP D1.out.ob;clear f0 f1 f2 f3 f4 f5 f6 f7 f8;have CK:=qJ _ ⟨2,[],gW,(0,0),[],[],0,[]⟩ _ _ D1.out.at Vj.out HLN.out;have M4:=af CK;clear CK;unfold je at M4;have e0:(fu ([]:List UInt8)).toList.isEmpty=true:=by rw[gQ];rfl
  have e1:((fu ([]:List UInt8)).toList==[])=true:=by rw[gQ];rfl
  go_wp2_with fail;refine M4.out.mono ?_;rintro e wE ⟨rfl,xV⟩;have DE:=af (D1.out.below xV);clear q0 q1 q2 q3 q4 q5 q6 q7 q8 r0 r1;clear xV M4 D1;have t:=DE.out.res;obtain⟨t0,t1,t2,t3,t4,t5,t6,t7,t8⟩:=iB t;obtain⟨q0,q1,q2,q3,q4,q5,q6,q7,q8⟩:=iB DE.out.ob;obtain⟨w0,w1,w2,w3,w4,w5,w6,w7,w8⟩:=mP t;have PB:=af (jG (o:=⟨2,[],gW,(0,0),[],[],0,[]⟩) (ve:=.slice vA gW.length vc) (vp:=.slice none 0 0) t);have PK:=af (iW DE.out.jM (iR wE W.heap.size ⟨2,[],gW,(0,0),[],[],0,[]⟩ (.slice vA gW.length vc) (.slice none 0 0)) (ak _) (by have:=DE.out.lo;omega))
  have PO:=af (DE.out.OH ⟨2,[],gW,(0,0),[],[],0,[]⟩ (.slice vA gW.length vc) (.slice none 0 0));clear t;go_wp2;change bodyPost _ _ _ _ _ (kJ wE W.heap.size ⟨2,[],gW,(0,0),[],[],0,[]⟩ (.slice vA gW.length vc) (.slice none 0 0));clear q0 q1 q2 q3 q4 q5 q6 q7 q8 t0 t1 t2 t3 t4 t5 t6 t7 t8 w0 w1 w2 w3 w4 w5 w6 w7 w8;obtain⟨k0,k1,k2,k3,k4,k5,k6,k7,k8⟩:=iB PB.out;generalize kJ wE W.heap.size ⟨2,[],gW,(0,0),[],[],0,[]⟩ (.slice vA gW.length vc) (.slice none 0 0)=wx at *;exact bodyPost_ret (v:=.tuple #[.agg (je ⟨2,[],gW,(0,0),[],[],0,[]⟩ (.slice vA gW.length vc) (.slice none 0 0)),.int .i64 0]) (by unfold je;simp[results,results36,go_sem,k0,k1,k2,k3,k4,k5,k6,k7,k8]) rfl ⟨_,_,_,_,_,_,rfl,PO.out,PK.out⟩
 ·obtain⟨g1,g2,g3,g4,g5,g6,g7,g8⟩:=hco;simp only at hkd jd iQ g2 g5 g6 g7 g8;subst hkd jd iQ;obtain⟨tn,rfl⟩:∃tn:Nat,time=(tn:Int):=⟨time.toNat,by omega⟩;have hE:jS ⟨3,[],[],tree,gU,gM,(tn:Int),msg⟩=gJ 3++(jb tree++(gJ gU.length++(gU.flatMap jb++(jL gM++(gJ tn++jL msg))))):=by
   simp[jS,aA]
  have M5:Hid (gU.length≤8):=g2;have HTN:Hid (tn≤1099511627776):=by show _≤_;omega
  have Rl:Hid (gM.length≤65536):=by have:=wu g5;show _≤_;omega
  have Vk:Hid (msg.length≤65536):=by show _≤_;omega
  have hln:=hl;rw[hE]at hln;simp only[aj]at hln;have HFL:Hid ((gU.flatMap jb).length+(jL gM++(gJ tn++(jL msg++[]))).length≤900000):=by show _≤_;simp only[aj,aM];omega
  have HTL:Hid ((gJ tn++(jL msg++[])).length≤1000000):=by show _≤_;simp only[aj,aM];omega
  clear g1 g2 g3 g4 g5 g6 g7 g8 hl hln;rw[hE];have HB0:Hid (gV ((W.alloc (.cells (je jO (.slice none 0 0) (.slice none 0 0)) 44)).alloc (.cells #[.string (fu (gJ 3++(jb tree++(gJ gU.length++(gU.flatMap jb++(jL gM++(gJ tn++jL msg))))))),.bool false] 164)) (W.heap.size+1) 164 #[.string (fu (gJ 3++(jb tree++(gJ gU.length++(gU.flatMap jb++(jL gM++(gJ tn++jL msg))))))),.bool false]):=by
   have h:=gV.new (W.alloc (.cells (je jO (.slice none 0 0) (.slice none 0 0)) 44)) #[.string (fu (gJ 3++(jb tree++(gJ gU.length++(gU.flatMap jb++(jL gM++(gJ tn++jL msg))))))),.bool false] 164;rw[aJ]at h;exact h
  have yT:=af ((gV.new W (je jO (.slice none 0 0) (.slice none 0 0)) 44).alloc (.cells #[.string (fu (gJ 3++(jb tree++(gJ gU.length++(gU.flatMap jb++(jL gM++(gJ tn++jL msg))))))),.bool false] 164));have o8:=af (((ah W.heap.size W).alloc (ak _) (.cells (je jO (.slice none 0 0) (.slice none 0 0)) 44)).alloc gu (.cells #[.string (fu (gJ 3++(jb tree++(gJ gU.length++(gU.flatMap jb++(jL gM++(gJ tn++jL msg))))))),.bool false] 164));have hws:((W.alloc (.cells (je jO (.slice none 0 0) (.slice none 0 0)) 44)).alloc (.cells #[.string (fu (gJ 3++(jb tree++(gJ gU.length++(gU.flatMap jb++(jL gM++(gJ tn++jL msg))))))),.bool false] 164)).heap.size=W.heap.size+2:=by simp
  go_enter func36,ntmps36;go_upto_region 2 with (fail);change Code.wp _ _ _ _ ((W.alloc (.cells (je jO (.slice none 0 0) (.slice none 0 0)) 44)).alloc (.cells #[.string (fu (gJ 3++(jb tree++(gJ gU.length++(gU.flatMap jb++(jL gM++(gJ tn++jL msg))))))),.bool false] 164));generalize (W.alloc (.cells (je jO (.slice none 0 0) (.slice none 0 0)) 44)).alloc (.cells #[.string (fu (gJ 3++(jb tree++(gJ gU.length++(gU.flatMap jb++(jL gM++(gJ tn++jL msg))))))),.bool false] 164)=wa at *
  have hws:=af hws;go_wp2_with fail;refine(pX wa (W.heap.size+1) 3 (jb tree++(gJ gU.length++(gU.flatMap jb++(jL gM++(gJ tn++jL msg))))) fZ HB0.out).mono ?_;rintro e wb ⟨rfl,hB,hG⟩;have D0:Hid (DC W.heap.size wb.heap.size (jb tree++(gJ gU.length++(gU.flatMap jb++(jL gM++(gJ tn++jL msg))))) ⟨3,[],[],(0,0),[],[],0,[]⟩ (.slice none 0 0) (.slice none 0 0) W (wb.alloc (.cells (je ⟨3,[],[],(0,0),[],[],0,[]⟩ (.slice none 0 0) (.slice none 0 0)) 44))):=by
   have hr:=yT.out.grown hG (by intro e;injection e with e;omega);have hsz:=hG.size;have Y0:=hws.out;exact⟨hr.alloc _,hB.alloc _,gV.new wb _ _,World.ownsRow_nil _ _ _ _,World.ownsRow_nil _ _ _ _,(o8.out.grown hG o8.out.size (fun q e=>by cases e;omega)).alloc fZ _,by omega,by simp⟩
  clear hB hG HB0 yT o8 hws;go_upto_region 3 with (fail);generalize Ju:wb.heap.size=ob at *;change Code.wp _ _ _ _ (wb.alloc (.cells (je ⟨3,[],[],(0,0),[],[],0,[]⟩ (.slice none 0 0) (.slice none 0 0)) 44));generalize wb.alloc (.cells (je ⟨3,[],[],(0,0),[],[],0,[]⟩ (.slice none 0 0) (.slice none 0 0)) 44)=wc at *;clear Ju;have b1:((3:Int)==1)=false:=rfl;have b2:((3:Int)==2)=false:=rfl;have b3:((3:Int)==3)=true:=rfl;have b4:((3:Int)==4)=false:=rfl;clear hE;obtain⟨q0,q1,q2,q3,q4,q5,q6,q7,q8⟩:=iB D0.out.ob;have r0:=D0.out.rd.cl 0
  have r1:=D0.out.rd.cl 1;obtain⟨f0,f1,f2,f3,f4,f5,f6,f7,f8⟩:=mP D0.out.ob;go_wp2_with fail;refine(PY _ _ tree (gJ gU.length++(gU.flatMap jb++(jL gM++(gJ tn++(jL msg++[]))))) (by have h:=D0.out.rd;rw[aU];exact h)).mono ?_;rintro e u1 ⟨rfl,hB,hG⟩;have E:=D0.out.reader hB hG;clear q0 q1 q2 q3 q4 q5 q6 q7 q8 r0 r1 f0 f1 f2 f3 f4 f5 f6 f7 f8;obtain⟨q0,q1,q2,q3,q4,q5,q6,q7,q8⟩:=iB E.ob;have r0:=E.rd.cl 0;have r1:=E.rd.cl 1;obtain⟨f0,f1,f2,f3,f4,f5,f6,f7,f8⟩:=mP E.ob;have D1:=af ((E.put 3 (.int .u64 (tree.1.toNat:Int)) (o':=⟨3,[],[],(tree.1,0),[],[],0,[]⟩) rfl rfl rfl).put 4 (.int .u64 (tree.2.toNat:Int)) (o':=⟨3,[],[],tree,[],[],0,[]⟩) rfl rfl rfl)
  clear hB hG E D0;go_upto_region 11 with (fail);clear q0 q1 q2 q3 q4 q5 q6 q7 q8 r0 r1 f0 f1 f2 f3 f4 f5 f6 f7 f8;generalize ((u1).setCell ⟨ob,3,none⟩ (.int .u64 (tree.1.toNat:Int))).setCell ⟨ob,4,none⟩ (.int .u64 (tree.2.toNat:Int))=v1 at *;obtain⟨q0,q1,q2,q3,q4,q5,q6,q7,q8⟩:=iB D1.out.ob;have r0:=D1.out.rd.cl 0;have r1:=D1.out.rd.cl 1;obtain⟨f0,f1,f2,f3,f4,f5,f6,f7,f8⟩:=mP D1.out.ob;go_wp2_with fail;refine(M0 _ _ 8 gU (jL gM++(gJ tn++(jL msg++[]))) M5.out fZ HFL.out D1.out.rd).mono ?_;rintro e u2 ⟨vA,vc,⟨rfl,hB,hG⟩,hR⟩;have hsz0:=D1.out.lo.2
  have E:=D1.out.reader hB hG;clear q0 q1 q2 q3 q4 q5 q6 q7 q8 r0 r1 f0 f1 f2 f3 f4 f5 f6 f7 f8;obtain⟨q0,q1,q2,q3,q4,q5,q6,q7,q8⟩:=iB E.ob;have r0:=E.rd.cl 0;have r1:=E.rd.cl 1;obtain⟨f0,f1,f2,f3,f4,f5,f6,f7,f8⟩:=mP E.ob;have D2:=af (E.set 5 (.slice vA gU.length vc) (o':=⟨3,[],[],tree,gU,[],0,[]⟩) (FY:=.slice none 0 0) (Dy:=.slice vA gU.length vc) rfl E.en (o9 hR hsz0));clear hR hsz0;clear hB hG E D1;go_upto_region 12 with (fail);clear q0 q1 q2 q3 q4 q5 q6 q7 q8 r0 r1 f0 f1 f2 f3 f4 f5 f6 f7 f8;generalize (u2).setCell ⟨ob,5,none⟩ (.slice vA gU.length vc)=v2 at *
  obtain⟨q0,q1,q2,q3,q4,q5,q6,q7,q8⟩:=iB D2.out.ob;have r0:=D2.out.rd.cl 0;have r1:=D2.out.rd.cl 1;obtain⟨f0,f1,f2,f3,f4,f5,f6,f7,f8⟩:=mP D2.out.ob;go_wp2_with fail;refine(uW _ _ gM (gJ tn++(jL msg++[])) Rl.out HTL.out D2.out.rd).mono ?_;rintro e u3 ⟨rfl,hB,hG⟩;have E:=D2.out.reader hB hG;clear q0 q1 q2 q3 q4 q5 q6 q7 q8 r0 r1 f0 f1 f2 f3 f4 f5 f6 f7 f8;obtain⟨q0,q1,q2,q3,q4,q5,q6,q7,q8⟩:=iB E.ob;have r0:=E.rd.cl 0;have r1:=E.rd.cl 1;obtain⟨f0,f1,f2,f3,f4,f5,f6,f7,f8⟩:=mP E.ob;have D3:=af (E.put 6 (.string (fu gM)) (o':=⟨3,[],[],tree,gU,gM,0,[]⟩) rfl rfl rfl)
  clear hB hG E D2;go_upto_region 13 with (fail);clear q0 q1 q2 q3 q4 q5 q6 q7 q8 r0 r1 f0 f1 f2 f3 f4 f5 f6 f7 f8;generalize (u3).setCell ⟨ob,6,none⟩ (.string (fu gM))=v3 at *;obtain⟨q0,q1,q2,q3,q4,q5,q6,q7,q8⟩:=iB D3.out.ob;have r0:=D3.out.rd.cl 0;have r1:=D3.out.rd.cl 1;obtain⟨f0,f1,f2,f3,f4,f5,f6,f7,f8⟩:=mP D3.out.ob;go_wp2_with fail;refine(pX _ _ tn (jL msg++[]) HTN.out D3.out.rd).mono ?_;rintro e u4 ⟨rfl,hB,hG⟩;have E:=D3.out.reader hB hG;clear q0 q1 q2 q3 q4 q5 q6 q7 q8 r0 r1 f0 f1 f2 f3 f4 f5 f6 f7 f8;obtain⟨q0,q1,q2,q3,q4,q5,q6,q7,q8⟩:=iB E.ob;have r0:=E.rd.cl 0
  have r1:=E.rd.cl 1;obtain⟨f0,f1,f2,f3,f4,f5,f6,f7,f8⟩:=mP E.ob;have D4:=af (E.put 7 (.int .i64 (tn:Int)) (o':=⟨3,[],[],tree,gU,gM,(tn:Int),[]⟩) rfl rfl rfl);clear hB hG E D3;go_upto_region 14 with (fail);clear q0 q1 q2 q3 q4 q5 q6 q7 q8 r0 r1 f0 f1 f2 f3 f4 f5 f6 f7 f8;generalize (u4).setCell ⟨ob,7,none⟩ (.int .i64 (tn:Int))=v4 at *;obtain⟨q0,q1,q2,q3,q4,q5,q6,q7,q8⟩:=iB D4.out.ob;have r0:=D4.out.rd.cl 0;have r1:=D4.out.rd.cl 1;obtain⟨f0,f1,f2,f3,f4,f5,f6,f7,f8⟩:=mP D4.out.ob;go_wp2_with fail;refine(uW _ _ msg [] Vk.out gu D4.out.rd).mono ?_;rintro e u5 ⟨rfl,hB,hG⟩
  have E:=D4.out.reader hB hG;clear q0 q1 q2 q3 q4 q5 q6 q7 q8 r0 r1 f0 f1 f2 f3 f4 f5 f6 f7 f8;obtain⟨q0,q1,q2,q3,q4,q5,q6,q7,q8⟩:=iB E.ob;have r0:=E.rd.cl 0;have r1:=E.rd.cl 1;obtain⟨f0,f1,f2,f3,f4,f5,f6,f7,f8⟩:=mP E.ob;have D5:=af (E.put 8 (.string (fu msg)) (o':=⟨3,[],[],tree,gU,gM,(tn:Int),msg⟩) rfl rfl rfl);clear hB hG E D4;go_upto_region 15 with (fail);clear q0 q1 q2 q3 q4 q5 q6 q7 q8 r0 r1 f0 f1 f2 f3 f4 f5 f6 f7 f8;generalize (u5).setCell ⟨ob,8,none⟩ (.string (fu msg))=v5 at *;obtain⟨q0,q1,q2,q3,q4,q5,q6,q7,q8⟩:=iB D5.out.ob;have r0:=D5.out.rd.cl 0;have r1:=D5.out.rd.cl 1
  obtain⟨f0,f1,f2,f3,f4,f5,f6,f7,f8⟩:=mP D5.out.ob;clear f0 f1 f2 f3 f4 f5 f6 f7 f8;have CK:=qJ _ ⟨3,[],[],tree,gU,gM,(tn:Int),msg⟩ _ _ D5.out.at Vj.out HLN.out;have M4:=af CK;clear CK;unfold je at M4;have e0:(fu ([]:List UInt8)).toList.isEmpty=true:=by rw[gQ];rfl
  have e1:((fu ([]:List UInt8)).toList==[])=true:=by rw[gQ];rfl
  go_wp2_with fail;refine M4.out.mono ?_;rintro e wE ⟨rfl,xV⟩;have DE:=af (D5.out.below xV);clear q0 q1 q2 q3 q4 q5 q6 q7 q8 r0 r1;clear xV M4 D5;have t:=DE.out.res;obtain⟨t0,t1,t2,t3,t4,t5,t6,t7,t8⟩:=iB t;obtain⟨q0,q1,q2,q3,q4,q5,q6,q7,q8⟩:=iB DE.out.ob;obtain⟨w0,w1,w2,w3,w4,w5,w6,w7,w8⟩:=mP t;have PB:=af (jG (o:=⟨3,[],[],tree,gU,gM,(tn:Int),msg⟩) (ve:=.slice none 0 0) (vp:=.slice vA gU.length vc) t);have PK:=af (iW DE.out.jM (iR wE W.heap.size ⟨3,[],[],tree,gU,gM,(tn:Int),msg⟩ (.slice none 0 0) (.slice vA gU.length vc)) (ak _) (by have:=DE.out.lo;omega))
  have PO:=af (DE.out.OH ⟨3,[],[],tree,gU,gM,(tn:Int),msg⟩ (.slice none 0 0) (.slice vA gU.length vc));clear t;go_wp2;change bodyPost _ _ _ _ _ (kJ wE W.heap.size ⟨3,[],[],tree,gU,gM,(tn:Int),msg⟩ (.slice none 0 0) (.slice vA gU.length vc));clear q0 q1 q2 q3 q4 q5 q6 q7 q8 t0 t1 t2 t3 t4 t5 t6 t7 t8 w0 w1 w2 w3 w4 w5 w6 w7 w8;obtain⟨k0,k1,k2,k3,k4,k5,k6,k7,k8⟩:=iB PB.out;generalize kJ wE W.heap.size ⟨3,[],[],tree,gU,gM,(tn:Int),msg⟩ (.slice none 0 0) (.slice vA gU.length vc)=wx at *;exact bodyPost_ret (v:=.tuple #[.agg (je ⟨3,[],[],tree,gU,gM,(tn:Int),msg⟩ (.slice none 0 0) (.slice vA gU.length vc)),.int .i64 0]) (by unfold je;simp[results,results36,go_sem,k0,k1,k2,k3,k4,k5,k6,k7,k8]) rfl ⟨_,_,_,_,_,_,rfl,PO.out,PK.out⟩
 ·obtain⟨iQ,⟨n1,n2,n3,n4,n5⟩,hdl⟩:=h3;simp only at hkd iQ n1 n2 n3 n4 n5 hdl;subst hkd iQ n1 n2 n3 n4 n5;have hE:jS ⟨1,data,[],(0,0),[],[],0,[]⟩=gJ 1++(gJ data.length++data):=by
   simp[jS,jL,aA]
  have Jv:=af hdl;clear hdl hl;rw[hE];have HB0:Hid (gV ((W.alloc (.cells (je jO (.slice none 0 0) (.slice none 0 0)) 44)).alloc (.cells #[.string (fu (gJ 1++(gJ data.length++data))),.bool false] 164)) (W.heap.size+1) 164 #[.string (fu (gJ 1++(gJ data.length++data))),.bool false]):=by
   have h:=gV.new (W.alloc (.cells (je jO (.slice none 0 0) (.slice none 0 0)) 44)) #[.string (fu (gJ 1++(gJ data.length++data))),.bool false] 164;rw[aJ]at h;exact h
  have yT:=af ((gV.new W (je jO (.slice none 0 0) (.slice none 0 0)) 44).alloc (.cells #[.string (fu (gJ 1++(gJ data.length++data))),.bool false] 164));have o8:=af (((ah W.heap.size W).alloc (ak _) (.cells (je jO (.slice none 0 0) (.slice none 0 0)) 44)).alloc gu (.cells #[.string (fu (gJ 1++(gJ data.length++data))),.bool false] 164));have hws:((W.alloc (.cells (je jO (.slice none 0 0) (.slice none 0 0)) 44)).alloc (.cells #[.string (fu (gJ 1++(gJ data.length++data))),.bool false] 164)).heap.size=W.heap.size+2:=by simp
  go_enter func36,ntmps36;go_upto_region 2 with (fail);change Code.wp _ _ _ _ ((W.alloc (.cells (je jO (.slice none 0 0) (.slice none 0 0)) 44)).alloc (.cells #[.string (fu (gJ 1++(gJ data.length++data))),.bool false] 164));generalize (W.alloc (.cells (je jO (.slice none 0 0) (.slice none 0 0)) 44)).alloc (.cells #[.string (fu (gJ 1++(gJ data.length++data))),.bool false] 164)=wa at *;have hws:=af hws;go_wp2_with fail;refine(pX wa (W.heap.size+1) 1 (gJ data.length++data) fZ HB0.out).mono ?_
  rintro e wb ⟨rfl,hB,hG⟩;have D0:Hid (DC W.heap.size wb.heap.size (gJ data.length++data) ⟨1,[],[],(0,0),[],[],0,[]⟩ (.slice none 0 0) (.slice none 0 0) W (wb.alloc (.cells (je ⟨1,[],[],(0,0),[],[],0,[]⟩ (.slice none 0 0) (.slice none 0 0)) 44))):=by
   have hr:=yT.out.grown hG (by intro e;injection e with e;omega);have hsz:=hG.size;have Y0:=hws.out;exact⟨hr.alloc _,hB.alloc _,gV.new wb _ _,World.ownsRow_nil _ _ _ _,World.ownsRow_nil _ _ _ _,(o8.out.grown hG o8.out.size (fun q e=>by cases e;omega)).alloc fZ _,by omega,by simp⟩
  clear hB hG HB0 yT o8 hws;go_upto_region 3 with (fail);generalize Ju:wb.heap.size=ob at *;change Code.wp _ _ _ _ (wb.alloc (.cells (je ⟨1,[],[],(0,0),[],[],0,[]⟩ (.slice none 0 0) (.slice none 0 0)) 44));generalize wb.alloc (.cells (je ⟨1,[],[],(0,0),[],[],0,[]⟩ (.slice none 0 0) (.slice none 0 0)) 44)=wc at *;clear Ju;have b1:((1:Int)==1)=true:=rfl;have b2:((1:Int)==2)=false:=rfl;have b3:((1:Int)==3)=false:=rfl;have b4:((1:Int)==4)=false:=rfl;clear hE;obtain⟨q0,q1,q2,q3,q4,q5,q6,q7,q8⟩:=iB D0.out.ob;have r0:=D0.out.rd.cl 0
  have r1:=D0.out.rd.cl 1;obtain⟨f0,f1,f2,f3,f4,f5,f6,f7,f8⟩:=mP D0.out.ob;go_wp2_with fail;refine(uW _ _ data [] Jv.out gu (by have h:=D0.out.rd;rw[aU];exact h)).mono ?_;rintro e u1 ⟨rfl,hB,hG⟩;have E:=D0.out.reader hB hG;clear q0 q1 q2 q3 q4 q5 q6 q7 q8 r0 r1 f0 f1 f2 f3 f4 f5 f6 f7 f8;obtain⟨q0,q1,q2,q3,q4,q5,q6,q7,q8⟩:=iB E.ob;have r0:=E.rd.cl 0;have r1:=E.rd.cl 1;obtain⟨f0,f1,f2,f3,f4,f5,f6,f7,f8⟩:=mP E.ob;have D1:=af (E.put 1 (.string (fu data)) (o':=⟨1,data,[],(0,0),[],[],0,[]⟩) rfl rfl rfl);clear hB hG E D0;go_upto_region 15 with (fail);clear q0 q1 q2 q3 q4 q5 q6 q7 q8 r0 r1 f0 f1 f2 f3 f4 f5 f6 f7 f8
  generalize (u1).setCell ⟨ob,1,none⟩ (.string (fu data))=v1 at *;obtain⟨q0,q1,q2,q3,q4,q5,q6,q7,q8⟩:=iB D1.out.ob;have r0:=D1.out.rd.cl 0;have r1:=D1.out.rd.cl 1;obtain⟨f0,f1,f2,f3,f4,f5,f6,f7,f8⟩:=mP D1.out.ob;clear f0 f1 f2 f3 f4 f5 f6 f7 f8;have CK:=qJ _ ⟨1,data,[],(0,0),[],[],0,[]⟩ _ _ D1.out.at Vj.out HLN.out;have M4:=af CK;clear CK;unfold je at M4;have e0:(fu ([]:List UInt8)).toList.isEmpty=true:=by rw[gQ];rfl
  have e1:((fu ([]:List UInt8)).toList==[])=true:=by rw[gQ];rfl
  go_wp2_with fail;refine M4.out.mono ?_;rintro e wE ⟨rfl,xV⟩;have DE:=af (D1.out.below xV);clear q0 q1 q2 q3 q4 q5 q6 q7 q8 r0 r1;clear xV M4 D1;have t:=DE.out.res;obtain⟨t0,t1,t2,t3,t4,t5,t6,t7,t8⟩:=iB t;obtain⟨q0,q1,q2,q3,q4,q5,q6,q7,q8⟩:=iB DE.out.ob;obtain⟨w0,w1,w2,w3,w4,w5,w6,w7,w8⟩:=mP t;have PB:=af (jG (o:=⟨1,data,[],(0,0),[],[],0,[]⟩) (ve:=.slice none 0 0) (vp:=.slice none 0 0) t);have PK:=af (iW DE.out.jM (iR wE W.heap.size ⟨1,data,[],(0,0),[],[],0,[]⟩ (.slice none 0 0) (.slice none 0 0)) (ak _) (by have:=DE.out.lo;omega));have PO:=af (DE.out.OH ⟨1,data,[],(0,0),[],[],0,[]⟩ (.slice none 0 0) (.slice none 0 0))
  clear t;go_wp2;change bodyPost _ _ _ _ _ (kJ wE W.heap.size ⟨1,data,[],(0,0),[],[],0,[]⟩ (.slice none 0 0) (.slice none 0 0));clear q0 q1 q2 q3 q4 q5 q6 q7 q8 t0 t1 t2 t3 t4 t5 t6 t7 t8 w0 w1 w2 w3 w4 w5 w6 w7 w8;obtain⟨k0,k1,k2,k3,k4,k5,k6,k7,k8⟩:=iB PB.out;generalize kJ wE W.heap.size ⟨1,data,[],(0,0),[],[],0,[]⟩ (.slice none 0 0) (.slice none 0 0)=wx at *;exact bodyPost_ret (v:=.tuple #[.agg (je ⟨1,data,[],(0,0),[],[],0,[]⟩ (.slice none 0 0) (.slice none 0 0)),.int .i64 0]) (by unfold je;simp[results,results36,go_sem,k0,k1,k2,k3,k4,k5,k6,k7,k8]) rfl ⟨_,_,_,_,_,_,rfl,PO.out,PK.out⟩
 ·obtain⟨iQ,⟨n1,n2,n3,n4,n5⟩,hdl⟩:=h3;simp only at hkd iQ n1 n2 n3 n4 n5 hdl;subst hkd iQ n1 n2 n3 n4 n5;have hE:jS ⟨4,data,[],(0,0),[],[],0,[]⟩=gJ 4++(gJ data.length++data):=by
   simp[jS,jL,aA]
  have Jv:=af hdl;clear hdl hl;rw[hE];have HB0:Hid (gV ((W.alloc (.cells (je jO (.slice none 0 0) (.slice none 0 0)) 44)).alloc (.cells #[.string (fu (gJ 4++(gJ data.length++data))),.bool false] 164)) (W.heap.size+1) 164 #[.string (fu (gJ 4++(gJ data.length++data))),.bool false]):=by
   have h:=gV.new (W.alloc (.cells (je jO (.slice none 0 0) (.slice none 0 0)) 44)) #[.string (fu (gJ 4++(gJ data.length++data))),.bool false] 164;rw[aJ]at h;exact h
  have yT:=af ((gV.new W (je jO (.slice none 0 0) (.slice none 0 0)) 44).alloc (.cells #[.string (fu (gJ 4++(gJ data.length++data))),.bool false] 164));have o8:=af (((ah W.heap.size W).alloc (ak _) (.cells (je jO (.slice none 0 0) (.slice none 0 0)) 44)).alloc gu (.cells #[.string (fu (gJ 4++(gJ data.length++data))),.bool false] 164));have hws:((W.alloc (.cells (je jO (.slice none 0 0) (.slice none 0 0)) 44)).alloc (.cells #[.string (fu (gJ 4++(gJ data.length++data))),.bool false] 164)).heap.size=W.heap.size+2:=by simp
  go_enter func36,ntmps36;go_upto_region 2 with (fail);change Code.wp _ _ _ _ ((W.alloc (.cells (je jO (.slice none 0 0) (.slice none 0 0)) 44)).alloc (.cells #[.string (fu (gJ 4++(gJ data.length++data))),.bool false] 164));generalize (W.alloc (.cells (je jO (.slice none 0 0) (.slice none 0 0)) 44)).alloc (.cells #[.string (fu (gJ 4++(gJ data.length++data))),.bool false] 164)=wa at *;have hws:=af hws;go_wp2_with fail;refine(pX wa (W.heap.size+1) 4 (gJ data.length++data) fZ HB0.out).mono ?_
  rintro e wb ⟨rfl,hB,hG⟩;have D0:Hid (DC W.heap.size wb.heap.size (gJ data.length++data) ⟨4,[],[],(0,0),[],[],0,[]⟩ (.slice none 0 0) (.slice none 0 0) W (wb.alloc (.cells (je ⟨4,[],[],(0,0),[],[],0,[]⟩ (.slice none 0 0) (.slice none 0 0)) 44))):=by
   have hr:=yT.out.grown hG (by intro e;injection e with e;omega);have hsz:=hG.size;have Y0:=hws.out;exact⟨hr.alloc _,hB.alloc _,gV.new wb _ _,World.ownsRow_nil _ _ _ _,World.ownsRow_nil _ _ _ _,(o8.out.grown hG o8.out.size (fun q e=>by cases e;omega)).alloc fZ _,by omega,by simp⟩
  clear hB hG HB0 yT o8 hws;go_upto_region 3 with (fail);generalize Ju:wb.heap.size=ob at *;change Code.wp _ _ _ _ (wb.alloc (.cells (je ⟨4,[],[],(0,0),[],[],0,[]⟩ (.slice none 0 0) (.slice none 0 0)) 44));generalize wb.alloc (.cells (je ⟨4,[],[],(0,0),[],[],0,[]⟩ (.slice none 0 0) (.slice none 0 0)) 44)=wc at *;clear Ju;have b1:((4:Int)==1)=false:=rfl;have b2:((4:Int)==2)=false:=rfl;have b3:((4:Int)==3)=false:=rfl;have b4:((4:Int)==4)=true:=rfl;clear hE;obtain⟨q0,q1,q2,q3,q4,q5,q6,q7,q8⟩:=iB D0.out.ob;have r0:=D0.out.rd.cl 0
  have r1:=D0.out.rd.cl 1;obtain⟨f0,f1,f2,f3,f4,f5,f6,f7,f8⟩:=mP D0.out.ob;go_wp2_with fail;refine(uW _ _ data [] Jv.out gu (by have h:=D0.out.rd;rw[aU];exact h)).mono ?_;rintro e u1 ⟨rfl,hB,hG⟩;have E:=D0.out.reader hB hG;clear q0 q1 q2 q3 q4 q5 q6 q7 q8 r0 r1 f0 f1 f2 f3 f4 f5 f6 f7 f8;obtain⟨q0,q1,q2,q3,q4,q5,q6,q7,q8⟩:=iB E.ob;have r0:=E.rd.cl 0;have r1:=E.rd.cl 1;obtain⟨f0,f1,f2,f3,f4,f5,f6,f7,f8⟩:=mP E.ob;have D1:=af (E.put 1 (.string (fu data)) (o':=⟨4,data,[],(0,0),[],[],0,[]⟩) rfl rfl rfl);clear hB hG E D0;go_upto_region 15 with (fail);clear q0 q1 q2 q3 q4 q5 q6 q7 q8 r0 r1 f0 f1 f2 f3 f4 f5 f6 f7 f8
  generalize (u1).setCell ⟨ob,1,none⟩ (.string (fu data))=v1 at *;obtain⟨q0,q1,q2,q3,q4,q5,q6,q7,q8⟩:=iB D1.out.ob;have r0:=D1.out.rd.cl 0;have r1:=D1.out.rd.cl 1;obtain⟨f0,f1,f2,f3,f4,f5,f6,f7,f8⟩:=mP D1.out.ob;clear f0 f1 f2 f3 f4 f5 f6 f7 f8;have CK:=qJ _ ⟨4,data,[],(0,0),[],[],0,[]⟩ _ _ D1.out.at Vj.out HLN.out;have M4:=af CK;clear CK;unfold je at M4;have e0:(fu ([]:List UInt8)).toList.isEmpty=true:=by rw[gQ];rfl
  have e1:((fu ([]:List UInt8)).toList==[])=true:=by rw[gQ];rfl
  go_wp2_with fail;refine M4.out.mono ?_;rintro e wE ⟨rfl,xV⟩;have DE:=af (D1.out.below xV);clear q0 q1 q2 q3 q4 q5 q6 q7 q8 r0 r1;clear xV M4 D1;have t:=DE.out.res;obtain⟨t0,t1,t2,t3,t4,t5,t6,t7,t8⟩:=iB t;obtain⟨q0,q1,q2,q3,q4,q5,q6,q7,q8⟩:=iB DE.out.ob;obtain⟨w0,w1,w2,w3,w4,w5,w6,w7,w8⟩:=mP t;have PB:=af (jG (o:=⟨4,data,[],(0,0),[],[],0,[]⟩) (ve:=.slice none 0 0) (vp:=.slice none 0 0) t);have PK:=af (iW DE.out.jM (iR wE W.heap.size ⟨4,data,[],(0,0),[],[],0,[]⟩ (.slice none 0 0) (.slice none 0 0)) (ak _) (by have:=DE.out.lo;omega));have PO:=af (DE.out.OH ⟨4,data,[],(0,0),[],[],0,[]⟩ (.slice none 0 0) (.slice none 0 0))
  clear t;go_wp2;change bodyPost _ _ _ _ _ (kJ wE W.heap.size ⟨4,data,[],(0,0),[],[],0,[]⟩ (.slice none 0 0) (.slice none 0 0));clear q0 q1 q2 q3 q4 q5 q6 q7 q8 t0 t1 t2 t3 t4 t5 t6 t7 t8 w0 w1 w2 w3 w4 w5 w6 w7 w8;obtain⟨k0,k1,k2,k3,k4,k5,k6,k7,k8⟩:=iB PB.out;generalize kJ wE W.heap.size ⟨4,data,[],(0,0),[],[],0,[]⟩ (.slice none 0 0) (.slice none 0 0)=wx at *;exact bodyPost_ret (v:=.tuple #[.agg (je ⟨4,data,[],(0,0),[],[],0,[]⟩ (.slice none 0 0) (.slice none 0 0)),.int .i64 0]) (by unfold je;simp[results,results36,go_sem,k0,k1,k2,k3,k4,k5,k6,k7,k8]) rfl ⟨_,_,_,_,_,_,rfl,PO.out,PK.out⟩
end Go.Proofs.YtichfhpgdhdiaaaGreat
namespace Go.Proofs.YtichfhpgdhdiaaaGreat
open Go.RowKit
def FM(c:lZ):List Value:=[.bool c.has,.int .u64 (c.base.1.toNat:Int),.int .u64 (c.base.2.toNat:Int),.string (fu c.delta),.int .i64 c.size]
theorem wR(x:lZ):(FM x).length=5:=rfl
def Rs(w:World)(v:Value)(l:List lZ):Prop:=Sl w 5 (fun us x=>us=FM x) v l
theorem Rs.keep{w w':World}{v:Value}{l:List lZ}(h:Rs w v l)(k:Keeps w w'):Rs w' v l:=Sl.keep h k fun _ _ h=>h
theorem Rs.form{w:World}{v:Value}{l:List lZ}(h:Rs w v l):∃A c,v=.slice A l.length c∧l.length≤c∧c≤9223372036854775807:=Sl.form h
theorem Rs.nil(w:World):Rs w (.slice none 0 0) []:=Sl.nil _ _ _
theorem Rs.get{w:World}{l:List lZ}{A:Option Addr}{c n:Nat}(h:Rs w (.slice A n c) l){i:Nat}{x:lZ}(hi:l[i]?=some x):
  ∃b off,A=some ⟨b,off,none⟩∧w.cell? ⟨b,off+i*5,none⟩=some (.bool x.has)∧w.cell? ⟨b,off+i*5+1,none⟩=some (.int .u64 (x.base.1.toNat:Int))∧w.cell? ⟨b,off+i*5+2,none⟩=some (.int .u64 (x.base.2.toNat:Int))∧w.cell? ⟨b,off+i*5+3,none⟩=some (.string (fu x.delta))∧w.cell? ⟨b,off+i*5+4,none⟩=some (.int .i64 x.size):=by
 obtain⟨b,off,us,e,rfl,_,hc⟩:=Sl.get h hi fZ ;exact⟨b,off,e,hc 0 _ rfl,hc 1 _ rfl,hc 2 _ rfl,hc 3 _ rfl,hc 4 _ rfl⟩
theorem GU:∀(xs:List lZ),jF 5 (fun us x=>us=FM x) xs (xs.flatMap FM)
 |[]=>rfl
 |x::xs=>⟨FM x,xs.flatMap FM,by rw[aG],rfl,rfl,GU xs⟩
def JA(p:List It):Dg→Option Value:=fun d=>if mD p d then some (.string (fu (iC p d)))else none
theorem uF(p:List It)(d:Dg):(JA p d).getD (.string ByteArray.empty)=.string (fu (iC p d)):=by
 unfold JA;cases h:mD p d with
 |true=>rfl
 |false=>rw[GV h];rfl
def lq(p:List It)(l:List Dg)(cs:List lZ)(k:Nat):List UInt8:=gJ l.length++((l.zip cs).take k).flatMap fun x=>xP p x.1 x.2
theorem GL(p:List It)(l:List Dg)(cs:List lZ):lq p l cs 0=gJ l.length:=by simp[lq]
theorem GN{p:List It}{l:List Dg}{cs:List lZ}{k:Nat}{d:Dg}{c:lZ}(h:l[k]?=some d)(h2:cs[k]?=some c):lq p l cs (k+1)=lq p l cs k++xP p d c:=by
 have hz:(l.zip cs)[k]?=some (d,c):=by
  rw[List.getElem?_zip_eq_some];exact⟨h,h2⟩
 unfold lq;rw[aA,←nX (F:=fun x:Dg×lZ=>xP p x.1 x.2) hz]
theorem EM{p:List It}{l:List Dg}{cs:List lZ}(h:cs.length=l.length):lq p l cs l.length=uS p l cs:=by
 unfold lq uS;rw[aF (by rw[List.length_zip];omega)]
theorem EL{p:List It}{l base:List Dg}{cs:List lZ}(hp:zR p)(hn:l.length≤1000)(hz:∀i d c,l[i]?=some d→cs[i]?=some c→vP p l base d i c)(k:Nat):(lq p l cs k).length≤66000000:=by
 have h3:=yL (m:=3+65536) l cs 0 (fun i d c hd hc=>by rw[bH];exact hz i d c hd hc) (fun d hd=>by
  have a:=qg hp d;have b:=zU (n:=(iC p d).length) (k:=2) fZ ;unfold wQ;omega)
 have h4:=zU (n:=l.length) (k:=1) fZ ;have h5:=uG (fun x:Dg×lZ=>xP p x.1 x.2) (l.zip cs) k;unfold lq;rw[aj];have h6:l.length*(17+(3+65536))≤1000*(17+(3+65536)):=bT _ hn;omega
theorem UE:(jc 1).1=gJ 1:=by rw[oC fZ fZ ];rfl
theorem QW:(jc 0).1=gJ 0:=by rw[oC fZ fZ ];rfl
theorem Dl{w:World}{g:Nat}{a b:Value}{t:TypeId}(h:gV w g t #[a,b]):w.cell? ⟨g,0,none⟩=some a∧w.cell? ⟨g,1,none⟩=some b:=⟨h.cl 0,h.cl 1⟩
theorem Jf(w:World)(v u:Value)(mb mn:Nat)(p:List It)(l base:List Dg)(cs:List lZ)(h:qi w v l)(g:Rs w u cs)(hm:ol w mb mn (JA p))(hlc:cs.length=l.length)(hn:l.length≤1000)(hp:zR p)(hz:∀i d c,l[i]?=some d→cs[i]?=some c→vP p l base d i c):
  Calls prog 27 #[v,u,.map (some mb)] w fun e w'=>e=.returned (.string (fu (nH p l cs)))∧Below w.heap.size w w':=by
 obtain⟨A,ca,rfl,ha1,ha2⟩:=h.form;obtain⟨A2,cb,rfl,hb1,hb2⟩:=g.form;rw[hlc]at hb1 g ⊢;have HLC:=af hlc;have HL:=af h;have HC:=af g;have HM:=af hm;have HZ:=af hz;have HT:=af (EL hp hn hz);have HD:=af (fun d=>qg hp d);have HE0:=af (EM (p:=p) hlc);have HZ0:=af (GL p l cs);have k0:=(ah w.heap.size w).alloc (ak _) (.cells #[.pointer none,.slice none 0 0] 122);have hs0:(w.alloc (.cells #[.pointer none,.slice none 0 0] 122)).heap.size=w.heap.size+1:=by simp
 have k1:=(ah (w.heap.size+1) (w.alloc (.cells #[.pointer none,.slice none 0 0] 122))).alloc fZ (.cells #[.func (.func 55) #[] #[.pointer (some ⟨w.heap.size,0,none⟩)]] 128);have hb:=(sH.new w gF).below (k1.mono fZ );have hnb:=gV.new (w.alloc (.cells #[.pointer none,.slice none 0 0] 122)) #[.func (.func 55) #[] #[.pointer (some ⟨w.heap.size,0,none⟩)]] 128;rw[hs0]at hnb;have o8:=af (k0.trans (k1.mono fZ ));have hsz:((w.alloc (.cells #[.pointer none,.slice none 0 0] 122)).alloc (.cells #[.func (.func 55) #[] #[.pointer (some ⟨w.heap.size,0,none⟩)]] 128)).heap.size=w.heap.size+2:=by simp
 clear h g hm hz k0 k1 hlc;go_enter func27,ntmps27;go_upto_region 4 with (fail);generalize (w.alloc (.cells #[.pointer none,.slice none 0 0] 122)).alloc (.cells #[.func (.func 55) #[] #[.pointer (some ⟨w.heap.size,0,none⟩)]] 128)=W0 at *;have n0:=hnb.cl 0;have C1:=af (zT W0 w.heap.size w.heap.size [] (l.length:Int) hb fZ gu );have HNB:=af hnb;clear hb hnb hs0;go_wp2_with fail;refine C1.out.mono ?_;rintro e w2 ⟨rfl,hb2⟩;rw[aO,oC fZ fZ ,aT,←HZ0.out]at hb2;have HB2:=af hb2
 clear hb2 C1 n0;go_wp2;go_loopw [21] (fun i wr=>∃k:Nat,k≤l.length∧i=.int .i64 k∧Hid (qW w.heap.size w.heap.size (lq p l cs k) W0 wr)) (fun i _=>l.length-(intOf i).toNat)
 case atStart=>exact⟨0,by omega,rfl,HB2⟩
 case round =>
  clear HB2 HZ0;obtain⟨k,hk,rfl,HB⟩:=hrel;have hsr:=HB.out.jM.size;by_cases hlt:k<l.length
  ·obtain⟨d,hx⟩:∃d,l[k]?=some d:=⟨_,au hlt⟩;obtain⟨c,hcx⟩:∃c,cs[k]?=some c:=⟨_,au (by rw[HLC.out];exact hlt)⟩;obtain⟨b1,o1,rfl,c0,c1⟩:=HL.out.get hx;obtain⟨b2,o2,rfl,e0,e1,e2,e3,e4⟩:=HC.out.get hcx;have KL:Hid (∀w',Below w.heap.size w w'→w'.cell? ⟨b1,o1+k*2,none⟩=some (.int .u64 (d.1.toNat:Int))∧w'.cell? ⟨b1,o1+k*2+1,none⟩=some (.int .u64 (d.2.toNat:Int))):=fun w' hw=>⟨dO hw _ _ _ c0,dO hw _ _ _ c1⟩
   have KC:Hid (∀w',Below w.heap.size w w'→w'.cell? ⟨b2,o2+k*5,none⟩=some (.bool c.has)∧w'.cell? ⟨b2,o2+k*5+1,none⟩=some (.int .u64 (c.base.1.toNat:Int))∧w'.cell? ⟨b2,o2+k*5+2,none⟩=some (.int .u64 (c.base.2.toNat:Int))∧w'.cell? ⟨b2,o2+k*5+3,none⟩=some (.string (fu c.delta))∧w'.cell? ⟨b2,o2+k*5+4,none⟩=some (.int .i64 c.size)):=fun w' hw=>⟨dO hw _ _ _ e0,dO hw _ _ _ e1,dO hw _ _ _ e2,dO hw _ _ _ e3,dO hw _ _ _ e4⟩
   clear c0 c1 e0 e1 e2 e3 e4;have HTX:=af (GN (p:=p) hx hcx);have hzc:=HZ.out k d c hx hcx;have hcl:c.has=true→c.delta.length≤65536:=fun e=>by have:=Uq (Nat.lt_of_le_of_lt (Nat.le_add_right _ 16) (hzc.2 e));have:=HD.out d;omega
   have Rn:=HT.out k;have hdl:=HD.out d;generalize lq p l cs k=T at *;obtain⟨q0,q1⟩:=KL.out wr (o8.out.trans (HB.out.jM.mono fZ ));have hal:=(ah wr.heap.size wr).alloc (ak _) (.cells #[.int .u64 (d.1.toNat:Int),.int .u64 (d.2.toNat:Int)] 39);have nG:=af (gV.new wr #[.int .u64 (d.1.toNat:Int),.int .u64 (d.2.toNat:Int)] 39);have HB3:=af (HB.out.below hal fZ fZ );have hgx:wr.heap.size≠w.heap.size:=by omega
   obtain⟨has,jQ,del,Rp⟩:=c;simp only at hcl KC;have Ye:Hid (xP p d ⟨has,jQ,del,Rp⟩=jb d++(if has then gJ 1++jb jQ++(gJ del.length++del)else gJ 0++(gJ (iC p d).length++iC p d))):=rfl;generalize xP p d ⟨has,jQ,del,Rp⟩=EN at *;clear hx hcx hzc HB hal;go_upto_region 8 with (fail);clear q0 q1;generalize wr.alloc (.cells #[.int .u64 (d.1.toNat:Int),.int .u64 (d.2.toNat:Int)] 39)=w3 at *;generalize wr.heap.size=gx at *;have hs3:=HB3.out.jM.size;obtain⟨q0,q1⟩:=Dl nG.out;have CB:=vO d w3;unfold lS at CB;have CB:=af CB
   go_wp2_with fail;refine CB.out.mono ?_;rintro e w4 ⟨rfl,hb4⟩;have hs4:=hb4.size;have kY:=af (HB3.out.below hb4 fZ fZ );have UF:=af (nG.out.keep hb4);have CW:=af (qV w.heap.size w.heap.size T (fu (jb d)) w4 kY.out.rQ (by rw[gL,jh];omega) fZ );clear q0 q1 CB hb4 HB3 nG;go_wp2_with fail;refine CW.out.mono ?_;rintro e w5 ⟨rfl,hb5,BK,ko5⟩;rw[iI]at hb5;have Oc:=af (ko5 gx _ UF.out (fun e=>hgx (by injection e)) fun cs fz e=>by injection e with _ e;exact absurd e gm );have pq:=af (kY.out.trans ⟨hb5,BK,ko5⟩);have hs5:=pq.out.jM.size;have HN5:=af (pq.out.wT _ _ HNB.out (fun e=>by injection e with e;omega) fun cs fz e=>by injection e with _ e;exact absurd e gm )
   have QX:=af (o8.out.trans (pq.out.jM.mono fZ ));clear hb5 BK ko5 kY UF CW;obtain⟨e0,e1,e2,e3,e4⟩:=KC.out w5 QX.out;have hT5:(T++jb d).length≤66000016:=by rw[aj,jh];omega
   have n5:=(show gV w5 _ _ _ from HN5.out).cl 0;cases has with
   |true =>
    have hcl:=hcl rfl;have aao:Hid (EN=jb d++(gJ 1++jb jQ++(gJ del.length++del))):=Ye.out;have C6:=zT w5 w.heap.size w.heap.size (T++jb d) 1 pq.out.rQ fZ fZ ;rw[UE]at C6;have C6:=af C6;have hd1:=ja 1 0 fZ ;go_wp2_with fail;refine C6.out.mono ?_;rintro e w6 ⟨rfl,hb6⟩;have sI:=af (pq.out.trans hb6);have hs6:=sI.out.jM.size;have HW6:=af (o8.out.trans (sI.out.jM.mono fZ ));clear hb6 C6 pq e0 e1 e2 e3 e4 n5 HN5 QX Oc;obtain⟨e0,e1,e2,e3,e4⟩:=KC.out w6 HW6.out;have CB:=vO jQ w6;unfold lS at CB;have CB:=af CB;go_wp2_with fail;refine CB.out.mono ?_
    rintro e w7 ⟨rfl,xY⟩;have hs7:=xY.size;have Wp:=af (sI.out.below xY fZ fZ );have hT7:(T++jb d++gJ 1).length≤66000018:=by rw[aj];omega
    have CW:=af (qV w.heap.size w.heap.size (T++jb d++gJ 1) (fu (jb jQ)) w7 Wp.out.rQ (by rw[gL,jh];omega) fZ );clear CB xY sI e0 e1 e2 e3 e4 HW6;go_wp2_with fail;refine CW.out.mono ?_;rintro e w8 ⟨rfl,Dj,hB8,ko8⟩;rw[iI]at Dj;have QY:=af (Wp.out.trans ⟨Dj,hB8,ko8⟩);have hs8:=QY.out.jM.size;have HN8:=af (QY.out.wT _ _ HNB.out (fun e=>by injection e with e;omega) fun cs fz e=>by injection e with _ e;exact absurd e gm );have HW8:=af (o8.out.trans (QY.out.jM.mono fZ ));clear Dj hB8 ko8 CW Wp;obtain⟨e0,e1,e2,e3,e4⟩:=KC.out w8 HW8.out
    have hT8:(T++jb d++gJ 1++jb jQ).length≤66000034:=by rw[aj,jh];omega
    have C9:=af (LZ w8 w.heap.size w.heap.size (w.heap.size+1) (T++jb d++gJ 1++jb jQ) del QY.out.rQ fZ fZ fZ HN8.out);go_wp2_with fail;refine C9.out.mono ?_;rintro e w9 ⟨rfl,om⟩;have HB9:=QY.out.trans om;have HR:Hid (qW w.heap.size w.heap.size (lq p l cs (k+1)) W0 w9):=by
     show qW _ _ _ _ _;rw[HTX.out,aao.out];simpa [aA] using HB9
    clear HB9 om QY C9 e0 e1 e2 e3 e4 HN8 HW8;go_wp2;go_roundw
    case rel=>exact⟨k+1,by omega,by go_num,HR⟩
    case measure=>simp[intOf];omega
   |false =>
    have aao:Hid (EN=jb d++(gJ 0++(gJ (iC p d).length++iC p d))):=Ye.out;have C6:=zT w5 w.heap.size w.heap.size (T++jb d) 0 pq.out.rQ fZ fZ ;rw[QW]at C6;have C6:=af C6;have hd1:=ja 0 0 fZ ;go_wp2_with fail;refine C6.out.mono ?_;rintro e w6 ⟨rfl,hb6⟩;have sI:=af (pq.out.trans hb6);have hs6:=sI.out.jM.size;have HW6:=af (o8.out.trans (sI.out.jM.mono fZ ));have HN6:=af (sI.out.wT _ _ HNB.out (fun e=>by injection e with e;omega) fun cs fz e=>by injection e with _ e;exact absurd e gm );have Ur:=hb6.wT gx _ Oc.out (fun e=>hgx (by injection e)) fun cs fz e=>by injection e with _ e;exact absurd e gm
    obtain⟨q0,q1⟩:=Dl Ur;have YI:=af (HM.out.keep HW6.out);have HV:=af (uF p d);obtain⟨kl,hkl⟩:=nk d;unfold lS at hkl;have VJ:=af hkl;have hT6:(T++jb d++gJ 0).length≤66000018:=by rw[aj];omega
    have C9:=af (LZ w6 w.heap.size w.heap.size (w.heap.size+1) (T++jb d++gJ 0) (iC p d) sI.out.rQ fZ fZ fZ HN6.out);clear hb6 C6 pq e0 e1 e2 e3 e4 n5 HN5 QX Oc Ur hkl;go_wp2_with (at_lookup;refine kR false _ rfl _ _ _ rfl lX underlying72 kN YI.out (rG _) rfl d rfl VJ.out ?_;simp only[HV.out]);refine C9.out.mono ?_;rintro e w9 ⟨rfl,om⟩;have HB9:=sI.out.trans om;have HR:Hid (qW w.heap.size w.heap.size (lq p l cs (k+1)) W0 w9):=by
     show qW _ _ _ _ _;rw[HTX.out,aao.out];simpa [aA] using HB9
    clear HB9 om sI C9 HN6 HW6 q0 q1 YI HV VJ;go_wp2;go_roundw
    case rel=>exact⟨k+1,by omega,by go_num,HR⟩
    case measure=>simp[intOf];omega
  ·obtain rfl:k=l.length:=by omega
   have hlt':¬(l.length:Int)<(l.length:Int):=by omega
   have HBe:=HB.out;rw[HE0.out]at HBe;have hBl:(uS p l cs).length≤66000000:=by rw[←HE0.out];exact HT.out _
   have HPK:Hid (nH p l cs=uS p l cs++jb (jJ (uS p l cs))):=rfl;generalize uS p l cs=BD at *;have CS:=af (tQ w.heap.size w.heap.size _ wr HBe.rQ fZ );have HW:=af (o8.out.trans (HBe.jM.mono fZ ));clear HB HBe HT HL HC HM HZ HD HE0;go_wp2_with fail;refine CS.out.mono ?_;rintro e w3 ⟨rfl,_,hb3,_⟩;have HW3:=af (HW.out.trans hb3);have hBz:(fu BD).size=BD.length:=gL BD;have CO:=zq (fu BD) fZ w3;rw[iI]at CO;have CO:=af CO;change Hid (Calls _ _ #[.string (⟨BD.toArray⟩:ByteArray)] _ _)at CO;clear CS HW hb3 hBz;go_wp2_with fail;refine CO.out.mono ?_
   rintro e w4 ⟨rfl,hb4⟩;have HW4:=(hTr HW3 hb4);have CB:=vO (jJ BD) w4;unfold lS at CB;have CB:=af CB;clear hb4 HW3 CO;go_wp2_with fail;refine CB.out.mono ?_;rintro e w5 ⟨rfl,hb5⟩;have QX:=(hTr HW4 hb5);clear hb5 HW4 CB;have hz1:(⟨BD.toArray⟩:ByteArray).size=BD.length:=gL BD;have hz2:(fu (jb (jJ BD))).size=16:=gL _;go_wp2;go_ret;have e:(⟨BD.toArray⟩:ByteArray)++fu (jb (jJ BD))=fu (nH p l cs):=by rw[HPK.out,←nV];rfl
   exact⟨congrArg (fun z=>Ending.returned (.string z)) e,QX.out⟩
end Go.Proofs.YtichfhpgdhdiaaaGreat
namespace Go.Proofs.YtichfhpgdhdiaaaGreat
open Go.RowKit
structure YL where
 dg:Dg
 data:List UInt8
 frm:Nat
def YM(x:YL):Array Value:=#[.int .u64 (x.dg.1.toNat:Int),.int .u64 (x.dg.2.toNat:Int),.string (fu x.data),.int .i64 (x.frm:Int)]
def cnV(x:YL):Value:=.agg #[.int .u64 (x.dg.1.toNat:Int),.int .u64 (x.dg.2.toNat:Int),.string (fu x.data),.int .i64 (x.frm:Int)]
def qh(p:List It)(l base:List Dg):List YL:=base.map (fun d=>⟨d,iC p d,0⟩)++l.zipIdx.map (fun x=>⟨x.1,iC p x.1,x.2+1⟩)
theorem UG(p:List It)(l base:List Dg):(qh p l base).length=base.length+l.length:=by simp[qh]
theorem L6{xs:List YL}{k:Nat}{x:YL}(h:xs[k]?=some x):xs.take (k+1)=xs.take k++[x]∧xs=(xs.take k++[x])++xs.drop (k+1):=by
 have h1:=take_snoc' h;exact⟨h1,by rw[←h1,bQ]⟩
theorem UH(p:List It){base:List Dg}(l:List Dg){k:Nat}{d:Dg}(h:base[k]?=some d):(qh p l base).take (k+1)=(qh p l base).take k++[⟨d,iC p d,0⟩]∧qh p l base=((qh p l base).take k++[⟨d,iC p d,0⟩])++(qh p l base).drop (k+1):=by
 refine L6 ?_;unfold qh;rw[aY (by rw[cZ];exact(ay.1 h).1),fG,h];rfl
theorem adk(p:List It){l:List Dg}(base:List Dg){k:Nat}{d:Dg}(h:l[k]?=some d):(qh p l base).take (base.length+(k+1))=(qh p l base).take (base.length+k)++[⟨d,iC p d,k+1⟩]∧qh p l base=((qh p l base).take (base.length+k)++[⟨d,iC p d,k+1⟩])++(qh p l base).drop (base.length+k+1):=by
 refine L6 (k:=base.length+k) ?_;unfold qh;rw[bD (by rw[cZ];omega),cZ,fw,fG,List.getElem?_zipIdx,h];simp
theorem UI(n lp:Nat)(hn:1≤n)(bb db lb:Nat)(A1 A2:Option Addr)(c1 c2 mb mn:Nat)(p:List It)(l base:List Dg)(M:Nat→Prop)(H:Nat)(In:World→Prop)(hIk:∀W W',iZ M H W W'→In W→In W')(hIf:∀W,In W→gV W bb 27 #[.slice A1 base.length c1]∧gV W db 72 #[.map (some mb)]∧gV W lb 27 #[.slice A2 l.length c2]∧qi W (.slice A1 base.length c1) base∧qi W (.slice A2 l.length c2) l∧ol W mb mn (JA p))(hbl:base.length≤1000000)(hll:l.length≤1000000)(J:List YL→World→Prop)(Jx:World→Prop)(hJ:∀pre W W',Below W.heap.size W W'→J pre W→J pre W')(hY:∀pre x W,J pre W→pre++[x] <+: qh p l base→YieldAt Fence.wide (n-1) prog lp #[cnV x] W fun e W'=>(e=.returned (.bool true)∧J (pre++[x]) W'∨e=.returned (.bool false)∧Jx W')∧iZ M H W W')(W:World)(hi:In W)(h0:J [] W):
  CallsIn Fence.wide n prog 105 #[.func (.yield lp) #[] #[],.pointer (some ⟨bb,0,none⟩),.pointer (some ⟨db,0,none⟩),.pointer (some ⟨lb,0,none⟩)] W fun e W'=>(∃v,e=.returned v)∧(J (qh p l base) W'∨Jx W'):=by
 obtain⟨x1,x2,x3,_,_,_⟩:=hIf W hi;have q1:=x1.cl 0;clear x1 x2 x3;refine callsIn_of_wp func105 rfl trivial ?_ rfl;simp only[ntmps105,di,aI,aM,Nat.reduceAdd,Nat.reduceSub,dm,dB,dL,dH,aO,cB];gi_wp2;gi_loopw [11] (fun iv wr=>∃k:Nat,k≤base.length∧iv=.int .i64 k∧J ((qh p l base).take k) wr∧In wr) (fun iv _=>base.length-(intOf iv).toNat)
 case atStart=>exact⟨0,by omega,rfl,h0,hi⟩
 case round =>
  clear h0 hi q1;obtain⟨k,hk,rfl,hj,hin⟩:=hrel;obtain⟨j1,j2,j3,j4,j5,j6⟩:=hIf wr hin;have q1:=j1.cl 0;have q2:=j2.cl 0;have q3:=j3.cl 0;by_cases hlt:k<base.length
  ·have hlt':(k:Int)<(base.length:Int):=by omega
   obtain⟨d,hx⟩:∃d,base[k]?=some d:=⟨_,au hlt⟩;obtain⟨b1,o1,hA,e0,e1⟩:=j4.get hx;have MH:=af (UH p l hx);have hal:=(ah wr.heap.size wr).alloc (ak _) (.cells #[.int .u64 (d.1.toNat:Int),.int .u64 (d.2.toNat:Int)] 39);have hbx:=gV.new wr #[.int .u64 (d.1.toNat:Int),.int .u64 (d.2.toNat:Int)] 39;have hall:=hal.trans ((gH (wr.alloc (.cells #[.int .u64 (d.1.toNat:Int),.int .u64 (d.2.toNat:Int)] 39))).mono hal.size);have hbd:=hbx.keep (gH _);have hjd:=hJ _ _ _ hall hj;have Oi:=hIk _ _ (iK hall) hin
   obtain⟨y1,y2,y3,y4,y5,y6⟩:=hIf _ Oi;obtain⟨kl,hkl⟩:=nk d;have hlk:=y6.look (P:=prog) false lX underlying72 kN (rG _) d hkl;rw[uF]at hlk;unfold lS at hlk;obtain⟨p0,p1⟩:=Dl hbd;have p2:=y2.cl 0;obtain⟨fn,tmps,assign,body,hy,hR⟩:=hY _ _ _ hjd ⟨_,MH.out.2.symm⟩;have HR:=af hR;unfold cnV at hy;dsimp only at hy;have hf:((0:Nat):Int)=0:=rfl;rw[hf]at hy;clear hf;have FK:=af Oi;clear hR hjd Oi hall hal j1 j2 j3 j4 j5 j6 y1 y2 y3 y4 y5 y6 hin hkl hx;subst hA;gi_upto_region 3 with (fail);clear q1 q2 q3 e0 e1;generalize wr.alloc (.cells #[.int .u64 (d.1.toNat:Int),.int .u64 (d.2.toNat:Int)] 39)=w1 at *
   generalize wr.heap.size=gx at *;refine oF Ff.wide 6 gB gB gB ?_;simp only[dI,bO,dM,dY]
   repeat still_step
   refine wpStill_nil ?_;gi_wp2_with fail;refine HR.out.mono ?_;rintro e W3 ⟨⟨rfl,hj3⟩|⟨rfl,hx3⟩,hk3⟩
   ·have UJ:=hIk _ _ hk3 FK.out;have UK:J ((qh p l base).take (k+1)) W3:=by rw[MH.out.1];exact hj3
    have HJ3:=af UK;have HI3:=af UJ;clear hj3 UK UJ hk3 HR FK hy hlk p0 p1 p2 hbx hbd MH;gi_wp2;go_roundw
    case rel=>exact⟨k+1,by omega,by go_num,HJ3.out,HI3.out⟩
    case measure=>simp[intOf];omega
   ·have Cu:=af hx3;clear hx3 hk3 HR FK hy hlk p0 p1 p2 hbx hbd MH;gi_wp2;exact bodyPost_ret (results_none rfl _ _ _) rfl ⟨⟨_,rfl⟩,.inr Cu.out⟩
  ·obtain rfl:k=base.length:=by omega
   have hlt':¬(base.length:Int)<(base.length:Int):=by omega
   have hj0:J ((qh p l base).take (base.length+0)) wr:=hj;clear hj hk j1 j2 j3 j4 j5 j6 q1 q2;gi_wp2;clear q3;gi_loopw [26] (fun iv wr=>∃k:Nat,k≤l.length∧iv=.int .i64 k∧J ((qh p l base).take (base.length+k)) wr∧In wr) (fun iv _=>l.length-(intOf iv).toNat)
   case atStart=>exact⟨0,by omega,rfl,hj0,hin⟩
   case round =>
    clear hj0 hin;obtain⟨k,hk,rfl,hj,hin⟩:=hrel;obtain⟨j1,j2,j3,j4,j5,j6⟩:=hIf wr hin;have q1:=j1.cl 0;have q2:=j2.cl 0;have q3:=j3.cl 0;by_cases hlt:k<l.length
    ·have hlt':(k:Int)<(l.length:Int):=by omega
     obtain⟨d,hx⟩:∃d,l[k]?=some d:=⟨_,au hlt⟩;obtain⟨b1,o1,hA,e0,e1⟩:=j5.get hx;have MH:=af (adk p base hx);have hal:=(ah wr.heap.size wr).alloc (ak _) (.cells #[.int .u64 (d.1.toNat:Int),.int .u64 (d.2.toNat:Int)] 39);have hbx:=gV.new wr #[.int .u64 (d.1.toNat:Int),.int .u64 (d.2.toNat:Int)] 39;have hall:=hal.trans ((gH (wr.alloc (.cells #[.int .u64 (d.1.toNat:Int),.int .u64 (d.2.toNat:Int)] 39))).mono hal.size);have hbd:=hbx.keep (gH _);have hjd:=hJ _ _ _ hall hj;have Oi:=hIk _ _ (iK hall) hin
     obtain⟨y1,y2,y3,y4,y5,y6⟩:=hIf _ Oi;obtain⟨kl,hkl⟩:=nk d;have hlk:=y6.look (P:=prog) false lX underlying72 kN (rG _) d hkl;rw[uF]at hlk;unfold lS at hlk;obtain⟨p0,p1⟩:=Dl hbd;have p2:=y2.cl 0;obtain⟨fn,tmps,assign,body,hy,hR⟩:=hY _ _ _ hjd ⟨_,MH.out.2.symm⟩;have HR:=af hR;unfold cnV at hy;dsimp only at hy;have hf:((k+1:Nat):Int)=IntKind.i64.wrap ((k:Int)+1):=by rw[jo fZ fZ ];omega
     rw[hf]at hy;clear hf;have FK:=af Oi;clear hR hjd Oi hall hal j1 j2 j3 j4 j5 j6 y1 y2 y3 y4 y5 y6 hin hkl hx;subst hA;gi_upto_region 8 with (fail);clear q1 q2 q3 e0 e1;generalize wr.alloc (.cells #[.int .u64 (d.1.toNat:Int),.int .u64 (d.2.toNat:Int)] 39)=w1 at *;generalize wr.heap.size=gx at *;refine oF Ff.wide 8 gB gB gB ?_;simp only[dI,bO,dM,dY]
     repeat still_step
     refine wpStill_nil ?_;gi_wp2_with fail;refine HR.out.mono ?_;rintro e W3 ⟨⟨rfl,hj3⟩|⟨rfl,hx3⟩,hk3⟩
     ·have UJ:=hIk _ _ hk3 FK.out;have UK:J ((qh p l base).take (base.length+(k+1))) W3:=by rw[MH.out.1];exact hj3
      have HJ3:=af UK;have HI3:=af UJ;clear hj3 UK UJ hk3 HR FK hy hlk p0 p1 p2 hbx hbd MH;gi_wp2;go_roundw
      case rel=>exact⟨k+1,by omega,by go_num,HJ3.out,HI3.out⟩
      case measure=>simp[intOf];omega
     ·have Cu:=af hx3;clear hx3 hk3 HR FK hy hlk p0 p1 p2 hbx hbd MH;gi_wp2;exact bodyPost_ret (results_none rfl _ _ _) rfl ⟨⟨_,rfl⟩,.inr Cu.out⟩
    ·obtain rfl:k=l.length:=by omega
     have hlt2:¬(l.length:Int)<(l.length:Int):=by omega
     have HJE:Hid (J (qh p l base) wr):=by
      have h:=hj;rw[aF (by rw[UG];omega)]at h;exact h
     clear hj hin j1 j2 j3 j4 j5 j6 q1 q2 q3;gi_wp2;go_end0;exact⟨⟨_,rfl⟩,.inl HJE.out⟩
end Go.Proofs.YtichfhpgdhdiaaaGreat
