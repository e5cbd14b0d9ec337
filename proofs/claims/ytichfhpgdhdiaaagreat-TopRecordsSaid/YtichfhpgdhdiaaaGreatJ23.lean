/- delta -/
import Derived.Test.YtichfhpgdhdiaaaGreatJ12
import Derived.BigRegion
import Derived.Deep.RegionLaw
import Derived.Deep.DeepMust
import Derived.Test.YtichfhpgdhdiaaaGreatJ3
set_option maxRecDepth 100000
set_option maxHeartbeats 8000000
set_option linter.unusedVariables false
set_option linter.unusedSimpArgs false
open Go.Proofs.Tryz
namespace Go.Proofs.YtichfhpgdhdiaaaGreat
open Go.RowKit
theorem Tryz.PZ:(Tryz.prog.info? 238).map (fun i=>(i.zero,i.size,i.bytes))=some (some (.agg #[.int .u8 0,.int .i64 0,.int .i64 0]),3,24):=by kernel_rfl
theorem Tryz.FZ:(Tryz.prog.info? 196).map (fun i=>(i.zero,i.size,i.bytes))=some (some (.agg #[.int .i64 0,.int .i64 0,.int .i64 0,.int .i64 0]),4,32):=by kernel_rfl
theorem OI(w:World){B g:Nat}{ns:List Nd}{es:List Ed}(M:xW w B g ns es){v:Nat}{x:Nd}(hx:ns[v]?=some x)(c:UInt8)(u:Nat)(hes:es.length≤100000000):
  Calls prog 164 #[.pointer (some ⟨g,0,none⟩),.int .i64 v,.int .u8 c.toNat,.int .i64 u] w fun e w' =>
   e=.returned (.tuple #[])∧xW w' B g (ns.set v { x with edge:=some es.length }) (es++[⟨c,u,x.edge⟩])∧Below B w w':=by
 obtain⟨i1,hi1,hy0,hy1,hy2⟩:=info_parts Tryz.PZ;obtain⟨vn,ve,h⟩:=M;obtain⟨gn,cn,rfl,hv,hc1,hc2,n0,n1,n2,n3⟩:=h.lM hx;have b0:w.cell? ⟨g,0,none⟩=some (.slice (some ⟨gn,0,none⟩) ns.length cn):=h.box.cell rfl;have hgs:=h.box.lt;have hbs:=h.base;obtain⟨A,ce,rfl⟩:=iw h.ru;have b1:w.cell? ⟨g,1,none⟩=some (.slice A es.length ce):=h.box.cell rfl;have H:=af h;have hoe:=h.ru;have oP:=h.box;clear n0 n1 n2 h;generalize hie:mJ x.edge=ie at *;have HIE:=af hie;clear hie;generalize hcl:c.toNat=cl at *;have HCL:=af hcl;clear hcl;go_enter func164,ntmps164
 go_wp2;go_region_law ((refine jf _ rfl _ _ _ rfl B 238 i1 _ 3 24 underlying198 hi1 hy0 hy1 hy2 rfl fZ (.slice A es.length ce) es.length _ rfl (World.ownsRow.drew (World.ownsRow.alloc hoe _)) _ 1 1 [.int .u8 cl,.int .i64 u,.int .i64 ie] rfl rfl (gY _ _ _ _) (by simp[Value.oneCell']) fZ fZ (by simp;omega) ?_;intro v1 w2 hown1 hgr hat;obtain⟨A',c',rfl⟩:=iw hown1;have hbk2:=gV.grown (gV.drew (gV.alloc oP (.cells #[.int .u8 cl,.int .i64 u,.int .i64 ie] 238))) hgr (ig hoe oP gm ).symm;have p1:=hbk2.cl 1;have f1:=hbk2.frozen 1))
 all_goals
  have Fs:=((ah w.heap.size w).alloc (ak _) (.cells #[.int .u8 cl,.int .i64 u,.int .i64 ie] 238)).drew;have eC:Wn ⟨c,u,x.edge⟩ = [.int .u8 cl,.int .i64 u,.int .i64 ie]:=by simp only[Wn];rw[HCL.out,HIE.out]
  have H2:=(H.out.keep Fs).M7 (x:=⟨c,u,x.edge⟩) (by rw[eC];exact hown1) hgr (ig hoe oP gm );have hd3:=((Fs.mono (show B≤w.heap.size by omega)).grown hgr (by simp;omega) (fun g' h=>(hoe.lt g' h).1)).setCell (p:=⟨g,1,none⟩) hbs (.slice A' (es.length+1) c');clear p1 f1 hbk2 hown1 hgr hat Fs eC b0 b1 n3 hoe oP;generalize w2.setCell ⟨g,1,none⟩ (.slice A' (es.length+1) c')=w3 at *;obtain⟨gn',cn',e1,hb1,hb2,hfr,HV⟩:=H2.zf hx (k:=3) fZ (x':={ x with edge:=some es.length }) (u:=.int .i64 es.length) rfl;injection e1 with e2 _ _;injection e2 with e2;injection e2 with e2 _ _
  subst e2;obtain⟨_,_,_,_,_,_,_,_,_,m3⟩:=H2.lM hx;have c0:=H2.box.cl 0;have c1:=H2.box.cl 1;have hdd:=hd3.setCell (p:=⟨gn,v*4+3,none⟩) hb1 (.int .i64 es.length);have hw1:IntKind.i64.wrap (((es.length+1:Nat):Int)-1)=(es.length:Int):=by rw[jo fZ fZ ];omega
  have HW:=af HV;have HD:=af hdd;clear hd3 hdd H2 hx HV;go_wp2;go_region_law (fail)
  all_goals
   go_wp2;have hw2:IntKind.i64.wrap (es.length:Int)=(es.length:Int):=jo fZ fZ ;rw[hw2];exact bodyPost_end (results_none rfl _ _ _) rfl ⟨rfl,⟨_,_,HW.out.keep (ah _ _).drew⟩,HD.out.drew⟩
end Go.Proofs.YtichfhpgdhdiaaaGreat
