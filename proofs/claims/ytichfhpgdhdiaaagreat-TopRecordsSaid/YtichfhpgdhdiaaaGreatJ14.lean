/- delta -/
import Derived.Test.YtichfhpgdhdiaaaGreatJ10
import Derived.Test.YtichfhpgdhdiaaaGreatJ5
import Derived.Test.YtichfhpgdhdiaaaGreatJ4
import Derived.Test.YtichfhpgdhdiaaaGreatJ3
set_option maxRecDepth 100000
set_option maxHeartbeats 8000000
set_option linter.unusedVariables false
set_option linter.unusedSimpArgs false
open Go.Proofs.Tryz
namespace Go.Proofs.YtichfhpgdhdiaaaGreat
open Go.RowKit
def dC(x:jq):List Value:=[.int .i64 x.off,.int .i64 x.len,.string (fu x.data)]
def dV(x:jq):Value:=.agg #[.int .i64 x.off,.int .i64 x.len,.string (fu x.data)]
theorem DX(x:jq):(dC x).length=3:=rfl
def P7(x:jq):Bool:=decide x.cp
def Ig(x:jq):Bool:=decide x.ins
def rR(x:jq):Int:=if 0<x.len then x.len else x.data.length
theorem uf(x:jq)(w:World):Calls prog 109 #[dV x] w fun e w'=>e=.returned (.bool (P7 x))∧Below w.heap.size w w':=by
 obtain⟨o,n,d⟩:=x;unfold dV;have hb:Below w.heap.size w (w.alloc (.cells #[.int .i64 o,.int .i64 n,.string (fu d)] 191)):=(ah _ _).alloc (ak _) _;have hl:=gQ d;by_cases h1:0<n
 ·by_cases h2:d = []
  ·have hc:P7 ⟨o,n,d⟩=true:=decide_eq_true ⟨h1,h2⟩;rw[hc];have he:(fu d).toList.isEmpty=true:=by rw[hl,h2];rfl
   generalize fu d=s at *;clear hc h2 hl;go_enter func109,ntmps109;go_wp2;go_ret;exact⟨rfl,hb⟩
  ·have hc:P7 ⟨o,n,d⟩=false:=decide_eq_false fun e=>h2 e.2
   rw[hc];have hl':(fu d).toList≠[]:=by rw[hl];exact h2
   have he:(fu d).toList.isEmpty=false:=by rw[hl];simpa using h2
   generalize fu d=s at *;clear hc h2 hl;go_enter func109,ntmps109;go_wp2;go_ret;exact⟨rfl,hb⟩
 ·have hc:P7 ⟨o,n,d⟩=false:=decide_eq_false fun e=>h1 e.1
  rw[hc];generalize fu d=s at *;have h1':decide (0<n)=false:=decide_eq_false h1;clear hc hl;go_enter func109,ntmps109;go_wp2;go_ret;exact⟨rfl,hb⟩
theorem F7(x:jq)(w:World):Calls prog 145 #[dV x] w fun e w'=>e=.returned (.bool (Ig x))∧Below w.heap.size w w':=by
 obtain⟨o,n,d⟩:=x;unfold dV;have hb:Below w.heap.size w (w.alloc (.cells #[.int .i64 o,.int .i64 n,.string (fu d)] 191)):=(ah _ _).alloc (ak _) _;have hl:=gQ d;by_cases h0:n=0
 ·subst h0;by_cases h1:o=0
  ·subst h1;by_cases h2:d = []
   ·have hc:Ig ⟨0,0,d⟩=false:=decide_eq_false fun e=>e.2.2 h2
    rw[hc];have he:(fu d).toList.isEmpty=true:=by rw[hl,h2];rfl
    generalize fu d=s at *;clear hc h2 hl;go_enter func145,ntmps145;go_wp2;go_ret;exact⟨rfl,hb⟩
   ·have hc:Ig ⟨0,0,d⟩=true:=decide_eq_true ⟨rfl,rfl,h2⟩;rw[hc];have hl':(fu d).toList≠[]:=by rw[hl];exact h2
    have he:(fu d).toList.isEmpty=false:=by rw[hl];simpa using h2
    generalize fu d=s at *;clear hc h2 hl;go_enter func145,ntmps145;go_wp2;go_ret;exact⟨rfl,hb⟩
  ·have hc:Ig ⟨o,0,d⟩=false:=decide_eq_false fun e=>h1 e.2.1
   rw[hc];have h1':(o==0)=false:=by simpa using h1
   generalize fu d=s at *;clear hc hl;go_enter func145,ntmps145;go_wp2;go_ret;exact⟨rfl,hb⟩
 ·have hc:Ig ⟨o,n,d⟩=false:=decide_eq_false fun e=>h0 e.1
  rw[hc];have h1':(n==0)=false:=by simpa using h0
  generalize fu d=s at *;clear hc hl;go_enter func145,ntmps145;go_wp2;go_ret;exact⟨rfl,hb⟩
theorem Dz(x:jq)(w:World):Calls prog 115 #[dV x] w fun e w'=>e=.returned (.int .i64 (rR x))∧Below w.heap.size w w':=by
 obtain⟨o,n,d⟩:=x;unfold dV;have hb:Below w.heap.size w (w.alloc (.cells #[.int .i64 o,.int .i64 n,.string (fu d)] 191)):=(ah _ _).alloc (ak _) _;have hl:=gL d;by_cases h1:0<n
 ·have hc:rR ⟨o,n,d⟩=n:=if_pos h1;rw[hc];generalize fu d=s at *;clear hc hl;go_enter func115,ntmps115;go_wp2;go_ret;exact⟨rfl,hb⟩
 ·have hc:rR ⟨o,n,d⟩=(fu d).size:=by rw[hl];exact if_neg h1
  rw[hc];generalize fu d=s at *;clear hc hl;go_enter func115,ntmps115;go_wp2;go_ret;exact⟨rfl,hb⟩
end Go.Proofs.YtichfhpgdhdiaaaGreat
