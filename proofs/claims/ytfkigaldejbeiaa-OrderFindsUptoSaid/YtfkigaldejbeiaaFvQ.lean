/-
  Orders: the plain law of OrderRuns: all turns; the law over F.
-/
import Derived.Test.YtfkigaldejbeiaaFvO
set_option linter.unusedSectionVars false
set_option linter.unusedSimpArgs false
set_option linter.unusedVariables false
namespace Go.DN.So
open Go.AM Go.DN
theorem equal_ok (fu:Nat) (a b:List Int) (h:a.length≤1000) (hf:2000<fu):F.slices_Equal fu a b=some (decide (a=b)):=by
 unfold F.slices_Equal
 by_cases hl:a.length=b.length
 ·have:=equal_loop a b hl (by omega) fu (by omega)
  have this:loopF (F.slices_Equal_l1 fu a b) fu 0=_:=this
  rw[PL.bne_false (by omega),this]
  by_cases he:a=b
  ·simp only[he,if_true,decide_true];rfl
  ·simp only[he,if_false,decide_false];rfl
 ·rw[PL.bne_true (by omega),PL.dec_false (fun e=>hl (by rw[e]))]
  rfl
section
variable {n:SNest}{times:List (List SRow)}{mix:List Int}
def JS (n:SNest) (times:List (List SRow)) (long:Nat) (s:Sspot):Prop:=s.time=tmS long times s.Spot∧GoodQ n times s.Spot
end
theorem spots_good {n:SNest}{times:List (List SRow)}(go:GoodO n times):∀q∈spots n,GoodQ n times q:=fun q hq=>by
 obtain⟨hl,hz,hg⟩:=good_all go.wn
 unfold spots at hq
 obtain⟨⟨s,k⟩,h1,h2⟩:=List.mem_flatMap.1 hq
 obtain⟨j,hj⟩:=List.getElem?_of_mem h1
 obtain⟨e1,e2⟩:=zip_get hj
 simp only at e1 e2
 subst e2
 unfold spotsOf at h2
 obtain⟨x,hx,rfl⟩:=List.mem_map.1 h2
 have gs:=hg s (List.mem_of_getElem? e1)
 obtain⟨a,b⟩:=pts_mem gs.over hx
 have hk:k<times.length:=by rw[go.len];exact get_lt e1
 have ht:times[k]?=some times[k]:=List.getElem?_eq_getElem hk
 obtain⟨r1,r2⟩:=go.row k _ s ht e1
 exact⟨by simp,s,_,e1,ht,gs,a,b,r1,r2⟩
end Go.DN.So
