/-
  Orders: the plain law of OrderMixes.
-/
import Derived.Test.YtfkigaldejbeiaaFnC
import Derived.Test.YtfkigaldejbeiaaFmH
set_option linter.unusedSectionVars false
set_option linter.unusedSimpArgs false
set_option linter.unusedVariables false
namespace Go.DN.So
open Go.AM Go.DN
theorem G0 (n:aO) (times:List (List aT)) (mem:List (List Int)) (mix:List Int) (hs:n.cz.length≤1048576):F.iS 70000000000 n times mem mix=some true:=by
 have hal:F.jl 70000000000=some true:=O1 69999999980
 generalize hfu:70000000000=fu at hal⊢
 have L:=Fi fu (by omega) (n:=n) (times:=times) hs
 have R:=G1 fu (by omega) (n:=n) (times:=times) hs
 unfold F.iS
 simp only[hal,ae,jN,cond_false,L,R]
 by_cases h0:(mG n times (oY false times)).2=0
 ·rw[PL.bne_false h0]
  cases h1:(mG n times (oY false times)).1.Any with
  | true=>rfl
  | false=>
   obtain⟨hw,h3,hL⟩:=HV h0 h1
   have go:=KZ hw
   have b0:((0:Int) !=0)=false:=rfl
   have b1:((0:Int)==0)=true:=rfl
   simp only[cond_false,ae]
   have e0:(mG n times (oY true times)).2=0:=by
    rw[HW _ go h3 hw]
    cases oN n (oY true times) [] (eJ n) with
    | none=>rfl
    | some p=>rfl
   rw[PL.bne_false e0,cond_false]
   cases h2:(mG n times (oY true times)).1.Any with
   | true=>rfl
   | false=>
    obtain⟨_,_,hE⟩:=HV e0 h2
    simp only[cond_false]
    rcases Ml fu hs go.wn mem (by omega) with ⟨hF,hN⟩ | ⟨_,e,he,_,hN⟩
    ·rcases IM fu (by omega) hs hw h3 mem mix hL (.inr hE) with ⟨_,hO⟩ | ⟨hF',_⟩
     ·simp only[hN,hO,ae,b0,b1,cond_false,cond_true,L2 fu go hs hF (by omega)]
     ·exact absurd hF hF'
    ·have be:(e !=0)=true:=by simpa using he
     simp only[hN,ae,be,cond_true]
 ·rw[PL.bne_true h0];rfl
end Go.DN.So
