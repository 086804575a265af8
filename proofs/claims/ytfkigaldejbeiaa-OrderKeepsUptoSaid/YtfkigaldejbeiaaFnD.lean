/-
  Orders: the plain law of OrderKeeps.
-/
import Derived.Test.YtfkigaldejbeiaaFnC
import Derived.Test.YtfkigaldejbeiaaFmH
set_option linter.unusedSectionVars false
set_option linter.unusedSimpArgs false
set_option linter.unusedVariables false
namespace Go.DN.So
open Go.AM Go.DN
theorem Gs (n:aP) (times:List (List aS)) (mem:List (List Int)) (hs:n.cA.length≤1048576):F.iP 70000000000 n times mem=some true:=by
 have hal:F.ji 70000000000=some true:=OC 69999999980
 generalize hfu:70000000000=fu at hal⊢
 have L:=EQ fu (by omega) (n:=n) (times:=times) hs
 unfold F.iP
 simp only[hal,ab,jL,cond_false,L]
 by_cases h0:(pQ n times (xp false times)).2=0
 ·rw[PL.bne_false h0]
  cases h1:(pQ n times (xp false times)).1.Any with
  | true=>rfl
  | false=>
   obtain⟨hw,h3,hL⟩:=NZ h0 h1
   have go:=Kx hw
   have b0:((0:Int) !=0)=false:=rfl
   have b1:((0:Int)==0)=true:=rfl
   simp only[cond_false,ab]
   rcases LU fu hs go.wn mem (by omega) with ⟨hF,hN⟩ | ⟨_,e,he,_,hN⟩
   ·rcases Ig fu (by omega) hs hw h3 mem [] hL (.inl rfl) with ⟨_,hO⟩ | ⟨hF',_⟩
    ·simp only[hN,hO,ab,b0,b1,cond_false,cond_true,Ly fu go hs hF (by omega)]
    ·exact absurd hF hF'
   ·have be:(e !=0)=true:=by simpa using he
    simp only[hN,ab,be,cond_true]
 ·rw[PL.bne_true h0];rfl
end Go.DN.So
