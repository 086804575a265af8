/-
  Nest: the plain law: the reference's judgement; memory copied and compared; the law.
-/
import Derived.Test.YtfkigaldejbeiaaFvG
set_option linter.unusedSimpArgs false
set_option linter.unusedVariables false
namespace Go.DN
open Go.AM
theorem mo:∀{l:List Int},fj l=0→∀v∈l,v=0
 | [],_,_,h=>by cases h
 | x::r,h,v,hm=>by
  unfold fj at h
  split at h
  ·rename_i hx;exact absurd h hx
  ·rename_i hx
   rcases aZ.1 hm with rfl | hm
   ·exact Classical.not_not.1 hx
   ·exact mo h v hm
theorem lU {n:aM}(h:wN n=0):n.bC.length≤256∧(∀x∈n.cC,0≤x∧x≤65536)∧∀s∈n.bC,ix n s:=by
 unfold wN at h
 split at h
 ·cases h
 ·rename_i hl
  split at h
  ·cases h
  ·rename_i hb
   simp only[Bool.not_eq_true] at hb
   refine⟨by omega,fun x hx=>?_,fun s hs=>?_⟩
   ·have:=mB.1 hb x hx
    simp[Ca] at this
    omega
   ·have h0:=mo h (sU n s) (gS.2 ⟨s,hs,rfl⟩)
    unfold sU at h0
    split at h0
    ·rename_i h1;exact absurd h0 h1
    ·rename_i h1
     have h1:=Classical.not_not.1 h1
     split at h0
     ·cases h0
     ·split at h0
      ·cases h0
      ·rename_i h3
       have h3:=Classical.not_not.1 h3
       have hacc:∀a∈s.cg::s.de,qx n s.ba a:=fun a ha=>by
        have:=mo h0 _ (gS.2 ⟨a,ha,rfl⟩)
        unfold zO at this
        split at this
        ·cases this
        ·rename_i hn
         exact⟨by omega,by omega,this⟩
       exact⟨h1,JV h1,h3,hacc _ au,fun a ha=>hacc a (ao _ ha)⟩
end Go.DN
