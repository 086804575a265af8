/-
  Nest: the plain law: the reference's judgement; memory copied and compared; the law.
-/
import Derived.Test.YtfkigaldejbeiaaFvG
set_option linter.unusedSectionVars false
set_option linter.unusedSimpArgs false
set_option linter.unusedVariables false
namespace Go.DN
open Go.AM
theorem l9:∀{l:List Int},fc l=0→∀v∈l,v=0
 | [],_,_,h=>by cases h
 | x::r,h,v,hm=>by
  unfold fc at h
  split at h
  ·rename_i hx;exact absurd h hx
  ·rename_i hx
   rcases aX.1 hm with rfl | hm
   ·exact Classical.not_not.1 hx
   ·exact l9 h v hm
theorem mZ {n:aP}(h:wN n=0):n.cd.length≤256∧(∀x∈n.cA,0≤x∧x≤65536)∧∀s∈n.cd,iD n s:=by
 unfold wN at h
 split at h
 ·cases h
 ·rename_i hl
  split at h
  ·cases h
  ·rename_i hb
   simp only[Bool.not_eq_true] at hb
   refine⟨by omega,fun x hx=>?_,fun s hs=>?_⟩
   ·have:=mo.1 hb x hx
    simp[Bm] at this
    omega
   ·have h0:=l9 h (su n s) (iV.2 ⟨s,hs,rfl⟩)
    unfold su at h0
    split at h0
    ·rename_i h1;exact absurd h0 h1
    ·rename_i h1
     have h1:=Classical.not_not.1 h1
     split at h0
     ·cases h0
     ·split at h0
      ·cases h0
      ·rename_i h3
       have h3:=Classical.not_not.1 h3
       have hacc:∀a∈s.cf::s.c9,qd n s.bI a:=fun a ha=>by
        have:=l9 h0 _ (iV.2 ⟨a,ha,rfl⟩)
        unfold y9 at this
        split at this
        ·cases this
        ·rename_i hn
         exact⟨by omega,by omega,this⟩
       exact⟨h1,I3 h1,h3,hacc _ av,fun a ha=>hacc a (ao _ ha)⟩
end Go.DN
