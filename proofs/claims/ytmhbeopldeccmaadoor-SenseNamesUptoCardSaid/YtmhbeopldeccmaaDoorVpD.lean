/-
  Text, printing: the plain law: what a tree has; strength; sums and products.
-/
import Derived.Test.YtmhbeopldeccmaaDoorVpC
set_option linter.unusedVariables false
set_option linter.unusedSimpArgs false
namespace Go.DN
open Go.AM
def cB (t:ai):Bool:=
 if t.Kind=1 then ox t&&(em t.Name&&decide (t.Kids.length=0))
 else if t.Kind=2 then ox t&&(decide (t.Number=0)&&decide (t.Kids.length=0))
 else if t.Kind=4∨t.Kind=5 then ox t&&(decide (t.Number=0)&&decide (t.Kids.length=2))
 else if t.Kind=6 then ox t&&decide (t.Kids.length=2)
 else if t.Kind=3 then(decide (t.Number=0)&&(t.Shaped||t.Shape.isEmpty))
 else false
theorem Qv {α:Type}(l:List α):decide ((l.length:Int)>0)=!l.isEmpty:=by cases l <;> simp
theorem Pc (x:Int):(x !=0)=!decide (x=0):=by by_cases h:x=0 <;> simp[h]
theorem kE (x y:Int):(x==y)=decide (x=y):=by by_cases h:x=y <;> simp[h]
theorem vn (x y:Int):(x !=y)=!decide (x=y):=by by_cases h:x=y <;> simp[h]
theorem yI {α:Type}(l:List α) (n:Nat):((l.length:Int)==(n:Int))=decide (l.length=n):=yC l.length n
theorem z7 (fu:Nat) (t:ai):F.qc fu t=some (cB t):=by
 obtain⟨k,n,x,sh,sp,ls,ks⟩:=t
 unfold F.qc cB ox
 have l0:((ks.length:Int)==0)=decide (ks.length=0):=yI ks 0
 have l2:((ks.length:Int)==2)=decide (ks.length=2):=yI ks 2
 simp only[Bn,Qv,kE k,vn k,Pc x,l0,l2]
 generalize decide (ks.length=0)=g0
 generalize decide (ks.length=2)=g2
 generalize em n=ge
 generalize sp.isEmpty=gs
 generalize ls.isEmpty=gl
 generalize decide (x=0)=gx
 by_cases h1:k=1
 ·subst h1;cases sh <;> cases gs <;> cases gl <;> cases ge <;> cases gx <;> simp
 by_cases h2:k=2
 ·subst h2;cases sh <;> cases gs <;> cases gl <;> cases ge <;> cases gx <;> simp
 by_cases h4:k=4
 ·subst h4;cases sh <;> cases gs <;> cases gl <;> cases ge <;> cases gx <;> simp
 by_cases h5:k=5
 ·subst h5;cases sh <;> cases gs <;> cases gl <;> cases ge <;> cases gx <;> simp
 by_cases h6:k=6
 ·subst h6;cases sh <;> cases gs <;> cases gl <;> cases ge <;> cases gx <;> simp
 by_cases h3:k=3
 ·subst h3;cases sh <;> cases gs <;> cases gl <;> cases ge <;> cases gx <;> simp
 ·cases sh <;> cases gs <;> cases gl <;> cases ge <;> cases gx <;> simp[h1,h2,h3,h4,h5,h6]
theorem uU (fu:Nat) (t:ai):F.mK fu t=some (pw t:Int):=by
 obtain⟨k,n,x,sh,sp,ls,ks⟩:=t
 unfold F.mK pw mul
 simp only[kE k,vn k]
 by_cases h5:k=5
 ·subst h5;simp
 by_cases h6:k=6
 ·subst h6;simp
 by_cases h4:k=4
 ·subst h4
  cases n.toList==(ByteArray.mk #[42]).toList <;> simp
 ·simp[h4,h5,h6]
theorem gT (t:ai):(⟨t.Kind,t.Name,t.Number,t.Shaped,t.Shape,t.aE,t.Kids⟩:ai)=t:=by cases t;rfl
theorem xE {t:ai}(h:cB t=false):ql t=false:=by
 obtain⟨k,n,x,sh,sp,ls,ks⟩:=t
 unfold cB at h
 unfold ql
 by_cases h1:k=1
 ·subst h1;simp at h⊢;intro a b _;exact h a b
 by_cases h2:k=2
 ·subst h2;simp at h⊢;intro a _ b;exact h a b
 by_cases h4:k=4
 ·subst h4;simp at h⊢;intro a _ b;exact h a b
 by_cases h5:k=5
 ·subst h5;simp at h⊢;intro a _ b;exact h a b
 by_cases h6:k=6
 ·subst h6;simp at h⊢;intro a _ _;exact h a
 by_cases h3:k=3
 ·subst h3;simp at h⊢
  intro _ _ hx hs
  have:=h hx
  rcases hs with hs | hs
  ·rw[this.1] at hs;cases hs
  ·exact absurd hs this.2
 ·simp[h1,h2,h3,h4,h5,h6]
end Go.DN
