/-
  Text, reading: the reference's part: shapes, numbers, lists.
-/
import Derived.Test.YtaobkpnecfcefaaDoorUqC
set_option linter.unusedVariables false
set_option linter.unusedSimpArgs false
set_option linter.unusedSectionVars false
namespace Go.DN
open Go.AM
theorem w1 {i:Nat}(h:i≤Mx):IntKind.wrap .i64 ((i:Int)+1)=((i+1:Nat):Int):=wrap_succ (n:=i+1) (by omega) (by simp only[Mx] at h;omega)
theorem w2 {i:Nat}(h:i≤Mx):IntKind.wrap .i64 ((i:Int)+2)=((i+2:Nat):Int):=by
 have:=wrap_succ (k:=i+1) (n:=i+2) (by omega) (by simp only[Mx] at h;omega)
 have e:((i+1:Nat):Int)+1=(i:Int)+2:=by omega
 rw[e] at this
 exact this
theorem w3 {i:Nat}(h:i≤Mx):IntKind.wrap .i64 ((i:Int)+3)=((i+3:Nat):Int):=by
 have:=wrap_succ (k:=i+2) (n:=i+3) (by omega) (by simp only[Mx] at h;omega)
 have e:((i+2:Nat):Int)+1=(i:Int)+3:=by omega
 rw[e] at this
 exact this
def Toks.x (X:Toks):Slist:=⟨X.L,X.en⟩
variable {X:Toks}{f0:Nat}
def Rf {α:Type}(r:R α) (o:Option (α×Int×SFault)):Prop:=match r with
 | .ok a i=>o=some (a,(i:Int),⟨0,0⟩)
 | .bad e p=>∃a i,o=some (a,i,⟨e,p⟩)
section
variable (hf:Mx<f0)
include hf
end
section
variable {self:Slist→Int→Int→Option (STree×Int×SFault)}(hf:Mx+1<f0)
include hf
variable {S:Nat→R STree}{dp:Int}(hR:∀i:Nat,i≤X.L.length→Rf (S i) (self X.x (i:Int) (IntKind.wrap .i64 (dp+1)))) (hG:∀i,i≤X.L.length→Gd X TOk i (S i))
include hR hG
end
end Go.DN
