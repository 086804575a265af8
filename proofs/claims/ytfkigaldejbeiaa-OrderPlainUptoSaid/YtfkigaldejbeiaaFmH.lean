/-
  Orders: the plain law of OrderFinds: the law.
-/
import Derived.Test.YtfkigaldejbeiaaFmG
set_option linter.unusedSimpArgs false
set_option linter.unusedVariables false
namespace Go.DN.So
open Go.AM Go.DN
theorem QM (fu:Nat) (hf:2000<fu){n:aM}{times:List (List aO)}(long:Nat) (l1:long≤8) (l2:∀x∈times,x.length≤long) (a b:af) (ha:JS n times long a) (hb:JS n times long b):F.iG fu a b=some (qt true times a.aS b.aS):=by
 obtain⟨a1,a2⟩:=ha.cl l1 l2
 obtain⟨b1,b2⟩:=hb.cl l1 l2
 unfold F.iG qt
 rw[Iu fu a.time b.time (by omega) hf,a1,b1,cond_true]
 simp only[List.append_cancel_right_eq,ae]
theorem FD (fu:Nat) (hf:68719476750<fu){n:aM}{times:List (List aO)}(hs:n.cC.length≤1048576):F.rD fu n times=some (rJ n times (qt false times)):=by
 unfold F.rD
 rw[Gn.OC,EK fu hf hs (OD fu (by omega))];rfl
theorem Hk (fu:Nat) (hf:68719476750<fu){n:aM}{times:List (List aO)}(hs:n.cC.length≤1048576):F.sY fu n times=some (rJ n times (qt true times)):=by
 unfold F.sY
 rw[Gn.QK,EK fu hf hs (QM fu (by omega))];rfl
end Go.DN.So
