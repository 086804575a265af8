/-
  Orders: the plain law of OrderFinds: the law.
-/
import Derived.Test.YtfkigaldejbeiaaFmG
set_option linter.unusedSectionVars false
set_option linter.unusedSimpArgs false
set_option linter.unusedVariables false
namespace Go.DN.So
open Go.AM Go.DN
theorem Ql (fu:Nat) (hf:2000<fu){n:aO}{times:List (List aT)}(long:Nat) (l1:long≤8) (l2:∀x∈times,x.length≤long) (a b:af) (ha:JS n times long a) (hb:JS n times long b):F.iC fu a b=some (oY true times a.aR b.aR):=by
 obtain⟨a1,a2⟩:=ha.cl l1 l2
 obtain⟨b1,b2⟩:=hb.cl l1 l2
 unfold F.iC oY
 rw[H6 fu a.time b.time (by omega) hf,a1,b1,cond_true]
 simp only[List.append_cancel_right_eq,ae]
theorem Fi (fu:Nat) (hf:68719476750<fu){n:aO}{times:List (List aT)}(hs:n.cz.length≤1048576):F.rq fu n times=some (mG n times (oY false times)):=by
 unfold F.rq
 rw[Gn.N6,Er fu hf hs (N7 fu (by omega))];rfl
theorem G1 (fu:Nat) (hf:68719476750<fu){n:aO}{times:List (List aT)}(hs:n.cz.length≤1048576):F.sR fu n times=some (mG n times (oY true times)):=by
 unfold F.sR
 rw[Gn.Qk,Er fu hf hs (Ql fu (by omega))];rfl
end Go.DN.So
