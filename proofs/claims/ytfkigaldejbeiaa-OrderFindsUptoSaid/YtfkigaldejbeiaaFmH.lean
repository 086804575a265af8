/-
  Orders: the plain law of OrderFinds: the law.
-/
import Derived.Test.YtfkigaldejbeiaaFmG
set_option linter.unusedSectionVars false
set_option linter.unusedSimpArgs false
set_option linter.unusedVariables false
namespace Go.DN.So
open Go.AM Go.DN
theorem free_bd (fu:Nat) (hf:2000<fu){n:SNest}{times:List (List SRow)}(long:Nat) (l1:long≤8) (l2:∀x∈times,x.length≤long) (a b:Sspot) (ha:JS n times long a) (hb:JS n times long b):F.order_Free_1 fu a b=some (badX true times a.Spot b.Spot):=by
 obtain⟨a1,a2⟩:=ha.cl l1 l2
 obtain⟨b1,b2⟩:=hb.cl l1 l2
 unfold F.order_Free_1 badX
 rw[equal_ok fu a.time b.time (by omega) hf,a1,b1,cond_true]
 simp only[List.append_cancel_right_eq,Option.bind_some]
theorem orderLegal_ok (fu:Nat) (hf:68719476750<fu){n:SNest}{times:List (List SRow)}(hs:n.Sizes.length≤1048576):F.order_Legal fu n times=some (findV n times (badX false times)):=by
 unfold F.order_Legal
 rw[Gn.legal_eq,search_ok fu hf hs (legal_bd fu (by omega))];rfl
theorem orderFree_ok (fu:Nat) (hf:68719476750<fu){n:SNest}{times:List (List SRow)}(hs:n.Sizes.length≤1048576):F.order_Free fu n times=some (findV n times (badX true times)):=by
 unfold F.order_Free
 rw[Gn.free_eq,search_ok fu hf hs (free_bd fu (by omega))];rfl
theorem fndQ_mem {n:SNest}{bad:SSpot→SSpot→Bool}:∀{todo done:List SSpot}{a b:SSpot},fndQ n bad done todo=some (a,b)→a∈done++todo∧b∈done++todo
 | [],done,a,b,h=>by cases h
 | q::r,done,a,b,h=>by
  simp only[fndQ] at h
  split at h
  ·rename_i x hx
   cases h
   exact⟨List.mem_append_left _ (List.mem_of_find?_eq_some hx),List.mem_append_right _ List.mem_cons_self⟩
  ·obtain⟨h1,h2⟩:=fndQ_mem h
   rw[List.append_assoc] at h1 h2
   exact⟨h1,h2⟩
theorem findV_len {n:SNest}{times:List (List SRow)}(bad:SSpot→SSpot→Bool):(findV n times bad).1.A.At.length≤1000∧(findV n times bad).1.B.At.length≤1000:=by
 unfold findV
 split
 ·exact⟨by simp[noF],by simp[noF]⟩
 ·rename_i hw
  split
  ·exact⟨by simp[noF],by simp[noF]⟩
  ·have go:=goodO (n:=n) (times:=times) (by omega)
   cases h:fndQ n bad [] (spots n) with
   | none=>exact⟨by simp[noF],by simp[noF]⟩
   | some p=>
    obtain⟨a,b⟩:=p
    obtain⟨h1,h2⟩:=fndQ_mem h
    have key:∀q∈spots n,q.At.length≤1000:=fun q hq=>by
     obtain⟨s,rows,_,_,h3,_,h5,_⟩:=(spots_good go q hq).ex
     have:=h3.over.len
     omega
    exact⟨key a h1,key b h2⟩
theorem orderFinds_F (n:SNest) (times:List (List SRow)) (hs:n.Sizes.length≤1048576):F.adjointlaw11_OrderFinds 70000000000 n times=some true:=by
 generalize hfu:70000000000=fu
 obtain⟨w1,w2⟩:=oWrong_ok fu n times hs (by omega)
 have L1:=orderLegal_ok fu (by omega) (n:=n) (times:=times) hs
 have L2:F.adjointref11_Legal fu n times=some (findV n times (badX false times)):=by
  unfold F.adjointref11_Legal;rw[find_ok fu (by omega) hs];rfl
 have R1:=orderFree_ok fu (by omega) (n:=n) (times:=times) hs
 have R2:F.adjointref11_Free fu n times=some (findV n times (badX true times)):=by
  unfold F.adjointref11_Free;rw[find_ok fu (by omega) hs];rfl
 have S:=fun bad=>sameFound_ok fu (findV n times bad).1 (findV_len bad).1 (findV_len bad).2 (by omega)
 have eta:∀f:SFound,(⟨f.Any,⟨f.A.Stmt,f.A.At⟩,f.B⟩:SFound)=f:=fun _=>rfl
 have e1:∀x:Int,(x !=x)=false:=fun x=>by simp
 have e2:∀x:Int,(x==x)=true:=fun x=>by simp
 unfold F.adjointlaw11_OrderFinds
 simp only[L1,L2,R1,R2,Option.bind_some,eta,S,Bool.not_true,cond_false,e1,w1,w2,amb_self,amb2_self,e2,cond_true]
end Go.DN.So
