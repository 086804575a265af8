/-
  Text, printing: names of any length.
-/
import Derived.Test.YtaobkpnecfcefaaDoorVnA
set_option linter.unusedVariables false
set_option linter.unusedSimpArgs false
namespace Go.DN
open Go.AM
abbrev Bd:Nat:=1099511627776
theorem wrB {i n:Nat}(h:i<n) (hn:n≤Bd):IntKind.wrap .i64 ((i:Int)+1)=((i+1:Nat):Int):=wrap_succ h (by simp only[Bd] at hn;omega)
theorem all_loopB {s:ByteArray}{p:Nat→Bool}{σ ρ:Type}{body:σ→Option (σ⊕ρ)}(st:Nat→σ) (bad good:ρ)
  (hb:∀i,i<s.size→body (st i)=(if p (ch s i)=true then some (.inl (st (i+1))) else some (.inr bad))) (he:body (st s.size)=some (.inr good)):
  ∀(fu i:Nat),s.size-i<fu→i≤s.size→(∀k,k<i→p (ch s k)=true)→loopF body fu (st i)=some (if allB p s=true then good else bad)
 | 0,i,h,_,_=>by omega
 | fu+1,i,h,hi,hp=>by
  by_cases hlt:i<s.size
  ·simp only[loopF,hb i hlt]
   by_cases hc:p (ch s i)=true
   ·rw[if_pos hc]
    dsimp only
    exact all_loopB st bad good hb he fu (i+1) (by omega) (by omega) fun k hk=>by
     by_cases e:k=i
     ·subst e;exact hc
     ·exact hp k (by omega)
   ·rw[if_neg hc]
    dsimp only
    have:allB p s≠true:=fun h=>hc (allB_iff.1 h i hlt)
    rw[if_neg this]
  ·obtain rfl:i=s.size:=by omega
   simp only[loopF,he]
   rw[if_pos (allB_iff.2 hp)]
theorem plainName_okB {s:ByteArray}(hs:s.size≤Bd){fu:Nat}(hf:s.size<fu):F.text_plainName fu s=some (nm s):=by
 unfold F.text_plainName nm
 rw[empty_iff]
 by_cases h0:s.size=0
 ·simp only[h0,decide_true,cond_true,Option.bind_some,Bool.not_true,Bool.false_and]
 ·obtain⟨c,h1,h2⟩:=ch_get (s:=s) (i:=0) (by omega)
  have h1:bidx s 0=some c:=h1
  have hd:decide (s.size=0)=false:=decide_eq_false h0
  have h:=all_loopB (p:=isLD) (body:=F.text_plainName_l1 fu s) (fun i=>(false,(i:Int))) (Ex.ret false) (Ex.brk ()) (fun i hi=>by
   obtain⟨c,h1,h2⟩:=ch_get hi
   have hdc:decide ((i:Int)<(s.size:Int))=true:=by simp;omega
   simp only[F.text_plainName_l1,hdc,cond_true,h1,Option.bind_some,letter_ok,digit_ok,h2]
   rw[wrB hi hs]
   unfold isLD
   cases isL (ch s i) <;> cases isD (ch s i) <;> simp) (by simp[F.text_plainName_l1]) fu 0 (by omega) (by omega) (fun k hk=>by omega)
  have h:loopF (F.text_plainName_l1 fu s) fu (false,0)=_:=h
  simp only[hd,cond_false,h1,Option.bind_some,letter_ok,h2,keyword_ok,h,Bool.not_false,Bool.true_and]
  cases isL (ch s 0) <;> cases kw s <;> cases allB isLD s <;> rfl
end Go.DN
