/-
  Text, printing: the reference's names of any length.
-/
import Derived.Test.YtaobkpnecfcefaaDoorVnB
set_option linter.unusedVariables false
set_option linter.unusedSimpArgs false
namespace Go.DN
open Go.AM
theorem isName_okB {s:ByteArray}(hs:s.size≤Bd){fu:Nat}(hf:s.size<fu):F.adjointref3_IsName fu s=some (nm s):=by
 unfold F.adjointref3_IsName nm
 rw[empty_iff]
 by_cases h0:s.size=0
 ·simp only[h0,decide_true,cond_true,Option.bind_some,Bool.not_true,Bool.false_and]
 ·obtain⟨c,h1,h2⟩:=ch_get (s:=s) (i:=0) (by omega)
  have h1:bidx s 0=some c:=h1
  have hd:decide (s.size=0)=false:=decide_eq_false h0
  have h:=all_loopB (p:=isLD) (body:=F.adjointref3_IsName_l1 fu s) (fun i=>(false,(i:Int))) (Ex.ret false) (Ex.brk ()) (fun i hi=>by
   obtain⟨c,h1,h2⟩:=ch_get hi
   have hdc:decide ((i:Int)<(s.size:Int))=true:=by simp;omega
   simp only[F.adjointref3_IsName_l1,hdc,cond_true,h1,Option.bind_some,isLetter_ok,isDigit_ok,h2]
   rw[wrB hi hs]
   unfold isLD
   cases isL (ch s i) <;> cases isD (ch s i) <;> simp) (by simp[F.adjointref3_IsName_l1]) fu 0 (by omega) (by omega) (fun k hk=>by omega)
  have h:loopF (F.adjointref3_IsName_l1 fu s) fu (false,0)=_:=h
  simp only[hd,cond_false,h1,Option.bind_some,isLetter_ok,h2,h,Bool.not_false,Bool.true_and]
  unfold kw
  generalize (s.toList==(ByteArray.mk #[102,110]).toList)=a
  generalize (s.toList==(ByteArray.mk #[108,101,116]).toList)=b
  generalize (s.toList==(ByteArray.mk #[105,110]).toList)=c
  generalize (s.toList==(ByteArray.mk #[114,101,112,101,97,116]).toList)=x
  generalize (s.toList==(ByteArray.mk #[119,105,116,104]).toList)=y
  cases isL (ch s 0) <;> cases a <;> cases b <;> cases c <;> cases x <;> cases y <;> cases allB isLD s <;> rfl
end Go.DN
