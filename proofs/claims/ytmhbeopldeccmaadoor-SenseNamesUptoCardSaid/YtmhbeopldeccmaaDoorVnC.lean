/-
  Text, printing: the reference's names of any length.
-/
import Derived.Test.YtmhbeopldeccmaaDoorVnB
set_option linter.unusedVariables false
set_option linter.unusedSimpArgs false
namespace Go.DN
open Go.AM
theorem sL {s:ByteArray}(hs:s.size≤Bd){fu:Nat}(hf:s.size<fu):F.cA fu s=some (nm s):=by
 unfold F.cA nm
 rw[x9]
 by_cases h0:s.size=0
 ·simp only[h0,decide_true,cond_true,aa,dL,Bool.false_and]
 ·obtain⟨c,h1,h2⟩:=Bu (s:=s) (i:=0) (by omega)
  have h1:qL s 0=some c:=h1
  have hd:decide (s.size=0)=false:=decide_eq_false h0
  have h:=yn (p:=zQ) (body:=F.ij fu s) (fun i=>(false,(i:Int))) (Ex.ret false) (Ex.bw ()) (fun i hi=>by
   obtain⟨c,h1,h2⟩:=Bu hi
   have hdc:decide ((i:Int)<(s.size:Int))=true:=by simp;omega
   simp only[F.ij,hdc,cond_true,h1,aa,y9,Jb,h2]
   rw[mH hi hs]
   unfold zQ
   cases za (ch s i) <;> cases FX (ch s i) <;> simp) (by simp[F.ij]) fu 0 (by omega) (by omega) (fun k hk=>by omega)
  have h:aW (F.ij fu s) fu (false,0)=_:=h
  simp only[hd,cond_false,h1,aa,y9,h2,h,eE,lD]
  unfold kw
  generalize (s.toList==(ByteArray.mk #[102,110]).toList)=a
  generalize (s.toList==(ByteArray.mk #[108,101,116]).toList)=b
  generalize (s.toList==(ByteArray.mk #[105,110]).toList)=c
  generalize (s.toList==(ByteArray.mk #[114,101,112,101,97,116]).toList)=x
  generalize (s.toList==(ByteArray.mk #[119,105,116,104]).toList)=y
  cases za (ch s 0) <;> cases a <;> cases b <;> cases c <;> cases x <;> cases y <;> cases Ag zQ s <;> rfl
end Go.DN
