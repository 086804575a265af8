/-
  Text, printing: names of any length.
-/
import Derived.Test.YtmhbeopldeccmaaDoorVnA
set_option linter.unusedVariables false
set_option linter.unusedSimpArgs false
namespace Go.DN
open Go.AM
abbrev Bd:Nat:=1099511627776
theorem mH {i n:Nat}(h:i<n) (hn:n≤Bd):IntKind.wrap .i64 ((i:Int)+1)=((i+1:Nat):Int):=gF h (by simp only[Bd] at hn;omega)
theorem yn {s:ByteArray}{p:Nat→Bool}{σ ρ:Type}{body:σ→Option (σ⊕ρ)}(st:Nat→σ) (bad good:ρ)
  (hb:∀i,i<s.size→body (st i)=(if p (ch s i)=true then some (.inl (st (i+1))) else some (.inr bad))) (he:body (st s.size)=some (.inr good)):
  ∀(fu i:Nat),s.size-i<fu→i≤s.size→(∀k,k<i→p (ch s k)=true)→aW body fu (st i)=some (if Ag p s=true then good else bad)
 | 0,i,h,_,_=>by omega
 | fu+1,i,h,hi,hp=>by
  by_cases hlt:i<s.size
  ·simp only[aW,hb i hlt]
   by_cases hc:p (ch s i)=true
   ·rw[if_pos hc]
    dsimp only
    exact yn st bad good hb he fu (i+1) (by omega) (by omega) fun k hk=>by
     by_cases e:k=i
     ·subst e;exact hc
     ·exact hp k (by omega)
   ·rw[if_neg hc]
    dsimp only
    have:Ag p s≠true:=fun h=>hc (GN.1 h i hlt)
    rw[if_neg this]
  ·obtain rfl:i=s.size:=by omega
   simp only[aW,he]
   rw[if_pos (GN.2 hp)]
theorem D3 {s:ByteArray}(hs:s.size≤Bd){fu:Nat}(hf:s.size<fu):F.oc fu s=some (nm s):=by
 unfold F.oc nm
 rw[x9]
 by_cases h0:s.size=0
 ·simp only[h0,decide_true,cond_true,aa,dL,Bool.false_and]
 ·obtain⟨c,h1,h2⟩:=Bu (s:=s) (i:=0) (by omega)
  have h1:qL s 0=some c:=h1
  have hd:decide (s.size=0)=false:=decide_eq_false h0
  have h:=yn (p:=zQ) (body:=F.kf fu s) (fun i=>(false,(i:Int))) (Ex.ret false) (Ex.bw ()) (fun i hi=>by
   obtain⟨c,h1,h2⟩:=Bu hi
   have hdc:decide ((i:Int)<(s.size:Int))=true:=by simp;omega
   simp only[F.kf,hdc,cond_true,h1,aa,Dr,Nr,h2]
   rw[mH hi hs]
   unfold zQ
   cases za (ch s i) <;> cases FX (ch s i) <;> simp) (by simp[F.kf]) fu 0 (by omega) (by omega) (fun k hk=>by omega)
  have h:aW (F.kf fu s) fu (false,0)=_:=h
  simp only[hd,cond_false,h1,aa,Dr,h2,I8,h,eE,lD]
  cases za (ch s 0) <;> cases kw s <;> cases Ag zQ s <;> rfl
end Go.DN
