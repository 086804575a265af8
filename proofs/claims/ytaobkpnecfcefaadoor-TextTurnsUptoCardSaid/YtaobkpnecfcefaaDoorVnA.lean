import Derived.Test.YtaobkpnecfcefaaDoorUqA
/-
  Text: names, as the reader has them.
-/

set_option linter.unusedVariables false
set_option linter.unusedSimpArgs false
namespace Go.DN
open Go.AM
abbrev Bd:Nat:=1099511627776
theorem yU {i n:Nat}(h:i<n) (hn:n≤Bd):IntKind.wrap .i64 ((i:Int)+1)=((i+1:Nat):Int):=yT h (by simp only[Bd] at hn;omega)
theorem FU {s:ByteArray}{p:Nat→Bool}{σ ρ:Type}{body:σ→Option (σ⊕ρ)}(st:Nat→σ) (bad good:ρ)
  (hb:∀i,i<s.size→body (st i)=(if p (ch s i)=true then some (.inl (st (i+1))) else some (.inr bad))) (he:body (st s.size)=some (.inr good)):
  ∀(fu i:Nat),s.size-i<fu→i≤s.size→(∀k,k<i→p (ch s k)=true)→aX body fu (st i)=some (if nw p s=true then good else bad)
 | 0,i,h,_,_=>by omega
 | fu+1,i,h,hi,hp=>by
  by_cases hlt:i<s.size
  ·simp only[aX,hb i hlt]
   by_cases hc:p (ch s i)=true
   ·rw[if_pos hc]
    dsimp only
    exact FU st bad good hb he fu (i+1) (by omega) (by omega) fun k hk=>by
     by_cases e:k=i
     ·subst e;exact hc
     ·exact hp k (by omega)
   ·rw[if_neg hc]
    dsimp only
    have:nw p s≠true:=fun h=>hc (jN.1 h i hlt)
    rw[if_neg this]
  ·obtain rfl:i=s.size:=by omega
   simp only[aX,he]
   rw[if_pos (jN.2 hp)]
theorem FZ {s:ByteArray}(hs:s.size≤Bd){fu:Nat}(hf:s.size<fu):F.jF fu s=some (nm s):=by
 unfold F.jF nm
 rw[oN]
 by_cases h0:s.size=0
 ·simp only[h0,decide_true,cond_true,aa,de,Bool.false_and]
 ·obtain⟨c,h1,h2⟩:=nM (s:=s) (i:=0) (by omega)
  have h1:lF s 0=some c:=h1
  have hd:decide (s.size=0)=false:=decide_eq_false h0
  have h:=FU (p:=cO) (body:=F.eL fu s) (fun i=>(false,(i:Int))) (Ex.ret false) (Ex.cD ()) (fun i hi=>by
   obtain⟨c,h1,h2⟩:=nM hi
   have hdc:decide ((i:Int)<(s.size:Int))=true:=by simp;omega
   simp only[F.eL,hdc,cond_true,h1,aa,oH,p9,h2]
   rw[yU hi hs]
   unfold cO
   cases pJ (ch s i) <;> cases kq (ch s i) <;> simp) (by simp[F.eL]) fu 0 (by omega) (by omega) (fun k hk=>by omega)
  have h:aX (F.eL fu s) fu (false,0)=_:=h
  simp only[hd,cond_false,h1,aa,oH,h2,C9,h,eo,iL]
  cases pJ (ch s 0) <;> cases kw s <;> cases nw cO s <;> rfl
end Go.DN
