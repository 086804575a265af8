/-
  Text: tokens: the plain law: digits and their value.
-/
import Derived.Test.YtaobkpnecfcefaaDoorUpA
set_option linter.unusedVariables false
set_option linter.unusedSimpArgs false
namespace Go.DN
open Go.AM
def allB (p:Nat→Bool) (s:ByteArray):Bool:=decide (∀i,i<s.size→p (ch s i)=true)
theorem allB_iff {p:Nat→Bool}{s:ByteArray}:allB p s=true↔∀i,i<s.size→p (ch s i)=true:=by simp[allB]
theorem all_loop {s:ByteArray}(hs:s.size≤Mx){p:Nat→Bool}{σ ρ:Type}{body:σ→Option (σ⊕ρ)}(st:Nat→σ) (bad good:ρ)
  (hb:∀i,i<s.size→body (st i)=(if p (ch s i)=true then some (.inl (st (i+1))) else some (.inr bad))) (he:body (st s.size)=some (.inr good)):
  ∀(fu i:Nat),s.size-i<fu→i≤s.size→(∀k,k<i→p (ch s k)=true)→loopF body fu (st i)=some (if allB p s=true then good else bad)
 | 0,i,h,_,_=>by omega
 | fu+1,i,h,hi,hp=>by
  by_cases hlt:i<s.size
  ·simp only[loopF,hb i hlt]
   by_cases hc:p (ch s i)=true
   ·rw[if_pos hc]
    dsimp only
    exact all_loop hs st bad good hb he fu (i+1) (by omega) (by omega) fun k hk=>by
     by_cases e:k=i
     ·subst e;exact hc
     ·exact hp k (by omega)
   ·rw[if_neg hc]
    dsimp only
    have:allB p s≠true:=fun h=>hc (allB_iff.1 h i hlt)
    rw[if_neg this]
  ·obtain rfl:i=s.size:=by omega
   simp only[loopF,he]
   rw[if_pos (allB_iff.2 hp)]
def vl (acc:Nat):List UInt8→Nat
 | []=>acc
 | c::r=>vl (acc*10+(c.toNat-48)) r
theorem vl_ge (l:List UInt8):∀acc:Nat,acc≤vl acc l:=by
 induction l with
 | nil=>exact fun acc=>Nat.le_refl _
 | cons c r ih=>
  intro acc
  exact Nat.le_trans (Nat.le_trans (Nat.le_mul_of_pos_right acc (by decide:0<10)) (Nat.le_add_right _ _)) (ih (acc*10+(c.toNat-48)))
def D8 (c:UInt8):Bool:=isD c.toNat
theorem D8_iff {c:UInt8}:D8 c=true↔48≤c.toNat∧c.toNat≤57:=by simp[D8,isD]
theorem parseUintM_digits {M:Nat}(hM:M=18446744073709551615):∀(l:List UInt8) (acc:Nat),l.all D8=true→acc≤M→
  Lib.parseUintM M acc l=(if vl acc l≤M then .ok (vl acc l) else .range)
 | [],acc,_,h=>by rw[if_pos (show vl acc []≤M from h)];rfl
 | c::r,acc,hd,h=>by
  simp only[List.all_cons,Bool.and_eq_true] at hd
  have h1:=D8_iff.1 hd.1
  have hge:=vl_ge r (acc*10+(c.toNat-48))
  have hv:vl acc (c::r)=vl (acc*10+(c.toNat-48)) r:=rfl
  rw[hv]
  generalize hw:vl (acc*10+(c.toNat-48)) r=w at hge
  simp only[Lib.parseUintM]
  rw[if_pos h1]
  by_cases h2:1844674407370955162≤acc
  ·rw[if_pos h2,if_neg (by omega)]
  ·rw[if_neg h2]
   by_cases h3:M<acc*10+(c.toNat-48)
   ·rw[if_pos h3,if_neg (by omega)]
   ·rw[if_neg h3,parseUintM_digits hM r _ hd.2 (by omega),hw]
def Big:Nat:=9223372036854775807
theorem Big_eq:Big=9223372036854775807:=rfl
theorem parseI_digits {s:ByteArray}(hs:s.size≤65536) (hd:s.data.toList.all D8=true) (hn:s.data.toList≠[]):
  ∃v,parseI s 10 64=some (v,decide (Big<vl 0 s.data.toList)):=by
 unfold parseI
 rw[chk_pos ⟨rfl,rfl,hs⟩,Option.bind_some]
 generalize s.data.toList=l at hd hn
 cases l with
 | nil=>exact absurd rfl hn
 | cons c r=>
  have hc:48≤c.toNat∧c.toNat≤57:=by
   simp only[List.all_cons,Bool.and_eq_true] at hd
   exact D8_iff.1 hd.1
  rw[Lib.parseIntB_plain 64 c r (by omega) (by omega)]
  have e:Lib.parseUintB 64 (c::r)=Lib.parseUintM (2^64-1) 0 (c::r):=by
   unfold Lib.parseUintB;rw[if_neg (by simp)]
  rw[e,parseUintM_digits (by decide) _ _ hd (Nat.zero_le _)]
  generalize vl 0 (c::r)=v
  have h63:(2:Nat)^(64-1)=9223372036854775808:=by decide
  rw[h63]
  by_cases h1:v≤2^64-1
  ·rw[if_pos h1]
   by_cases h2:9223372036854775808≤v
   ·have e1:Lib.signlessC 9223372036854775808 (.ok v)=.range:=by simp only[Lib.signlessC];rw[if_pos h2]
    have:decide (Big<v)=true:=decide_eq_true (by have:=Big_eq;omega)
    rw[e1,this];exact⟨_,rfl⟩
   ·have e1:Lib.signlessC 9223372036854775808 (.ok v)=.ok (v:Int):=by simp only[Lib.signlessC];rw[if_neg h2]
    have:decide (Big<v)=false:=decide_eq_false (by have:=Big_eq;omega)
    rw[e1,this];exact⟨_,rfl⟩
  ·rw[if_neg h1]
   have:decide (Big<v)=true:=by
    have h1:¬v≤18446744073709551615:=h1
    exact decide_eq_true (by have:=Big_eq;omega)
   rw[this];exact⟨_,rfl⟩
end Go.DN
