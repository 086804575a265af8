/-
  Text, blanks: tokens that are put behind each other, with blanks and remarks between them, are the tokens of that.
-/
import Derived.Test.YtaobkpnecfcefaaDoorUrD
set_option linter.unusedVariables false
set_option linter.unusedSimpArgs false
namespace Go.DN
open Go.AM
def MB (t:ByteArray):Prop:=0<t.size∧t.size≤Mx∧((nw cO t=true∧(kq (ch t 0)=true→uK t=true∧vl 0 t.data.toList≤wc))∨(t.size=1∧cO (ch t 0)=false∧yN (ch t 0)=true))
theorem Hh {s:ByteArray}{p:Nat→Bool}:∀(n q:Nat),(∀i,i<n→p (ch s (q+i))=true)→q+n≤s.size→(q+n<s.size→p (ch s (q+n))=false)→eb s p q=q+n
 | 0,q,_,_,h=>xx h
 | n+1,q,h1,h2,h3=>by
  have h0:p (ch s q)=true:=h1 0 (by omega)
  rw[sa (by omega) h0]
  have:=Hh (s:=s) (p:=p) n (q+1) (fun i hi=>by have:=h1 (i+1) (by omega);rw[show q+1+i=q+(i+1) by omega];exact this) (by omega) (fun h=>by rw[show q+1+n=q+(n+1) by omega] at h⊢;exact h3 h)
  rw[this];omega
theorem uu (s:ByteArray) (i:Nat):ch s i=(s.data.toList[i]?.map UInt8.toNat).getD 0:=by
 unfold ch
 by_cases h:i<s.size
 ·have h1:s[i]?=some s[i]:=getElem?_pos ..
  have h2:i<s.data.toList.length:=by simpa using h
  have h3:s.data.toList[i]?=some s.data.toList[i]:=av h2
  rw[h1,h3]
  rfl
 ·have h2:¬i<s.data.toList.length:=by simpa using h
  have h1:s[i]?=none:=by rw[getElem?_neg];exact h
  have h3:s.data.toList[i]?=none:=ly (by omega)
  rw[h1,h3]
  rfl
def At (t:ByteArray) (p:Nat) (m:List UInt8):Prop:=∃a b,t.data.toList=a++(m++b)∧a.length=p
theorem At.size {t:ByteArray}{p:Nat}{m:List UInt8}(h:At t p m):p+m.length≤t.size:=by
 obtain⟨a,b,e,rfl⟩:=h
 have:t.size=t.data.toList.length:=(Array.length_toList (xs:=t.data)).symm
 rw[this,e];simp
theorem At.ch {t s:ByteArray}{p:Nat}(h:At t p s.data.toList){i:Nat}(hi:i<s.size):Go.DN.ch t (p+i)=Go.DN.ch s i:=by
 obtain⟨a,b,e,rfl⟩:=h
 have hs:i<s.data.toList.length:=by simpa using hi
 rw[uu,uu,e,dj (by omega),show a.length+i-a.length=i by omega,cd hs]
theorem At.ext {t s:ByteArray}{p:Nat}(h:At t p s.data.toList):t.extract p (p+s.size)=s:=by
 have hz:=h.size
 have hl:s.data.toList.length=s.size:=Array.length_toList
 obtain⟨a,b,e,rfl⟩:=h
 refine gz ?_
 rw[ue,ue]
 have:(t.extract a.length (a.length+s.size)).data.toList=(t.data.toList.drop a.length).take s.size:=by
  simp[ByteArray.data_extract]
 rw[this,e,List.drop_left,←hl,List.take_left]
 simp
theorem At.left {t:ByteArray}{p:Nat}{m n:List UInt8}(h:At t p (m++n)):At t p m:=by
 obtain⟨a,b,e,h⟩:=h
 exact⟨a,n++b,by rw[e];simp,h⟩
theorem At.right {t:ByteArray}{p:Nat}{m n:List UInt8}(h:At t p (m++n)):At t (p+m.length) n:=by
 obtain⟨a,b,e,rfl⟩:=h
 exact⟨a++m,b,by rw[e];simp,by simp⟩
theorem At.get {t:ByteArray}{p:Nat}{m:List UInt8}(h:At t p m){i:Nat}{c:UInt8}(hi:m[i]?=some c):Go.DN.ch t (p+i)=c.toNat:=by
 obtain⟨a,b,e,rfl⟩:=h
 have hl:i<m.length:=nH hi
 rw[uu,e,dj (by omega),show a.length+i-a.length=i by omega,cd hl,hi]
 rfl
theorem RL {t s:ByteArray}{p:Nat}(hs:MB s) (h:At t p s.data.toList) (hn:p+s.size<t.size→cO (ch t (p+s.size))=false):nc t p=.inl (p+s.size):=by
 have hz:p+s.size≤t.size:=by have:=h.size;have hl:s.data.toList.length=s.size:=Array.length_toList;omega
 have h0:ch t p=ch s 0:=by have:=h.ch (i:=0) hs.1;simpa using this
 unfold nc
 rw[h0]
 rcases hs.2.2 with ⟨h1,h2⟩ | ⟨h1,h2,h3⟩
 ·have hsc:eb t cO p=p+s.size:=Hh s.size p (fun i hi=>by rw[h.ch hi];exact jN.1 h1 i hi) hz hn
  rw[if_pos (jN.1 h1 0 hs.1),hsc,h.ext]
  by_cases hd:kq (ch s 0)=true
  ·obtain⟨h3,h4⟩:=h2 hd
   rw[if_pos hd,if_pos h3,if_neg (by omega)]
  ·rw[if_neg hd]
 ·rw[if_neg (by rw[h2];decide),if_pos h3,h1]
theorem Lu {s:ByteArray}(hs:MB s):vJ (ch s 0)=false∧ch s 0≠35:=by
 rcases hs.2.2 with ⟨h1,_⟩ | ⟨_,_,h3⟩
 ·have:=jN.1 h1 0 hs.1
  revert this
  generalize ch s 0=c
  unfold cO pJ kq vJ
  simp only[bD,decide_eq_true_eq,bc,decide_eq_false_iff_not]
  omega
 ·revert h3
  generalize ch s 0=c
  unfold yN vJ
  simp only[List.contains_cons,List.contains_nil,bD,beq_iff_eq,bc,decide_eq_false_iff_not,k7]
  omega
end Go.DN
