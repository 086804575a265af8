/-
  Text: names (as in the texts for Read).
-/
import Derived.Test.YtmhbeopldeccmaaDoorTrF
import Derived.Test.YtmhbeopldeccmaaDoorMgB
set_option linter.unusedVariables false
set_option linter.unusedSimpArgs false
namespace Go.DN
open Go.AM
def ch (s:ByteArray) (i:Nat):Nat:=match s[i]? with
 | some c=>c.toNat
 | none=>0
theorem Bu {s:ByteArray}{i:Nat}(h:i<s.size):∃c:UInt8,qL s (i:Int)=some c∧c.toNat=ch s i:=by
 obtain⟨c,h1,h2⟩:=PI (l:=s) (i:=(i:Int)) (by omega) (by omega)
 refine⟨c,h1,?_⟩
 have h2:s[i]?=some c:=by simpa using h2
 unfold ch
 rw[h2]
def za (c:Nat):Bool:=decide (97≤c∧c≤122)||(decide (65≤c∧c≤90)||decide (c=95))
def FX (c:Nat):Bool:=decide (48≤c∧c≤57)
theorem yC (a b:Nat):((a:Int)==(b:Int))=decide (a=b):=by
 by_cases h:a=b
 ·subst h;simp
 ·have:((a:Int)==(b:Int))=false:=by simp;omega
  simp[this,h]
theorem vj (k c:Nat):decide ((c:Int)≥(k:Int))=decide (k≤c):=by
 by_cases h:k≤c <;> simp[h] <;> omega
theorem vi (k c:Nat):decide ((c:Int)≤(k:Int))=decide (c≤k):=by
 by_cases h:c≤k <;> simp[h] <;> omega
theorem Dr (fu c:Nat):F.oL fu (c:Int)=some (za c):=by
 unfold F.oL za
 have e:((c:Int)==95)=decide (c=95):=yC c 95
 have e1:decide ((c:Int)≥97)=decide (97≤c):=vj 97 c
 have e2:decide ((c:Int)≥65)=decide (65≤c):=vj 65 c
 have e3:decide ((c:Int)≤122)=decide (c≤122):=vi 122 c
 have e4:decide ((c:Int)≤90)=decide (c≤90):=vi 90 c
 rw[e,e1,e2,e3,e4]
 by_cases h1:97≤c <;> by_cases h2:c≤122 <;> by_cases h3:65≤c <;> by_cases h4:c≤90 <;> simp[h1,h2,h3,h4]
theorem Nr (fu c:Nat):F.sB fu (c:Int)=some (FX c):=by
 unfold F.sB FX
 have e1:decide ((c:Int)≥48)=decide (48≤c):=vj 48 c
 have e2:decide ((c:Int)≤57)=decide (c≤57):=vi 57 c
 rw[e1,e2]
 by_cases h1:48≤c <;> by_cases h2:c≤57 <;> simp[h1,h2]
theorem y9 (fu c:Nat):F.iS fu (c:Int)=some (za c):=by
 unfold F.iS za
 have e:((c:Int)==95)=decide (c=95):=yC c 95
 have e1:decide (97≤(c:Int))=decide (97≤c):=vj 97 c
 have e2:decide (65≤(c:Int))=decide (65≤c):=vj 65 c
 have e3:decide ((c:Int)≤122)=decide (c≤122):=vi 122 c
 have e4:decide ((c:Int)≤90)=decide (c≤90):=vi 90 c
 rw[e,e1,e2,e3,e4]
 by_cases h1:97≤c <;> by_cases h2:c≤122 <;> by_cases h3:65≤c <;> by_cases h4:c≤90 <;> simp[h1,h2,h3,h4]
theorem Jb (fu c:Nat):F.kZ fu (c:Int)=some (FX c):=by
 unfold F.kZ FX
 have e1:decide (48≤(c:Int))=decide (48≤c):=vj 48 c
 have e2:decide ((c:Int)≤57)=decide (c≤57):=vi 57 c
 rw[e1,e2]
 by_cases h1:48≤c <;> by_cases h2:c≤57 <;> simp[h1,h2]
def zQ (c:Nat):Bool:=za c||FX c
def Ag (p:Nat→Bool) (s:ByteArray):Bool:=decide (∀i,i<s.size→p (ch s i)=true)
theorem GN {p:Nat→Bool}{s:ByteArray}:Ag p s=true↔∀i,i<s.size→p (ch s i)=true:=by simp[Ag]
theorem yu (a:ByteArray):a.toList=a.data.toList:=by simp[ByteArray.toList_eq]
theorem Ih {a b:ByteArray}(h:(a.toList==b.toList)=true):a=b:=by
 rw[yu,yu] at h
 have h:=eq_of_beq h
 cases a with
 | mk x=>cases b with
  | mk y=>simp at h;rw[h]
theorem Sa (a:Array UInt8):(ByteArray.mk a).toList=a.toList:=by rw[yu]
theorem x9 {s:ByteArray}:(s.toList==(ByteArray.mk #[]).toList)=decide (s.size=0):=by
 rw[yu,Sa]
 have:s.size=s.data.toList.length:=(bE (xs:=s.data)).symm
 rw[this]
 cases s.data.toList with
 | nil=>rfl
 | cons x r=>simp
def kw (s:ByteArray):Bool:=s.toList==(ByteArray.mk #[102,110]).toList||(s.toList==(ByteArray.mk #[108,101,116]).toList||(s.toList==(ByteArray.mk #[105,110]).toList||(s.toList==(ByteArray.mk #[114,101,112,101,97,116]).toList||s.toList==(ByteArray.mk #[119,105,116,104]).toList)))
def nm (s:ByteArray):Bool:=!(decide (s.size=0))&&(za (ch s 0)&&(!(kw s)&&Ag zQ s))
theorem I8 (fu:Nat) (s:ByteArray):F.qb fu s=some (kw s):=by
 unfold F.qb kw
 generalize (s.toList==(ByteArray.mk #[102,110]).toList)=a
 generalize (s.toList==(ByteArray.mk #[108,101,116]).toList)=b
 generalize (s.toList==(ByteArray.mk #[105,110]).toList)=c
 generalize (s.toList==(ByteArray.mk #[114,101,112,101,97,116]).toList)=x
 generalize (s.toList==(ByteArray.mk #[119,105,116,104]).toList)=y
 cases a <;> cases b <;> cases c <;> cases x <;> cases y <;> rfl
end Go.DN
