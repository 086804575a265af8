/-
  Text: names (as in the texts for Read).
-/
import Derived.Test.YtaobkpnecfcefaaDoorTrF
import Derived.Test.YtaobkpnecfcefaaDoorMgB
set_option linter.unusedVariables false
set_option linter.unusedSimpArgs false
namespace Go.DN
open Go.AM
def ch (s:ByteArray) (i:Nat):Nat:=match s[i]? with
 | some c=>c.toNat
 | none=>0
theorem ch_get {s:ByteArray}{i:Nat}(h:i<s.size):∃c:UInt8,bidx s (i:Int)=some c∧c.toNat=ch s i:=by
 obtain⟨c,h1,h2⟩:=bidx_lt (l:=s) (i:=(i:Int)) (by omega) (by omega)
 refine⟨c,h1,?_⟩
 have h2:s[i]?=some c:=by simpa using h2
 unfold ch
 rw[h2]
def isL (c:Nat):Bool:=decide (97≤c∧c≤122)||(decide (65≤c∧c≤90)||decide (c=95))
def isD (c:Nat):Bool:=decide (48≤c∧c≤57)
theorem nat_beq (a b:Nat):((a:Int)==(b:Int))=decide (a=b):=by
 by_cases h:a=b
 ·subst h;simp
 ·have:((a:Int)==(b:Int))=false:=by simp;omega
  simp[this,h]
theorem nat_ge (k c:Nat):decide ((c:Int)≥(k:Int))=decide (k≤c):=by
 by_cases h:k≤c <;> simp[h] <;> omega
theorem nat_le (k c:Nat):decide ((c:Int)≤(k:Int))=decide (c≤k):=by
 by_cases h:c≤k <;> simp[h] <;> omega
theorem letter_ok (fu c:Nat):F.text_letter fu (c:Int)=some (isL c):=by
 unfold F.text_letter isL
 have e:((c:Int)==95)=decide (c=95):=nat_beq c 95
 have e1:decide ((c:Int)≥97)=decide (97≤c):=nat_ge 97 c
 have e2:decide ((c:Int)≥65)=decide (65≤c):=nat_ge 65 c
 have e3:decide ((c:Int)≤122)=decide (c≤122):=nat_le 122 c
 have e4:decide ((c:Int)≤90)=decide (c≤90):=nat_le 90 c
 rw[e,e1,e2,e3,e4]
 by_cases h1:97≤c <;> by_cases h2:c≤122 <;> by_cases h3:65≤c <;> by_cases h4:c≤90 <;> simp[h1,h2,h3,h4]
theorem digit_ok (fu c:Nat):F.text_digit fu (c:Int)=some (isD c):=by
 unfold F.text_digit isD
 have e1:decide ((c:Int)≥48)=decide (48≤c):=nat_ge 48 c
 have e2:decide ((c:Int)≤57)=decide (c≤57):=nat_le 57 c
 rw[e1,e2]
 by_cases h1:48≤c <;> by_cases h2:c≤57 <;> simp[h1,h2]
theorem isLetter_ok (fu c:Nat):F.adjointref3_isLetter fu (c:Int)=some (isL c):=by
 unfold F.adjointref3_isLetter isL
 have e:((c:Int)==95)=decide (c=95):=nat_beq c 95
 have e1:decide (97≤(c:Int))=decide (97≤c):=nat_ge 97 c
 have e2:decide (65≤(c:Int))=decide (65≤c):=nat_ge 65 c
 have e3:decide ((c:Int)≤122)=decide (c≤122):=nat_le 122 c
 have e4:decide ((c:Int)≤90)=decide (c≤90):=nat_le 90 c
 rw[e,e1,e2,e3,e4]
 by_cases h1:97≤c <;> by_cases h2:c≤122 <;> by_cases h3:65≤c <;> by_cases h4:c≤90 <;> simp[h1,h2,h3,h4]
theorem isDigit_ok (fu c:Nat):F.adjointref3_isDigit fu (c:Int)=some (isD c):=by
 unfold F.adjointref3_isDigit isD
 have e1:decide (48≤(c:Int))=decide (48≤c):=nat_ge 48 c
 have e2:decide ((c:Int)≤57)=decide (c≤57):=nat_le 57 c
 rw[e1,e2]
 by_cases h1:48≤c <;> by_cases h2:c≤57 <;> simp[h1,h2]
def isLD (c:Nat):Bool:=isL c||isD c
def allB (p:Nat→Bool) (s:ByteArray):Bool:=decide (∀i,i<s.size→p (ch s i)=true)
theorem allB_iff {p:Nat→Bool}{s:ByteArray}:allB p s=true↔∀i,i<s.size→p (ch s i)=true:=by simp[allB]
theorem toListD (a:ByteArray):a.toList=a.data.toList:=by simp[ByteArray.toList_eq]
theorem mkL (a:Array UInt8):(ByteArray.mk a).toList=a.toList:=by rw[toListD]
theorem empty_iff {s:ByteArray}:(s.toList==(ByteArray.mk #[]).toList)=decide (s.size=0):=by
 rw[toListD,mkL]
 have:s.size=s.data.toList.length:=(Array.length_toList (xs:=s.data)).symm
 rw[this]
 cases s.data.toList with
 | nil=>rfl
 | cons x r=>simp
def kw (s:ByteArray):Bool:=s.toList==(ByteArray.mk #[102,110]).toList||(s.toList==(ByteArray.mk #[108,101,116]).toList||(s.toList==(ByteArray.mk #[105,110]).toList||(s.toList==(ByteArray.mk #[114,101,112,101,97,116]).toList||s.toList==(ByteArray.mk #[119,105,116,104]).toList)))
def nm (s:ByteArray):Bool:=!(decide (s.size=0))&&(isL (ch s 0)&&(!(kw s)&&allB isLD s))
theorem keyword_ok (fu:Nat) (s:ByteArray):F.text_keyword fu s=some (kw s):=by
 unfold F.text_keyword kw
 generalize (s.toList==(ByteArray.mk #[102,110]).toList)=a
 generalize (s.toList==(ByteArray.mk #[108,101,116]).toList)=b
 generalize (s.toList==(ByteArray.mk #[105,110]).toList)=c
 generalize (s.toList==(ByteArray.mk #[114,101,112,101,97,116]).toList)=x
 generalize (s.toList==(ByteArray.mk #[119,105,116,104]).toList)=y
 cases a <;> cases b <;> cases c <;> cases x <;> cases y <;> rfl
end Go.DN
