/-
  Text: tokens: the plain law: bytes, scans, digits.
-/
import Derived.Test.YtaobkpnecfcefaaDoorTrF
import Derived.Test.YtaobkpnecfcefaaDoorMgB
import Derived.Lib.ParseIntBCases
set_option linter.unusedVariables false
set_option linter.unusedSimpArgs false
namespace Go.DN
open Go.AM
def ch (s:ByteArray) (i:Nat):Nat:=match s[i]? with
 | some c=>c.toNat
 | none=>0
theorem ch_get {s:ByteArray}{i:Nat}(h:i<s.size):∃c:UInt8,bidx s (i:Int)=some c∧c.toNat=ch s i:=by
 obtain⟨c,h1,h2⟩:=bidx_lt (l:=s) (i:=(i:Int)) (by omega) (by omega)
 refine⟨c,h1,?_⟩
 have h2:s[i]?=some c:=by simpa using h2
 unfold ch
 rw[h2]
def scan (s:ByteArray) (p:Nat→Bool):Nat→Nat→Nat
 | 0,i=>i
 | m+1,i=>if i<s.size∧p (ch s i)=true then scan s p m (i+1) else i
def scanP (s:ByteArray) (p:Nat→Bool) (i:Nat):Nat:=scan s p (s.size-i) i
theorem scanP_go {s:ByteArray}{p:Nat→Bool}{i:Nat}(h:i<s.size) (hp:p (ch s i)=true):scanP s p i=scanP s p (i+1):=by
 unfold scanP
 rw[show s.size-i=(s.size-(i+1))+1 by omega]
 simp only[scan]
 rw[if_pos ⟨h,hp⟩]
theorem scanP_no {s:ByteArray}{p:Nat→Bool}{i:Nat}(hp:i<s.size→p (ch s i)=false):scanP s p i=i:=by
 unfold scanP
 cases hm:s.size-i with
 | zero=>rfl
 | succ m=>
  simp only[scan]
  rw[if_neg]
  rintro⟨h1,h2⟩
  rw[hp h1] at h2;cases h2
theorem scanP_le {s:ByteArray}{p:Nat→Bool}:∀(m i:Nat),m=s.size-i→i≤scanP s p i∧(i≤s.size→scanP s p i≤s.size)
 | 0,i,h=>by rw[scanP_no (s:=s) (p:=p) (i:=i) (fun h'=>by omega)];exact⟨Nat.le_refl _,id⟩
 | m+1,i,h=>by
  by_cases hp:p (ch s i)=true
  ·have hi:i<s.size:=by omega
   rw[scanP_go hi hp]
   obtain⟨h1,h2⟩:=scanP_le (s:=s) (p:=p) m (i+1) (by omega)
   exact⟨by omega,fun _=>h2 (by omega)⟩
  ·rw[scanP_no (fun _=>by simpa using hp)];exact⟨Nat.le_refl _,id⟩
theorem scanP_ge {s:ByteArray}{p:Nat→Bool}(i:Nat):i≤scanP s p i:=(scanP_le _ i rfl).1
theorem scanP_sz {s:ByteArray}{p:Nat→Bool}{i:Nat}(h:i≤s.size):scanP s p i≤s.size:=(scanP_le _ i rfl).2 h
abbrev Mx:Nat:=65536
theorem wr {i n:Nat}(h:i<n) (hn:n≤Mx):IntKind.wrap .i64 ((i:Int)+1)=((i+1:Nat):Int):=wrap_succ h (by simp only[Mx] at hn;omega)
theorem scan_loop {s:ByteArray}(hs:s.size≤Mx){f:Int→Option Bool}{p:Nat→Bool}(hf:∀c:Nat,f (c:Int)=some (p c)){body:ByteArray×Int→Option ((ByteArray×Int)⊕(ByteArray×Int))}
  (hb:body=fun (m3,m4)=>(cond (decide (m4<(m3.size:Int))) ((bidx m3 m4).bind fun c5=>(f ((c5.toNat:Nat):Int)).bind fun (r6:Bool)=>some r6) (some false)).bind fun (v7:Bool)=>
   cond v7 (some (.inl (m3,IntKind.wrap .i64 (m4+1)))) (some (.inr (m3,m4)))):
  ∀(fu i:Nat),s.size-i<fu→i≤s.size→loopF body fu (s,(i:Int))=some (s,(scanP s p i:Int))
 | 0,i,h,_=>by omega
 | fu+1,i,h,hi=>by
  have step:body (s,(i:Int))=(if i<s.size∧p (ch s i)=true then some (.inl (s,((i+1:Nat):Int))) else some (.inr (s,(i:Int)))):=by
   rw[hb]
   by_cases hlt:i<s.size
   ·obtain⟨c,h1,h2⟩:=ch_get hlt
    have hd:decide ((i:Int)<(s.size:Int))=true:=by simp;omega
    simp only[hd,cond_true,h1,Option.bind_some,hf,h2]
    cases hp:p (ch s i) with
    | true=>simp only[cond_true,wr hlt hs,hlt,and_self,if_true]
    | false=>simp[hlt]
   ·have hd:decide ((i:Int)<(s.size:Int))=false:=by simp;omega
    simp[hd,hlt]
  simp only[loopF,step]
  by_cases hlt:i<s.size∧p (ch s i)=true
  ·rw[if_pos hlt]
   dsimp only
   rw[scanP_go hlt.1 hlt.2]
   exact scan_loop hs hf hb fu (i+1) (by omega) (by omega)
  ·rw[if_neg hlt]
   dsimp only
   rw[scanP_no fun h'=>by simpa[h'] using hlt]
def isL (c:Nat):Bool:=decide (97≤c∧c≤122)||(decide (65≤c∧c≤90)||decide (c=95))
def isD (c:Nat):Bool:=decide (48≤c∧c≤57)
def isB (c:Nat):Bool:=decide (c=32)||(decide (c=9)||(decide (c=10)||decide (c=13)))
def isS (c:Nat):Bool:=[40,41,91,93,123,125,44,58,61,43,45,42,59].contains c
theorem nat_beq (a b:Nat):((a:Int)==(b:Int))=decide (a=b):=by
 by_cases h:a=b
 ·subst h;simp
 ·have:((a:Int)==(b:Int))=false:=by simp;omega
  simp[this,h]
theorem nat_ge (k c:Nat):decide ((c:Int)≥(k:Int))=decide (k≤c):=by
 by_cases h:k≤c <;> simp[h] <;> omega
theorem nat_le (k c:Nat):decide ((c:Int)≤(k:Int))=decide (c≤k):=by
 by_cases h:c≤k <;> simp[h] <;> omega
theorem letter_ok (fu c:Nat):F.text_letter fu (c:Int)=some (isL c):=by
 unfold F.text_letter isL
 have e:((c:Int)==95)=decide (c=95):=nat_beq c 95
 have e1:decide ((c:Int)≥97)=decide (97≤c):=nat_ge 97 c
 have e2:decide ((c:Int)≥65)=decide (65≤c):=nat_ge 65 c
 have e3:decide ((c:Int)≤122)=decide (c≤122):=nat_le 122 c
 have e4:decide ((c:Int)≤90)=decide (c≤90):=nat_le 90 c
 rw[e,e1,e2,e3,e4]
 by_cases h1:97≤c <;> by_cases h2:c≤122 <;> by_cases h3:65≤c <;> by_cases h4:c≤90 <;> simp[h1,h2,h3,h4]
theorem digit_ok (fu c:Nat):F.text_digit fu (c:Int)=some (isD c):=by
 unfold F.text_digit isD
 have e1:decide ((c:Int)≥48)=decide (48≤c):=nat_ge 48 c
 have e2:decide ((c:Int)≤57)=decide (c≤57):=nat_le 57 c
 rw[e1,e2]
 by_cases h1:48≤c <;> by_cases h2:c≤57 <;> simp[h1,h2]
def isLD (c:Nat):Bool:=isL c||isD c
theorem next1_ok (fu c:Nat):F.text_lexer_next_1 fu (c:Int)=some (isLD c):=by
 unfold F.text_lexer_next_1 isLD
 rw[letter_ok,digit_ok]
 cases isL c <;> simp
theorem next2_ok (fu c:Nat):F.text_lexer_next_2 fu (c:Int)=some (isLD c):=by
 unfold F.text_lexer_next_2 isLD
 rw[letter_ok,digit_ok]
 cases isL c <;> simp
def notNL (c:Nat):Bool:=!decide (c=10)
theorem blanks1_ok (fu c:Nat):F.text_lexer_blanks_1 fu (c:Int)=some (notNL c):=by
 unfold F.text_lexer_blanks_1 notNL
 have e:((c:Int) !=10)=!decide (c=10):=congrArg not (nat_beq c 10)
 rw[e]
end Go.DN
