import Derived.Test.YtaobkpnecfcefaaDoorTrF
import Derived.Test.YtaobkpnecfcefaaDoorMgB
import Derived.Lib.ParseIntBCases
/-
  Text: tokens: the plain law: bytes, scans, digits.
-/
set_option linter.unusedVariables false
set_option linter.unusedSimpArgs false
namespace Go.DN
open Go.AM
def ch (s:ByteArray) (i:Nat):Nat:=match s[i]? with
 | some c=>c.toNat
 | none=>0
theorem nM {s:ByteArray}{i:Nat}(h:i<s.size):∃c:UInt8,lF s (i:Int)=some c∧c.toNat=ch s i:=by
 obtain⟨c,h1,h2⟩:=S4 (l:=s) (i:=(i:Int)) (by omega) (by omega)
 refine⟨c,h1,?_⟩
 have h2:s[i]?=some c:=by simpa using h2
 unfold ch
 rw[h2]
def scan (s:ByteArray) (p:Nat→Bool):Nat→Nat→Nat
 | 0,i=>i
 | m+1,i=>if i<s.size∧p (ch s i)=true then scan s p m (i+1) else i
def eb (s:ByteArray) (p:Nat→Bool) (i:Nat):Nat:=scan s p (s.size-i) i
theorem sa {s:ByteArray}{p:Nat→Bool}{i:Nat}(h:i<s.size) (hp:p (ch s i)=true):eb s p i=eb s p (i+1):=by
 unfold eb
 rw[show s.size-i=(s.size-(i+1))+1 by omega]
 simp only[scan]
 rw[if_pos ⟨h,hp⟩]
theorem xx {s:ByteArray}{p:Nat→Bool}{i:Nat}(hp:i<s.size→p (ch s i)=false):eb s p i=i:=by
 unfold eb
 cases hm:s.size-i with
 | zero=>rfl
 | succ m=>
  simp only[scan]
  rw[if_neg]
  rintro⟨h1,h2⟩
  rw[hp h1] at h2;cases h2
theorem Bk {s:ByteArray}{p:Nat→Bool}:∀(m i:Nat),m=s.size-i→i≤eb s p i∧(i≤s.size→eb s p i≤s.size)
 | 0,i,h=>by rw[xx (s:=s) (p:=p) (i:=i) (fun h'=>by omega)];exact⟨aq _,id⟩
 | m+1,i,h=>by
  by_cases hp:p (ch s i)=true
  ·have hi:i<s.size:=by omega
   rw[sa hi hp]
   obtain⟨h1,h2⟩:=Bk (s:=s) (p:=p) m (i+1) (by omega)
   exact⟨by omega,fun _=>h2 (by omega)⟩
  ·rw[xx (fun _=>by simpa using hp)];exact⟨aq _,id⟩
theorem sc {s:ByteArray}{p:Nat→Bool}(i:Nat):i≤eb s p i:=(Bk _ i rfl).1
theorem rZ {s:ByteArray}{p:Nat→Bool}{i:Nat}(h:i≤s.size):eb s p i≤s.size:=(Bk _ i rfl).2 h
abbrev Mx:Nat:=65536
theorem wr {i n:Nat}(h:i<n) (hn:n≤Mx):IntKind.wrap .i64 ((i:Int)+1)=((i+1:Nat):Int):=yT h (by simp only[Mx] at hn;omega)
theorem vA {s:ByteArray}(hs:s.size≤Mx){f:Int→Option Bool}{p:Nat→Bool}(hf:∀c:Nat,f (c:Int)=some (p c)){body:ByteArray×Int→Option ((ByteArray×Int)⊕(ByteArray×Int))}
  (hb:body=fun (m3,m4)=>(cond (decide (m4<(m3.size:Int))) ((lF m3 m4).bind fun c5=>(f ((c5.toNat:Nat):Int)).bind fun (r6:Bool)=>some r6) (some false)).bind fun (v7:Bool)=>
   cond v7 (some (.inl (m3,IntKind.wrap .i64 (m4+1)))) (some (.inr (m3,m4)))):
  ∀(fu i:Nat),s.size-i<fu→i≤s.size→aX body fu (s,(i:Int))=some (s,(eb s p i:Int))
 | 0,i,h,_=>by omega
 | fu+1,i,h,hi=>by
  have step:body (s,(i:Int))=(if i<s.size∧p (ch s i)=true then some (.inl (s,((i+1:Nat):Int))) else some (.inr (s,(i:Int)))):=by
   rw[hb]
   by_cases hlt:i<s.size
   ·obtain⟨c,h1,h2⟩:=nM hlt
    have hd:decide ((i:Int)<(s.size:Int))=true:=by simp;omega
    simp only[hd,cond_true,h1,aa,hf,h2]
    cases hp:p (ch s i) with
    | true=>simp only[cond_true,wr hlt hs,hlt,and_self,if_true]
    | false=>simp[hlt]
   ·have hd:decide ((i:Int)<(s.size:Int))=false:=by simp;omega
    simp[hd,hlt]
  simp only[aX,step]
  by_cases hlt:i<s.size∧p (ch s i)=true
  ·rw[if_pos hlt]
   dsimp only
   rw[sa hlt.1 hlt.2]
   exact vA hs hf hb fu (i+1) (by omega) (by omega)
  ·rw[if_neg hlt]
   dsimp only
   rw[xx fun h'=>by simpa[h'] using hlt]
def pJ (c:Nat):Bool:=decide (97≤c∧c≤122)||(decide (65≤c∧c≤90)||decide (c=95))
def kq (c:Nat):Bool:=decide (48≤c∧c≤57)
def vJ (c:Nat):Bool:=decide (c=32)||(decide (c=9)||(decide (c=10)||decide (c=13)))
def yN (c:Nat):Bool:=[40,41,91,93,123,125,44,58,61,43,45,42,59].contains c
theorem qo (a b:Nat):((a:Int)==(b:Int))=decide (a=b):=by
 by_cases h:a=b
 ·subst h;simp
 ·have:((a:Int)==(b:Int))=false:=by simp;omega
  simp[this,h]
theorem HO (k c:Nat):decide ((c:Int)≥(k:Int))=decide (k≤c):=by
 by_cases h:k≤c <;> simp[h] <;> omega
theorem HN (k c:Nat):decide ((c:Int)≤(k:Int))=decide (c≤k):=by
 by_cases h:c≤k <;> simp[h] <;> omega
theorem oH (fu c:Nat):F.k8 fu (c:Int)=some (pJ c):=by
 unfold F.k8 pJ
 have e:((c:Int)==95)=decide (c=95):=qo c 95
 have e1:decide ((c:Int)≥97)=decide (97≤c):=HO 97 c
 have e2:decide ((c:Int)≥65)=decide (65≤c):=HO 65 c
 have e3:decide ((c:Int)≤122)=decide (c≤122):=HN 122 c
 have e4:decide ((c:Int)≤90)=decide (c≤90):=HN 90 c
 rw[e,e1,e2,e3,e4]
 by_cases h1:97≤c <;> by_cases h2:c≤122 <;> by_cases h3:65≤c <;> by_cases h4:c≤90 <;> simp[h1,h2,h3,h4]
theorem p9 (fu c:Nat):F.kW fu (c:Int)=some (kq c):=by
 unfold F.kW kq
 have e1:decide ((c:Int)≥48)=decide (48≤c):=HO 48 c
 have e2:decide ((c:Int)≤57)=decide (c≤57):=HN 57 c
 rw[e1,e2]
 by_cases h1:48≤c <;> by_cases h2:c≤57 <;> simp[h1,h2]
def cO (c:Nat):Bool:=pJ c||kq c
theorem PF (fu c:Nat):F.kQ fu (c:Int)=some (cO c):=by
 unfold F.kQ cO
 rw[oH,p9]
 cases pJ c <;> simp
theorem PE (fu c:Nat):F.kP fu (c:Int)=some (cO c):=by
 unfold F.kP cO
 rw[oH,p9]
 cases pJ c <;> simp
def pS (c:Nat):Bool:=!decide (c=10)
theorem Ms (fu c:Nat):F.jC fu (c:Int)=some (pS c):=by
 unfold F.jC pS
 have e:((c:Int) !=10)=!decide (c=10):=congrArg not (qo c 10)
 rw[e]
end Go.DN

set_option linter.unusedVariables false
set_option linter.unusedSimpArgs false
namespace Go.DN
open Go.AM
def nw (p:Nat→Bool) (s:ByteArray):Bool:=decide (∀i,i<s.size→p (ch s i)=true)
theorem jN {p:Nat→Bool}{s:ByteArray}:nw p s=true↔∀i,i<s.size→p (ch s i)=true:=by simp[nw]
theorem Cg {s:ByteArray}(hs:s.size≤Mx){p:Nat→Bool}{σ ρ:Type}{body:σ→Option (σ⊕ρ)}(st:Nat→σ) (bad good:ρ)
  (hb:∀i,i<s.size→body (st i)=(if p (ch s i)=true then some (.inl (st (i+1))) else some (.inr bad))) (he:body (st s.size)=some (.inr good)):
  ∀(fu i:Nat),s.size-i<fu→i≤s.size→(∀k,k<i→p (ch s k)=true)→aX body fu (st i)=some (if nw p s=true then good else bad)
 | 0,i,h,_,_=>by omega
 | fu+1,i,h,hi,hp=>by
  by_cases hlt:i<s.size
  ·simp only[aX,hb i hlt]
   by_cases hc:p (ch s i)=true
   ·rw[if_pos hc]
    dsimp only
    exact Cg hs st bad good hb he fu (i+1) (by omega) (by omega) fun k hk=>by
     by_cases e:k=i
     ·subst e;exact hc
     ·exact hp k (by omega)
   ·rw[if_neg hc]
    dsimp only
    have:nw p s≠true:=fun h=>hc (jN.1 h i hlt)
    rw[if_neg this]
  ·obtain rfl:i=s.size:=by omega
   simp only[aX,he]
   rw[if_pos (jN.2 hp)]
def vl (acc:Nat):List UInt8→Nat
 | []=>acc
 | c::r=>vl (acc*10+(c.toNat-48)) r
theorem UH (l:List UInt8):∀acc:Nat,acc≤vl acc l:=by
 induction l with
 | nil=>exact fun acc=>aq _
 | cons c r ih=>
  intro acc
  exact cm (cm (Nat.le_mul_of_pos_right acc (by decide:0<10)) (Nat.le_add_right _ _)) (ih (acc*10+(c.toNat-48)))
def D8 (c:UInt8):Bool:=kq c.toNat
theorem Ab {c:UInt8}:D8 c=true↔48≤c.toNat∧c.toNat≤57:=by simp[D8,kq]
theorem pk {M:Nat}(hM:M=18446744073709551615):∀(l:List UInt8) (acc:Nat),l.all D8=true→acc≤M→
  Lib.parseUintM M acc l=(if vl acc l≤M then .ok (vl acc l) else .range)
 | [],acc,_,h=>by rw[if_pos (show vl acc []≤M from h)];rfl
 | c::r,acc,hd,h=>by
  simp only[fC,ag] at hd
  have h1:=Ab.1 hd.1
  have hge:=UH r (acc*10+(c.toNat-48))
  have hv:vl acc (c::r)=vl (acc*10+(c.toNat-48)) r:=rfl
  rw[hv]
  generalize hw:vl (acc*10+(c.toNat-48)) r=w at hge
  simp only[Lib.parseUintM]
  rw[if_pos h1]
  by_cases h2:1844674407370955162≤acc
  ·rw[if_pos h2,if_neg (by omega)]
  ·rw[if_neg h2]
   by_cases h3:M<acc*10+(c.toNat-48)
   ·rw[if_pos h3,if_neg (by omega)]
   ·rw[if_neg h3,pk hM r _ hd.2 (by omega),hw]
def wc:Nat:=9223372036854775807
theorem xj:wc=9223372036854775807:=rfl
theorem F0 {s:ByteArray}(hs:s.size≤65536) (hd:s.data.toList.all D8=true) (hn:s.data.toList≠[]):
  ∃v,pB s 10 64=some (v,decide (wc<vl 0 s.data.toList)):=by
 unfold pB
 rw[lN ⟨rfl,rfl,hs⟩,aa]
 generalize s.data.toList=l at hd hn
 cases l with
 | nil=>exact absurd rfl hn
 | cons c r=>
  have hc:48≤c.toNat∧c.toNat≤57:=by
   simp only[fC,ag] at hd
   exact Ab.1 hd.1
  rw[Lib.parseIntB_plain 64 c r (by omega) (by omega)]
  have e:Lib.parseUintB 64 (c::r)=Lib.parseUintM (2^64-1) 0 (c::r):=by
   unfold Lib.parseUintB;rw[if_neg (by simp)]
  rw[e,pk (by decide) _ _ hd (cv _)]
  generalize vl 0 (c::r)=v
  have h63:(2:Nat)^(64-1)=9223372036854775808:=by decide
  rw[h63]
  by_cases h1:v≤2^64-1
  ·rw[if_pos h1]
   by_cases h2:9223372036854775808≤v
   ·have e1:Lib.signlessC 9223372036854775808 (.ok v)=.range:=by simp only[Lib.signlessC];rw[if_pos h2]
    have:decide (wc<v)=true:=decide_eq_true (by have:=xj;omega)
    rw[e1,this];exact⟨_,rfl⟩
   ·have e1:Lib.signlessC 9223372036854775808 (.ok v)=.ok (v:Int):=by simp only[Lib.signlessC];rw[if_neg h2]
    have:decide (wc<v)=false:=decide_eq_false (by have:=xj;omega)
    rw[e1,this];exact⟨_,rfl⟩
  ·rw[if_neg h1]
   have:decide (wc<v)=true:=by
    have h1:¬v≤18446744073709551615:=h1
    exact decide_eq_true (by have:=xj;omega)
   rw[this];exact⟨_,rfl⟩
end Go.DN

set_option linter.unusedVariables false
set_option linter.unusedSimpArgs false
namespace Go.DN
open Go.AM
theorem OR {s:ByteArray}(h:nw kq s=true):s.data.toList.all D8=true:=by
 rw[cz]
 intro c hc
 obtain⟨i,hi,rfl⟩:=List.getElem_of_mem hc
 have hs:i<s.size:=by simpa using hi
 have:=jN.1 h i hs
 unfold ch at this
 have h4:s[i]?=some s[i]:=getElem?_pos ..
 rw[h4] at this
 exact this
def uK (s:ByteArray):Bool:=nw kq s&&(decide (s.size=1)||!decide (ch s 0=48))
end Go.DN

set_option linter.unusedVariables false
set_option linter.unusedSimpArgs false
namespace Go.DN
open Go.AM
theorem BV {s:ByteArray}{i j:Nat}(hj:j≤s.size):(s.extract i j).size=j-i:=by
 rw[ByteArray.size_extract];omega
theorem Ug {s:ByteArray}{i j k:Nat}(hj:j≤s.size) (hk:i+k<j):ch (s.extract i j) k=ch s (i+k):=by
 have h1:k<(s.extract i j).size:=by rw[BV hj];omega
 have h2:i+k<s.size:=by omega
 unfold ch
 have e1:(s.extract i j)[k]?=some (s.extract i j)[k]:=getElem?_pos ..
 have e2:s[i+k]?=some s[i+k]:=getElem?_pos ..
 rw[e1,e2]
 have:(s.extract i j)[k]=s[i+k]:=ByteArray.getElem_extract ..
 simp only[this]
def nc (s:ByteArray) (j:Nat):Nat⊕Nat:=
 if cO (ch s j)=true then
  if kq (ch s j)=true then
   if uK (s.extract j (eb s cO j))=true then
    if wc<vl 0 (s.extract j (eb s cO j)).data.toList then .inr 4 else .inl (eb s cO j)
   else .inr 7
  else .inl (eb s cO j)
 else if yN (ch s j)=true then .inl (j+1) else .inr 7
theorem D4 {s:ByteArray}{j k:Nat}(hj:j<s.size) (h:nc s j=.inl k):j<k∧k≤s.size:=by
 have hsc:cO (ch s j)=true→j<eb s cO j∧eb s cO j≤s.size:=fun hl=>by
  have h1:=sa hj hl
  have h2:=sc (s:=s) (p:=cO) (j+1)
  exact⟨by omega,rZ (by omega)⟩
 unfold nc at h
 split at h
 ·rename_i hl
  split at h
  ·split at h
   ·split at h
    ·cases h
    ·cases h;exact hsc hl
   ·cases h
  ·cases h;exact hsc hl
 ·split at h
  ·cases h;omega
  ·cases h
theorem Pa {s:ByteArray}{j e:Nat}(h:nc s j=.inr e):e=7∨e=4:=by
 unfold nc at h
 split at h
 ·split at h
  ·split at h
   ·split at h
    ·cases h;exact .inr rfl
    ·cases h
   ·cases h;exact .inl rfl
  ·cases h
 ·split at h
  ·cases h
  ·cases h;exact .inl rfl
theorem Ii {c:Nat}(h:kq c=true):cO c=true:=by unfold cO;rw[h,Bool.or_true]
theorem Rn {c:Nat}(h:kq c=true):pJ c=false:=by
 simp only[kq,decide_eq_true_eq] at h
 simp only[pJ,bc,decide_eq_false_iff_not];omega
theorem VT {s:ByteArray}(hs:s.size≤Mx){fu:Nat}(hf:s.size<fu){i:Nat}(hi:i≤s.size):F.lU fu s (i:Int)=some (s.extract i (eb s cO i),s,(eb s cO i:Int)):=by
 unfold F.lU
 rw[vA hs (body:=F.qj fu) (f:=F.kQ fu) (p:=cO) (PF fu) rfl fu i (by omega) hi]
 have h1:=sc (s:=s) (p:=cO) i
 have h2:=rZ (p:=cO) hi
 simp only[aa]
 rw[lN ⟨by omega,by omega,by omega⟩]
 rfl
theorem VS {s:ByteArray}(hs:s.size≤Mx){fu:Nat}(hf:s.size<fu){i:Nat}(hi:i≤s.size):F.lT fu s (i:Int)=some (s.extract i (eb s cO i),s,(eb s cO i:Int)):=by
 unfold F.lT
 rw[vA hs (body:=F.qi fu) (f:=F.kP fu) (p:=cO) (PE fu) rfl fu i (by omega) hi]
 have h1:=sc (s:=s) (p:=cO) i
 have h2:=rZ (p:=cO) hi
 simp only[aa]
 rw[lN ⟨by omega,by omega,by omega⟩]
 rfl
theorem VU {s:ByteArray}(hs:s.size≤Mx){fu:Nat}(hf:s.size<fu){i:Nat}(hi:i≤s.size):F.nh fu s (i:Int)=some (s.extract i (eb s pS i),s,(eb s pS i:Int)):=by
 unfold F.nh
 rw[vA hs (body:=F.rM fu) (f:=F.jC fu) (p:=pS) (Ms fu) rfl fu i (by omega) hi]
 have h1:=sc (s:=s) (p:=pS) i
 have h2:=rZ (p:=pS) hi
 simp only[aa]
 rw[lN ⟨by omega,by omega,by omega⟩]
 rfl
theorem Nz {t:ByteArray}(h0:0<t.size):t.data.toList≠[]:=fun h=>by
 have e:t.data.toList.length=t.size:=by rw[Array.length_toList];rfl
 rw[h] at e
 simp at e
 omega
theorem Oo {t:ByteArray}(ht:t.size≤Mx) (m2:Int) (r10:ByteArray) (r11:Int){fu:Nat}(hf:t.size<fu) (f0:Nat):
  aX (F.lV f0 m2 t r10 r11) fu 0=some (if nw kq t=true then .cD () else .ret (.inr ((7,m2),(r10,r11)))):=by
 exact Cg ht (p:=kq) (fun i=>(i:Int)) _ _ (fun i hi=>by
  obtain⟨c,h1,h2⟩:=nM hi
  have hdc:decide ((i:Int)<(t.size:Int))=true:=by simp;omega
  simp only[F.lV,hdc,cond_true,h1,aa,p9,h2]
  rw[wr hi ht]
  cases kq (ch t i) <;> simp) (by simp[F.lV]) fu 0 (by omega) (by omega) (fun k hk=>by omega)
theorem JU {s:ByteArray}(hs:s.size≤Mx){fu:Nat}(hf:s.size<fu){j:Nat}(hj:j<s.size):
  ∃p,F.lW fu s (j:Int)=some (match nc s j with | .inl k=>.inl ((⟨s.extract j k,(j:Int)⟩:ah),s,(k:Int)) | .inr e=>.inr (((e:Int),(j:Int)),p)):=by
 obtain⟨c,h1,h2⟩:=nM hj
 unfold F.lW
 simp only[h1,aa,oH,p9,h2]
 by_cases hL:pJ (ch s j)=true
 ·have hLD:cO (ch s j)=true:=by unfold cO;rw[hL,Bool.true_or]
  have hD:¬kq (ch s j)=true:=fun h=>by rw[Rn h] at hL;cases hL
  have e:nc s j=.inl (eb s cO j):=by unfold nc;rw[if_pos hLD,if_neg hD]
  rw[e,hL]
  simp only[cond_true,VT hs hf (Nat.le_of_lt hj),aa]
  exact⟨(s,0),trivial⟩
 ·rw[Bool.not_eq_true] at hL
  simp only[hL,cond_false]
  by_cases hD:kq (ch s j)=true
  ·have hLD:=Ii hD
   have hk1:j<eb s cO j:=by
    have h1:=sa hj hLD
    have h2:=sc (s:=s) (p:=cO) (j+1)
    omega
   have hk2:eb s cO j≤s.size:=rZ (by omega)
   simp only[hD,cond_true,VS hs hf (Nat.le_of_lt hj),aa]
   generalize ht:s.extract j (eb s cO j)=t
   have ht1:t.size=eb s cO j-j:=by rw[←ht,BV hk2]
   have ht0:0<t.size:=by omega
   have htm:t.size≤Mx:=by omega
   have e0:nc s j=(if uK t=true then(if wc<vl 0 t.data.toList then .inr 4 else .inl (eb s cO j)) else .inr 7):=by
    unfold nc;rw[if_pos hLD,if_pos hD,ht]
   rw[Oo htm _ _ _ (by omega)]
   obtain⟨d,g1,g2⟩:=nM ht0
   have g1:lF t 0=some d:=g1
   by_cases ha:nw kq t=true
   ·rw[if_pos ha]
    have e1:(((d.toNat:Nat):Int)==48)=decide (ch t 0=48):=by rw[←g2];exact qo d.toNat 48
    have e2:decide ((t.size:Int)>1)=!decide (t.size=1):=by
     by_cases h:t.size=1
     ·rw[decide_eq_true h];exact decide_eq_false (by omega)
     ·rw[decide_eq_false h];exact decide_eq_true (by omega)
    have e3:uK t=(decide (t.size=1)||!decide (ch t 0=48)):=by unfold uK;rw[ha,iL]
    simp only[bx,g1,aa,e1,e2]
    rw[e0,e3]
    have e4:cond (decide (ch t 0=48)) (some (!decide (t.size=1))) (some false)=some (!(decide (t.size=1)||!decide (ch t 0=48))):=by
     cases decide (ch t 0=48) <;> cases decide (t.size=1) <;> rfl
    rw[e4]
    cases decide (t.size=1)||!decide (ch t 0=48) with
    | false=>exact⟨_,rfl⟩
    | true=>
     obtain⟨v,hv⟩:=F0 (s:=t) (by simpa[Mx] using htm) (OR ha) (Nz ht0)
     simp only[aa,de,cond_false,hv,if_true]
     by_cases hB:wc<vl 0 t.data.toList
     ·rw[decide_eq_true hB,if_pos hB];exact⟨_,rfl⟩
     ·rw[decide_eq_false hB,if_neg hB]
      refine⟨(s,0),?_⟩
      show some (Sum.inl ((⟨t,(j:Int)⟩:ah),s,((eb s cO j:Nat):Int)))=some (Sum.inl ((⟨s.extract j (eb s cO j),(j:Int)⟩:ah),s,((eb s cO j:Nat):Int)))
      rw[ht]
   ·rw[if_neg ha]
    have:uK t=false:=by unfold uK;rw[Bool.not_eq_true] at ha;rw[ha,Bool.false_and]
    rw[e0,this]
    exact⟨_,rfl⟩
  ·rw[Bool.not_eq_true] at hD
   simp only[hD,cond_false]
   have hLD:¬cO (ch s j)=true:=by unfold cO;rw[hL,hD];exact fun h=>by cases h
   have e0:nc s j=(if yN (ch s j)=true then .inl (j+1) else .inr 7):=by unfold nc;rw[if_neg hLD]
   rw[e0]
   have hw:=wr hj hs
   have hck:dA ((0:Int)≤(j:Int)∧(j:Int)≤((j+1:Nat):Int)∧((j+1:Nat):Int)≤(s.size:Int))=some ():=lN ⟨by omega,by omega,by omega⟩
   generalize ch s j=c at hL hD
   by_cases hS:yN c=true
   ·rw[if_pos hS]
    refine⟨(s,0),?_⟩
    simp only[hw,hck,aa]
    simp only[yN,fI,bf,List.not_mem_nil,or_false] at hS
    rcases hS with h | h | h | h | h | h | h | h | h | h | h | h | h <;> subst h <;> rfl
   ·rw[if_neg hS]
    refine⟨(s,(j:Int)),?_⟩
    simp only[yN,fI,bf,List.not_mem_nil,or_false,not_or] at hS
    have q:∀k:Nat,c≠k→((c:Int)==(k:Int))=false:=fun k h=>by rw[qo];exact decide_eq_false h
    have q1:((c:Int)==40)=false:=q 40 hS.1
    have q2:((c:Int)==41)=false:=q 41 hS.2.1
    have q3:((c:Int)==91)=false:=q 91 hS.2.2.1
    have q4:((c:Int)==93)=false:=q 93 hS.2.2.2.1
    have q5:((c:Int)==123)=false:=q 123 hS.2.2.2.2.1
    have q6:((c:Int)==125)=false:=q 125 hS.2.2.2.2.2.1
    have q7:((c:Int)==44)=false:=q 44 hS.2.2.2.2.2.2.1
    have q8:((c:Int)==58)=false:=q 58 hS.2.2.2.2.2.2.2.1
    have q9:((c:Int)==61)=false:=q 61 hS.2.2.2.2.2.2.2.2.1
    have q10:((c:Int)==43)=false:=q 43 hS.2.2.2.2.2.2.2.2.2.1
    have q11:((c:Int)==45)=false:=q 45 hS.2.2.2.2.2.2.2.2.2.2.1
    have q12:((c:Int)==42)=false:=q 42 hS.2.2.2.2.2.2.2.2.2.2.2.1
    have q13:((c:Int)==59)=false:=q 59 hS.2.2.2.2.2.2.2.2.2.2.2.2
    simp only[q1,q2,q3,q4,q5,q6,q7,q8,q9,q10,q11,q12,q13,cond_false,aa]
    rfl
end Go.DN

set_option linter.unusedVariables false
set_option linter.unusedSimpArgs false
namespace Go.DN
open Go.AM
inductive Bl (s:ByteArray):Nat→Nat→Prop
 | stop {i:Nat}(h:i<s.size→vJ (ch s i)=false∧ch s i≠35):Bl s i i
 | blank {i j:Nat}(h:i<s.size) (hb:vJ (ch s i)=true) (k:Bl s (i+1) j):Bl s i j
 | rem {i j:Nat}(h:i<s.size) (hb:ch s i=35) (k:Bl s (eb s pS i) j):Bl s i j
theorem Ni {s:ByteArray}{i:Nat}(h:i<s.size) (hb:ch s i=35):i<eb s pS i∧eb s pS i≤s.size:=by
 have h1:=sa (p:=pS) h (by rw[hb];rfl)
 have h2:=sc (s:=s) (p:=pS) (i+1)
 exact⟨by omega,rZ (by omega)⟩
theorem Bl.facts {s:ByteArray}{i j:Nat}(h:Bl s i j):i≤j∧(i≤s.size→j≤s.size)∧(j<s.size→vJ (ch s j)=false∧ch s j≠35):=by
 induction h with
 | stop h=>exact⟨aq _,id,h⟩
 | blank h hb k ih=>exact⟨by omega,fun _=>ih.2.1 (by omega),ih.2.2⟩
 | rem h hb k ih=>have:=Ni h hb;exact⟨by omega,fun _=>ih.2.1 (by omega),ih.2.2⟩
abbrev EV:=List ah×dQ
inductive Lex (s:ByteArray):Nat→List ah→EV→Prop
 | fin {out:List ah}:Lex s s.size out (out,⟨0,0⟩)
 | bad {j e:Nat}{out:List ah}(h:j<s.size) (ht:nc s j=.inr e):Lex s j out ([],⟨(e:Int),(j:Int)⟩)
 | tok {j k j':Nat}{out:List ah}{r:EV}(h:j<s.size) (ht:nc s j=.inl k) (hb:Bl s k j') (hl:Lex s j' (out++[(⟨s.extract j k,(j:Int)⟩:ah)]) r):Lex s j out r
theorem Jr {s:ByteArray}(hs:s.size≤Mx){f0:Nat}(hf0:s.size<f0){i j:Nat}(h:Bl s i j):∀fu:Nat,i≤s.size→s.size-i<fu→
  ∃e,aX (F.gC f0) fu (s,(i:Int))=some e∧(e=.cD (s,(j:Int))∨e=.ret (s,(j:Int))):=by
 induction h with
 | stop h=>
  rename_i i
  intro fu hi hf
  obtain⟨f,rfl⟩:∃f,fu=f+1:=⟨fu-1,by omega⟩
  by_cases hlt:i<s.size
  ·obtain⟨hb,hr⟩:=h hlt
   obtain⟨c,h1,h2⟩:=nM hlt
   have hd:decide ((i:Int)<(s.size:Int))=true:=by simp;omega
   simp only[vJ,bc,decide_eq_false_iff_not] at hb
   have q:∀k:Nat,ch s i≠k→(((c.toNat:Nat):Int)==(k:Int))=false:=fun k h=>by rw[qo,h2];exact decide_eq_false h
   have q1:(((c.toNat:Nat):Int)==32)=false:=q 32 hb.1
   have q2:(((c.toNat:Nat):Int)==9)=false:=q 9 hb.2.1
   have q3:(((c.toNat:Nat):Int)==10)=false:=q 10 hb.2.2.1
   have q4:(((c.toNat:Nat):Int)==13)=false:=q 13 hb.2.2.2
   have q5:(((c.toNat:Nat):Int)==35)=false:=q 35 hr
   refine⟨.ret (s,(i:Int)),?_,.inr rfl⟩
   simp only[aX,F.gC,hd,cond_true,h1,aa,q1,q2,q3,q4,q5,cond_false,bx]
  ·have hd:decide ((i:Int)<(s.size:Int))=false:=by simp;omega
   refine⟨.cD (s,(i:Int)),?_,.inl rfl⟩
   simp only[aX,F.gC,hd,cond_false]
 | blank h hb k ih=>
  rename_i i j
  intro fu hi hf
  obtain⟨f,rfl⟩:∃f,fu=f+1:=⟨fu-1,by omega⟩
  obtain⟨c,h1,h2⟩:=nM h
  have hd:decide ((i:Int)<(s.size:Int))=true:=by simp;omega
  have hw:=wr h hs
  obtain⟨e,h3,h4⟩:=ih f (by omega) (by omega)
  refine⟨e,?_,h4⟩
  have q:∀k:Nat,(((c.toNat:Nat):Int)==(k:Int))=decide (ch s i=k):=fun k=>by rw[qo,h2]
  have q1:(((c.toNat:Nat):Int)==32)=decide (ch s i=32):=q 32
  have q2:(((c.toNat:Nat):Int)==9)=decide (ch s i=9):=q 9
  have q3:(((c.toNat:Nat):Int)==10)=decide (ch s i=10):=q 10
  have q4:(((c.toNat:Nat):Int)==13)=decide (ch s i=13):=q 13
  have big:(cond (decide (ch s i=32)) (some (decide (ch s i=32))) ((cond (decide (ch s i=9)) (some (decide (ch s i=9))) ((cond (decide (ch s i=10)) (some (decide (ch s i=10))) (some (decide (ch s i=13)))).bind fun (v6:Bool)=>some v6)).bind fun (v7:Bool)=>some v7))=some true:=by
   simp only[vJ] at hb
   revert hb
   cases decide (ch s i=32) <;> cases decide (ch s i=9) <;> cases decide (ch s i=10) <;> cases decide (ch s i=13) <;> intro hb <;> first | rfl | cases hb
  simp only[aX,F.gC,hd,cond_true,h1,aa,q1,q2,q3,q4]
  rw[big]
  simp only[aa,cond_true,bx,hw]
  exact h3
 | rem h hb k ih=>
  rename_i i j
  intro fu hi hf
  obtain⟨f,rfl⟩:∃f,fu=f+1:=⟨fu-1,by omega⟩
  obtain⟨c,h1,h2⟩:=nM h
  have hd:decide ((i:Int)<(s.size:Int))=true:=by simp;omega
  have hg:=Ni h hb
  obtain⟨e,h3,h4⟩:=ih f (by omega) (by omega)
  refine⟨e,?_,h4⟩
  have hc:c.toNat=35:=h2.trans hb
  simp only[aX,F.gC,hd,cond_true,h1,aa,hc]
  simp only[VU hs hf0 hi,aa]
  exact h3
theorem FO {s:ByteArray}(hs:s.size≤Mx){fu:Nat}(hf:s.size<fu){i j:Nat}(hi:i≤s.size) (h:Bl s i j):F.je fu s (i:Int)=some (s,(j:Int)):=by
 unfold F.je
 obtain⟨e,h1,h2⟩:=Jr hs hf h fu hi (by omega)
 rw[h1]
 rcases h2 with rfl | rfl <;> rfl
theorem Uw {out:List ah}{x:ah}(h:out.length≤Mx):dA (out.length+[x].length≤maxLen∧(out.length+[x].length)*24≤140737488355328)=some ():=by
 refine lN ⟨?_,?_⟩
 ·simp only[cY,maxLen,Mx] at *;omega
 ·simp only[cY,Mx] at *;omega
theorem Jt (fu:Nat) (e a:Int) (out:List ah):F.lJ fu e a out=some (e,a,if e=0 then out else[]):=by
 unfold F.lJ
 by_cases h:e=0
 ·subst h;rfl
 ·have:(e !=0)=true:=by simpa using h
  rw[this,if_neg h];rfl
theorem MQ {s:ByteArray}(hs:s.size≤Mx){f0:Nat}(hf0:s.size<f0){j:Nat}{out:List ah}{r:EV}(h:Lex s j out r):∀fu:Nat,j≤s.size→s.size-j<fu→out.length≤j→
  ∃e,aX (F.mI f0 s) fu (s,(j:Int),out)=some e∧((∃a b,e=.cD (a,b,r.1)∧r.2=⟨0,0⟩)∨e=.ret (.inl r)):=by
 induction h with
 | fin=>
  intro fu hj hf ho
  obtain⟨f,rfl⟩:∃f,fu=f+1:=⟨fu-1,by omega⟩
  have hd:decide ((s.size:Int)<(s.size:Int))=false:=by simp
  refine⟨_,?_,.inl ⟨s,(s.size:Int),rfl,rfl⟩⟩
  simp only[aX,F.mI,hd,cond_false]
 | bad h ht=>
  rename_i j e out
  intro fu hj hf ho
  obtain⟨f,rfl⟩:∃f,fu=f+1:=⟨fu-1,by omega⟩
  have hd:decide ((j:Int)<(s.size:Int))=true:=by simp;omega
  obtain⟨p,hp⟩:=JU hs hf0 h
  rw[ht] at hp
  refine⟨_,?_,.inr rfl⟩
  have he:(e:Int)≠0:=by rcases Pa ht with rfl | rfl <;> decide
  simp only[aX,F.mI,hd,cond_true,lb,nv,aD,hp,aa,Jt,if_neg he]
 | tok h ht hb hl ih=>
  rename_i j k j' out r
  intro fu hj hf ho
  obtain⟨f,rfl⟩:∃f,fu=f+1:=⟨fu-1,by omega⟩
  have hd:decide ((j:Int)<(s.size:Int))=true:=by simp;omega
  obtain⟨p,hp⟩:=JU hs hf0 h
  rw[ht] at hp
  have hk:=D4 h ht
  have hf:=hb.facts
  obtain⟨e,h1,h2⟩:=ih f (hf.2.1 hk.2) (by omega) (by simp;omega)
  refine⟨e,?_,h2⟩
  have hc:=Uw (out:=out) (x:=(⟨s.extract j k,(j:Int)⟩:ah)) (by omega)
  simp only[aX,F.mI,hd,cond_true,lb,nv,aD,hp,aa,hc,FO hs hf0 hk.2 hb]
  exact h1
theorem Jw {s:ByteArray}(hs:s.size≤Mx){fu:Nat}(hf:s.size<fu){j:Nat}{r:EV}(hb:Bl s 0 j) (h:Lex s j [] r):F.mn fu s=some r:=by
 have hd:decide ((s.size:Int)>65536)=false:=by
  have:s.size≤65536:=hs
  exact decide_eq_false (by omega)
 have hb0:=FO hs hf (cv _) hb
 rw[show((0:Nat):Int)=0 from rfl] at hb0
 have hf':=hb.facts
 obtain⟨e,h1,h2⟩:=MQ hs hf h fu (hf'.2.1 (cv _)) (by omega) (by simp)
 unfold F.mn GV F.tB
 simp only[hd,cond_false,hb0,aa,h1]
 rcases h2 with ⟨a,b,rfl,h3⟩ | rfl
 ·obtain⟨r1,r2⟩:=r
  cases h3
  simp only[bx,lb,nv,aa,Jt]
  rfl
 ·rfl
theorem RJ {s:ByteArray}{j:Nat}{out:List ah}{r:EV}(h:Lex s j out r):out.length≤j→j≤s.size→r.1.length≤s.size:=by
 induction h with
 | fin=>exact fun h _=>h
 | bad h ht=>exact fun _ _=>cv _
 | tok h ht hb hl ih=>
  intro ho hj
  have hk:=D4 h ht
  have hf:=hb.facts
  exact ih (by simp;omega) (hf.2.1 hk.2)
theorem Pf (s:ByteArray):(s==s)=true:=by
 show(s.data==s.data)=true
 simp
end Go.DN
