/-
  Text, blanks: tokens that are put behind each other, with blanks and remarks between them, are the tokens of that.
-/
import Derived.Test.YtaobkpnecfcefaaDoorUrD
set_option linter.unusedVariables false
set_option linter.unusedSimpArgs false
namespace Go.DN
open Go.AM
def LTok (t:ByteArray):Prop:=0<t.size∧t.size≤Mx∧((allB isLD t=true∧(isD (ch t 0)=true→numl t=true∧vl 0 t.data.toList≤Big))∨(t.size=1∧isLD (ch t 0)=false∧isS (ch t 0)=true))
theorem scanP_all {s:ByteArray}{p:Nat→Bool}:∀(m i:Nat),m=s.size-i→∀k,i≤k→k<scanP s p i→p (ch s k)=true
 | 0,i,h,k,h1,h2=>by rw[scanP_no (s:=s) (p:=p) (i:=i) (fun h'=>by omega)] at h2;omega
 | m+1,i,h,k,h1,h2=>by
  by_cases hp:p (ch s i)=true
  ·rw[scanP_go (by omega) hp] at h2
   by_cases e:k=i
   ·subst e;exact hp
   ·exact scanP_all (s:=s) (p:=p) m (i+1) (by omega) k (by omega) h2
  ·rw[scanP_no (fun _=>by simpa using hp)] at h2;omega
theorem scanP_eq {s:ByteArray}{p:Nat→Bool}:∀(n q:Nat),(∀i,i<n→p (ch s (q+i))=true)→q+n≤s.size→(q+n<s.size→p (ch s (q+n))=false)→scanP s p q=q+n
 | 0,q,_,_,h=>scanP_no h
 | n+1,q,h1,h2,h3=>by
  have h0:p (ch s q)=true:=h1 0 (by omega)
  rw[scanP_go (by omega) h0]
  have:=scanP_eq (s:=s) (p:=p) n (q+1) (fun i hi=>by have:=h1 (i+1) (by omega);rw[show q+1+i=q+(i+1) by omega];exact this) (by omega) (fun h=>by rw[show q+1+n=q+(n+1) by omega] at h⊢;exact h3 h)
  rw[this];omega
theorem tokA_ltok {s:ByteArray}(hs:s.size≤Mx){j k:Nat}(hj:j<s.size) (h:tokA s j=.inl k):LTok (s.extract j k):=by
 have hk:=tokA_gt hj h
 have hsz:(s.extract j k).size=k-j:=ext_size hk.2
 have hc:ch (s.extract j k) 0=ch s j:=ext_ch hk.2 (by omega)
 have ho:=tokA_ok hs hj h
 refine⟨ho.ne,ho.le,?_⟩
 unfold tokA at h
 split at h
 ·rename_i hl
  left
  have hkk:k=scanP s isLD j:=by
   split at h
   ·split at h
    ·split at h
     ·cases h
     ·cases h;rfl
    ·cases h
   ·cases h;rfl
  refine⟨allB_iff.2 fun i hi=>?_,fun hd=>?_⟩
  ·rw[ext_ch hk.2 (by omega)]
   exact scanP_all (s:=s) (p:=isLD) _ j rfl (j+i) (by omega) (by omega)
  ·have hd':isD (ch s j)=true:=by rw[←hc];exact hd
   rw[if_pos hd'] at h
   split at h
   ·rename_i hn
    rw[hkk]
    exact⟨hn,by have:=(ho.num hd).2;rw[hkk] at this;exact this⟩
   ·cases h
 ·rename_i hl
  right
  split at h
  ·rename_i hS
   cases h
   refine⟨by omega,?_,?_⟩
   ·rw[hc];simpa using hl
   ·rw[hc];exact hS
  ·cases h
theorem lex_ltok {s:ByteArray}(hs:s.size≤Mx){j:Nat}{out:List SToken}{r:TRes}(h:Lex s j out r):(∀t∈out,LTok t.Text)→∀t∈r.1,LTok t.Text:=by
 induction h with
 | fin=>exact fun h=>h
 | bad h ht=>exact fun _ t h=>by cases h
 | tok h ht hb hl ih=>
  intro ho
  refine ih fun t hm=>?_
  rcases List.mem_append.1 hm with hm | hm
  ·exact ho t hm
  ·simp at hm;subst hm;exact tokA_ltok hs h ht
theorem ch_list (s:ByteArray) (i:Nat):ch s i=(s.data.toList[i]?.map UInt8.toNat).getD 0:=by
 unfold ch
 by_cases h:i<s.size
 ·have h1:s[i]?=some s[i]:=getElem?_pos ..
  have h2:i<s.data.toList.length:=by simpa using h
  have h3:s.data.toList[i]?=some s.data.toList[i]:=List.getElem?_eq_getElem h2
  rw[h1,h3]
  rfl
 ·have h2:¬i<s.data.toList.length:=by simpa using h
  have h1:s[i]?=none:=by rw[getElem?_neg];exact h
  have h3:s.data.toList[i]?=none:=List.getElem?_eq_none (by omega)
  rw[h1,h3]
  rfl
def At (t:ByteArray) (p:Nat) (m:List UInt8):Prop:=∃a b,t.data.toList=a++(m++b)∧a.length=p
theorem At.size {t:ByteArray}{p:Nat}{m:List UInt8}(h:At t p m):p+m.length≤t.size:=by
 obtain⟨a,b,e,rfl⟩:=h
 have:t.size=t.data.toList.length:=(Array.length_toList (xs:=t.data)).symm
 rw[this,e];simp
theorem At.ch {t s:ByteArray}{p:Nat}(h:At t p s.data.toList){i:Nat}(hi:i<s.size):Go.DN.ch t (p+i)=Go.DN.ch s i:=by
 obtain⟨a,b,e,rfl⟩:=h
 have hs:i<s.data.toList.length:=by simpa using hi
 rw[ch_list,ch_list,e,List.getElem?_append_right (by omega),show a.length+i-a.length=i by omega,List.getElem?_append_left hs]
theorem At.ext {t s:ByteArray}{p:Nat}(h:At t p s.data.toList):t.extract p (p+s.size)=s:=by
 have hz:=h.size
 have hl:s.data.toList.length=s.size:=Array.length_toList
 obtain⟨a,b,e,rfl⟩:=h
 refine toList_ext ?_
 rw[toListD,toListD]
 have:(t.extract a.length (a.length+s.size)).data.toList=(t.data.toList.drop a.length).take s.size:=by
  simp[ByteArray.data_extract]
 rw[this,e,List.drop_left,←hl,List.take_left]
 simp
theorem At.left {t:ByteArray}{p:Nat}{m n:List UInt8}(h:At t p (m++n)):At t p m:=by
 obtain⟨a,b,e,h⟩:=h
 exact⟨a,n++b,by rw[e];simp,h⟩
theorem At.right {t:ByteArray}{p:Nat}{m n:List UInt8}(h:At t p (m++n)):At t (p+m.length) n:=by
 obtain⟨a,b,e,rfl⟩:=h
 exact⟨a++m,b,by rw[e];simp,by simp⟩
theorem At.get {t:ByteArray}{p:Nat}{m:List UInt8}(h:At t p m){i:Nat}{c:UInt8}(hi:m[i]?=some c):Go.DN.ch t (p+i)=c.toNat:=by
 obtain⟨a,b,e,rfl⟩:=h
 have hl:i<m.length:=get_lt hi
 rw[ch_list,e,List.getElem?_append_right (by omega),show a.length+i-a.length=i by omega,List.getElem?_append_left hl,hi]
 rfl
theorem tokA_at {t s:ByteArray}{p:Nat}(hs:LTok s) (h:At t p s.data.toList) (hn:p+s.size<t.size→isLD (ch t (p+s.size))=false):tokA t p=.inl (p+s.size):=by
 have hz:p+s.size≤t.size:=by have:=h.size;have hl:s.data.toList.length=s.size:=Array.length_toList;omega
 have h0:ch t p=ch s 0:=by have:=h.ch (i:=0) hs.1;simpa using this
 unfold tokA
 rw[h0]
 rcases hs.2.2 with ⟨h1,h2⟩ | ⟨h1,h2,h3⟩
 ·have hsc:scanP t isLD p=p+s.size:=scanP_eq s.size p (fun i hi=>by rw[h.ch hi];exact allB_iff.1 h1 i hi) hz hn
  rw[if_pos (allB_iff.1 h1 0 hs.1),hsc,h.ext]
  by_cases hd:isD (ch s 0)=true
  ·obtain⟨h3,h4⟩:=h2 hd
   rw[if_pos hd,if_pos h3,if_neg (by omega)]
  ·rw[if_neg hd]
 ·rw[if_neg (by rw[h2];decide),if_pos h3,h1]
theorem ltok_first {s:ByteArray}(hs:LTok s):isB (ch s 0)=false∧ch s 0≠35:=by
 rcases hs.2.2 with ⟨h1,_⟩ | ⟨_,_,h3⟩
 ·have:=allB_iff.1 h1 0 hs.1
  revert this
  generalize ch s 0=c
  unfold isLD isL isD isB
  simp only[Bool.or_eq_true,decide_eq_true_eq,Bool.or_eq_false_iff,decide_eq_false_iff_not]
  omega
 ·revert h3
  generalize ch s 0=c
  unfold isS isB
  simp only[List.contains_cons,List.contains_nil,Bool.or_eq_true,beq_iff_eq,Bool.or_eq_false_iff,decide_eq_false_iff_not,Bool.or_false]
  omega
def Blk4 (b:ByteArray):Prop:=b=ByteArray.mk #[10]∨b=ByteArray.mk #[32,35,32,105,110,32,0,32,59,32,114,101,109,97,114,107,10]∨b=ByteArray.mk #[9,13,32,32]∨b=ByteArray.mk #[32]
theorem bl_bytes {t:ByteArray}:∀(n q r:Nat),(∀i,i<n→isB (ch t (q+i))=true)→q+n≤t.size→Bl t (q+n) r→Bl t q r
 | 0,q,r,_,_,h=>h
 | n+1,q,r,h1,h2,h=>.blank (by omega) (h1 0 (by omega)) (bl_bytes n (q+1) r (fun i hi=>by have:=h1 (i+1) (by omega);rw[show q+1+i=q+(i+1) by omega];exact this) (by omega) (by rw[show q+1+n=q+(n+1) by omega];exact h))
theorem bl_at {t b:ByteArray}{q r:Nat}(hb:Blk4 b) (h:At t q b.data.toList) (hr:Bl t (q+b.size) r):Bl t q r∧(isLD (ch t q)=false)∧q+b.size≤t.size∧0<b.size:=by
 have hz:q+b.size≤t.size:=by have:=h.size;have hl:b.data.toList.length=b.size:=Array.length_toList;omega
 rcases hb with rfl | rfl | rfl | rfl
 ·have e:=h.get (i:=0) (c:=10) rfl
  refine⟨bl_bytes 1 q r (fun i hi=>?_) hz hr,by rw[show q=q+0 from rfl,e];decide,hz,by decide⟩
  match i,hi with
  | 0,_=>rw[e];decide
 ·have g:∀i c,[(32:UInt8),35,32,105,110,32,0,32,59,32,114,101,109,97,114,107,10][i]?=some c→ch t (q+i)=c.toNat:=fun i c hc=>h.get hc
  have e0:=g 0 32 rfl
  have e1:=g 1 35 rfl
  have e16:=g 16 10 rfl
  have hz':q+17≤t.size:=hz
  have hr':Bl t (q+17) r:=hr
  refine⟨?_,by rw[show q=q+0 from rfl,e0];decide,hz,by decide⟩
  refine .blank (by omega) (by rw[show q=q+0 from rfl,e0];decide) (.rem (by omega) (by rw[e1];rfl) ?_)
  have hsc:scanP t notNL (q+1)=q+1+15:=scanP_eq 15 (q+1) (fun i hi=>by
   rw[show q+1+i=q+(i+1) by omega]
   have hall:∀j,j<15→∃c,[(32:UInt8),35,32,105,110,32,0,32,59,32,114,101,109,97,114,107,10][j+1]?=some c∧notNL c.toNat=true:=by
    intro j hj
    match j,hj with
    | 0,_ | 1,_ | 2,_ | 3,_ | 4,_ | 5,_ | 6,_ | 7,_ | 8,_ | 9,_ | 10,_ | 11,_ | 12,_ | 13,_ | 14,_=>exact⟨_,rfl,by decide⟩
   obtain⟨c,hc1,hc2⟩:=hall i hi
   rw[g (i+1) c hc1];exact hc2) (by omega) (fun _=>by rw[show q+1+15=q+16 by omega,e16];decide)
  rw[hsc]
  refine .blank (by omega) (by rw[show q+1+15=q+16 by omega,e16];decide) ?_
  rw[show q+1+15+1=q+17 by omega]
  exact hr'
 ·have g:∀i c,[(9:UInt8),13,32,32][i]?=some c→ch t (q+i)=c.toNat:=fun i c hc=>h.get hc
  refine⟨bl_bytes 4 q r (fun i hi=>?_) hz hr,by rw[show q=q+0 from rfl,g 0 9 rfl];decide,hz,by decide⟩
  match i,hi with
  | 0,_=>rw[g 0 9 rfl];decide
  | 1,_=>rw[g 1 13 rfl];decide
  | 2,_=>rw[g 2 32 rfl];decide
  | 3,_=>rw[g 3 32 rfl];decide
 ·have e:=h.get (i:=0) (c:=32) rfl
  refine⟨bl_bytes 1 q r (fun i hi=>?_) hz hr,by rw[show q=q+0 from rfl,e];decide,hz,by decide⟩
  match i,hi with
  | 0,_=>rw[e];decide
def catB:List (ByteArray×ByteArray)→List UInt8
 | []=>[]
 | (s,b)::r=>s.data.toList++(b.data.toList++catB r)
theorem lex_cat {t:ByteArray}:∀(l:List (ByteArray×ByteArray)) (p:Nat) (out:List SToken),(∀x∈l,LTok x.1∧Blk4 x.2)→At t p (catB l)→p+(catB l).length=t.size→
  Bl t p p∧∃ts:List SToken,Lex t p out (out++ts,⟨0,0⟩)∧ts.map (·.Text)=l.map (·.1)
 | [],p,out,_,h,hz=>by
  have:p=t.size:=by simpa[catB] using hz
  subst this
  exact⟨.stop fun h=>by omega,[],by simpa using Lex.fin,rfl⟩
 | (s,b)::r,p,out,hl,h,hz=>by
  have hs:=(hl _ List.mem_cons_self).1
  have hb:=(hl _ List.mem_cons_self).2
  have hsl:s.data.toList.length=s.size:=Array.length_toList
  have hbl:b.data.toList.length=b.size:=Array.length_toList
  have h1:At t p s.data.toList:=h.left
  have h2:At t (p+s.size) (b.data.toList++catB r):=by have:=h.right;rw[hsl] at this;exact this
  have h3:At t (p+s.size) b.data.toList:=h2.left
  have h4:At t (p+s.size+b.size) (catB r):=by have:=h2.right;rw[hbl] at this;exact this
  have hz2:p+s.size+b.size+(catB r).length=t.size:=by
   have:(catB ((s,b)::r)).length=s.size+(b.size+(catB r).length):=by simp[catB]
   omega
  obtain⟨g1,ts,g2,g3⟩:=lex_cat r (p+s.size+b.size) (out++[⟨s,(p:Int)⟩]) (fun x hx=>hl x (List.mem_cons_of_mem _ hx)) h4 hz2
  obtain⟨k1,k2,k3,k4⟩:=bl_at hb h3 g1
  have h0:ch t p=ch s 0:=by have:=h1.ch (i:=0) hs.1;simpa using this
  have hp:p<t.size:=by have:=hs.1;omega
  refine⟨.stop fun _=>by rw[h0];exact ltok_first hs,⟨s,(p:Int)⟩::ts,?_,by simp[g3]⟩
  have ht:=tokA_at hs h1 fun _=>k2
  refine .tok hp ht k1 ?_
  rw[h1.ext]
  have e:out++⟨s,(p:Int)⟩::ts=(out++[⟨s,(p:Int)⟩])++ts:=by simp
  rw[e]
  exact g2
end Go.DN
