/-
  Orders: the plain law of OrderRuns: two sorted parts merged in place.
-/
import Derived.Test.YtfkigaldejbeiaaFqC
set_option linter.unusedSimpArgs false
set_option linter.unusedVariables false
namespace Go.DN.So
open Go.AM
theorem half {a b:Int}(x y:Nat) (hx:a=(x:Int)) (hy:b=(y:Int)) (h:x+y≤10000):
  IntKind.wrap .i64 (Int.fdiv (IntKind.wrap .u64 (IntKind.wrap .i64 (a+b))) (2^(min (Int.toNat 1) (IntKind.bits .u64))))=(((x+y)/2:Nat):Int):=by
 subst hx hy
 rw[i64 (n:=(x:Int)+(y:Int)) (by omega) (by omega),u64 (by omega) (by omega)]
 have e:(2:Int)^(min (Int.toNat 1) (IntKind.bits .u64))=2:=by decide
 rw[e,Int.fdiv_eq_ediv_of_nonneg _ (by decide),i64 (by omega) (by omega)]
 omega
theorem wG {body:Int×Int→Option ((Int×Int)⊕Int)}(p:Nat→Bool) (i0 j0:Nat)
  (hb:∀i j:Nat,i0≤i→i<j→j≤j0→body ((i:Int),(j:Int))=some (.inl (cond (p ((i+j)/2)) ((((i+j)/2+1:Nat):Int),(j:Int)) ((i:Int),(((i+j)/2:Nat):Int)))))
  (he:∀i:Nat,body ((i:Int),(i:Int))=some (.inr (i:Int))):
  ∀(k i j n:Nat),j-i≤k→i0≤i→i≤j→j≤j0→(i=i0∨p (i-1)=true)→(j=j0∨p j=false)→k<n→
  ∃s:Nat,i0≤s∧s≤j0∧aB body n ((i:Int),(j:Int))=some (s:Int)∧(s=i0∨p (s-1)=true)∧(s=j0∨p s=false)
 | 0,i,j,n,hk,h1,h2,h3,h4,h5,hn=>by
  obtain⟨n,rfl⟩:∃f,n=f+1:=⟨n-1,by omega⟩
  obtain rfl:i=j:=by omega
  exact⟨i,h1,h3,by simp only[aB,he],h4,h5⟩
 | k+1,i,j,n,hk,h1,h2,h3,h4,h5,hn=>by
  obtain⟨n,rfl⟩:∃f,n=f+1:=⟨n-1,by omega⟩
  by_cases hij:i=j
  ·subst hij
   exact⟨i,h1,h3,by simp only[aB,he],h4,h5⟩
  ·simp only[aB,hb i j h1 (by omega) h3]
   cases hp:p ((i+j)/2) with
   | true=>
    simp only[cond_true]
    exact wG p i0 j0 hb he k _ j n (by omega) (by omega) (by omega) h3 (Or.inr (by simpa using hp)) h5 (by omega)
   | false=>
    simp only[cond_false]
    exact wG p i0 j0 hb he k i _ n (by omega) h1 (by omega) (by omega) h4 (Or.inr hp) (by omega)
def sx (l:List af) (i j:Nat):Bool:=match l[i]?,l[j]? with | some x,some y=>g8 x.time y.time | _,_=>false
theorem qT {l:List af}{i j:Nat}{x y:af}(hx:l[i]?=some x) (hy:l[j]?=some y):sx l i j=g8 x.time y.time:=by simp only[sx,hx,hy]
theorem D4 (fu:Nat) (hf:2000<fu){l:List af}(ht:Tm l){i j:Nat}(hi:i<l.length) (hj:j<l.length):
  ∃x y c,idx l (i:Int)=some x∧idx l (j:Int)=some y∧F.jR fu x y=some c∧decide (c<0)=sx l i j:=by
 have h1:=ag hi
 have h2:=ag hj
 obtain⟨c,hc,hd⟩:=Js fu l[i] l[j] (ht _ (dE hi)) hf
 exact⟨_,_,c,bM h1,bM h2,hc,by rw[hd,qT h1 h2]⟩
theorem D9 {α:Type}(b:Bool) (x y:α):(cond b (some x) (some y):Option α)=some (cond b x y):=by cases b <;> rfl
theorem Sq (self:Int→Int→Int→List af→Option (List af)) (fu:Nat) (hf:2000<fu){l:List af}(ht:Tm l) (hl:l.length≤2000){a i0 j0:Nat}(ha:a<l.length) (h1:i0≤j0) (h2:j0≤l.length) (n:Nat) (hn:j0-i0<n):
  ∃s:Nat,i0≤s∧s≤j0∧aB (F.im self fu (a:Int) l) n ((i0:Int),(j0:Int))=some (s:Int)∧(s=i0∨sx l (s-1) a=true)∧(s=j0∨sx l s a=false):=by
 refine wG (fun h=>sx l h a) i0 j0 (fun i j h3 h4 h5=>?_) (fun i=>?_) (j0-i0) i0 j0 n (az _) (az _) h1 (az _) (Or.inl rfl) (Or.inl rfl) hn
 ·have hh:=half i j rfl rfl (by omega)
  obtain⟨x,y,c,e1,e2,e3,e4⟩:=D4 fu hf ht (i:=(i+j)/2) (j:=a) (by omega) ha
  simp only[F.im,PL.du (show(i:Int)<(j:Int) by omega),cond_true,bJ (show(0:Int)≤1 by decide),ae,hh,e1,e2,e3,e4]
  rw[i64 (by omega) (by omega),D9];rfl
 ·simp only[F.im,PL.cA (show ¬(i:Int)<(i:Int) by omega),cond_false]
theorem Sp (self:Int→Int→Int→List af→Option (List af)) (fu:Nat) (hf:2000<fu){l:List af}(ht:Tm l) (hl:l.length≤2000){m i0 j0:Nat}(ha:m<l.length) (h1:i0≤j0) (h2:j0≤l.length) (n:Nat) (hn:j0-i0<n):
  ∃s:Nat,i0≤s∧s≤j0∧aB (F.fU self fu (m:Int) l) n ((i0:Int),(j0:Int))=some (s:Int)∧(s=i0∨sx l m (s-1)=false)∧(s=j0∨sx l m s=true):=by
 have:=wG (body:=F.fU self fu (m:Int) l) (fun h=>!sx l m h) i0 j0 (fun i j h3 h4 h5=>?_) (fun i=>?_) (j0-i0) i0 j0 n (az _) (az _) h1 (az _) (Or.inl rfl) (Or.inl rfl) hn
 ·simpa using this
 ·have hh:=half i j rfl rfl (by omega)
  obtain⟨x,y,c,e1,e2,e3,e4⟩:=D4 fu hf ht (i:=m) (j:=(i+j)/2) ha (by omega)
  simp only[F.fU,PL.du (show(i:Int)<(j:Int) by omega),cond_true,bJ (show(0:Int)≤1 by decide),ae,hh,e1,e2,e3,e4]
  rw[i64 (by omega) (by omega),D9];rfl
 ·simp only[F.fU,PL.cA (show ¬(i:Int)<(i:Int) by omega),cond_false]
theorem Sn (self:Int→Int→Int→List af→Option (List af)) (fu:Nat) (hf:2000<fu){l:List af}(ht:Tm l) (hl:l.length≤2000){a m b i0 j0:Nat}(hb:a≤b) (hb2:b≤l.length) (hm:m≤l.length) (h1:i0≤j0) (h2:j0≤l.length)
  (h3:(a+b)/2+m≤l.length+i0) (h4:j0≤(a+b)/2+m) (n:Nat) (hn:j0-i0<n):
  ∃s:Nat,i0≤s∧s≤j0∧aB (F.fT self fu (a:Int) (m:Int) (b:Int) l) n ((i0:Int),(j0:Int))=some (s:Int)∧
   (s=i0∨sx l ((a+b)/2+m-s) (s-1)=false)∧(s=j0∨sx l ((a+b)/2+m-1-s) s=true):=by
 have:=wG (body:=F.fT self fu (a:Int) (m:Int) (b:Int) l) (fun h=>!sx l ((a+b)/2+m-1-h) h) i0 j0 (fun i j h6 h7 h8=>?_) (fun i=>?_) (j0-i0) i0 j0 n (az _) (az _) h1 (az _) (Or.inl rfl) (Or.inl rfl) hn
 ·obtain⟨s,s1,s2,s3,s4,s5⟩:=this
  refine⟨s,s1,s2,s3,?_,by simpa using s5⟩
  rcases s4 with h | h
  ·exact Or.inl h
  ·by_cases h0:s=i0
   ·exact Or.inl h0
   ·rw[show(a+b)/2+m-1-(s-1)=(a+b)/2+m-s by omega] at h
    exact Or.inr (by simpa using h)
 ·have hh:=half i j rfl rfl (by omega)
  have hg:=half a b rfl rfl (by omega)
  obtain⟨x,y,c,e1,e2,e3,e4⟩:=D4 fu hf ht (i:=(a+b)/2+m-1-(i+j)/2) (j:=(i+j)/2) (by omega) (by omega)
  have hc:IntKind.wrap .i64 ((IntKind.wrap .i64 ((IntKind.wrap .i64 ((((a+b)/2:Nat):Int)+(m:Int)))-1))-(((i+j)/2:Nat):Int))=(((a+b)/2+m-1-(i+j)/2:Nat):Int):=by
   rw[i64 (n:=(((a+b)/2:Nat):Int)+(m:Int)) (by omega) (by omega),i64 (n:=_-(1:Int)) (by omega) (by omega),i64 (by omega) (by omega)]
   omega
  simp only[F.fT,PL.du (show(i:Int)<(j:Int) by omega),cond_true,bJ (show(0:Int)≤1 by decide),ae,hh,hg,hc,e1,e2,e3,e4]
  rw[i64 (by omega) (by omega),D9];rfl
 ·simp only[F.fT,PL.cA (show ¬(i:Int)<(i:Int) by omega),cond_false]
end Go.DN.So
