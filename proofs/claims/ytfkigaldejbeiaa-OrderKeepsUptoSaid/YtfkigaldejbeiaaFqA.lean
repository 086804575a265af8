/-
  Orders: the plain law of OrderRuns: times, sorted lists, lists alike at each time.
-/
import Derived.Test.YtfkigaldejbeiaaOwF
import Derived.Test.YtfkigaldejbeiaaMgB
import Derived.Test.YtfkigaldejbeiaaPlA
set_option linter.unusedSectionVars false
set_option linter.unusedSimpArgs false
set_option linter.unusedVariables false
namespace Go.DN.So
open Go.AM
def jn:List Int→List Int→Bool
 | [],[]=>false
 | [],_::_=>true
 | _::_,[]=>false
 | x::xs,y::ys=>if x<y then true else if y<x then false else jn xs ys
theorem zw:∀a:List Int,jn a a=false
 | []=>rfl
 | x::xs=>by simp[jn,zw xs]
theorem GU:∀{a b:List Int},jn a b=true→jn b a=false
 | [],[],h=>by cases h
 | [],_::_,_=>rfl
 | _::_,[],h=>by cases h
 | x::xs,y::ys,h=>by
  simp only[jn] at h⊢
  split at h
  ·rw[if_neg (by omega),if_pos (by omega)]
  ·split at h
   ·cases h
   ·rw[if_neg (by omega),if_neg (by omega)]
    exact GU h
theorem ur:∀{a b c:List Int},jn a b=true→jn b c=true→jn a c=true
 | [],[],_,h,_=>by cases h
 | [],_::_,[],_,h=>by cases h
 | [],_::_,_::_,_,_=>rfl
 | _::_,[],_,h,_=>by cases h
 | _::_,_::_,[],_,h=>by cases h
 | x::xs,y::ys,z::zs,h1,h2=>by
  simp only[jn] at h1 h2⊢
  split at h1
  ·split at h2
   ·rw[if_pos (by omega)]
   ·split at h2
    ·cases h2
    ·rw[if_pos (by omega)]
  ·split at h1
   ·cases h1
   ·split at h2
    ·rw[if_pos (by omega)]
    ·split at h2
     ·cases h2
     ·rw[if_neg (by omega),if_neg (by omega)]
      exact ur h1 h2
theorem vA:∀{a b:List Int},jn a b=false→jn b a=false→a=b
 | [],[],_,_=>rfl
 | [],_::_,h,_=>by cases h
 | _::_,[],_,h=>by cases h
 | x::xs,y::ys,h1,h2=>by
  simp only[jn] at h1 h2
  split at h1
  ·cases h1
  ·split at h1
   ·rw[if_pos (by omega)] at h2;cases h2
   ·rw[if_neg (by omega),if_neg (by omega)] at h2
    rw[vA h1 h2,show x=y by omega]
def le (a b:ae):Prop:=jn b.time a.time=false
def lt (a b:ae):Prop:=jn a.time b.time=true
theorem lt.le {a b:ae}(h:lt a b):le a b:=GU h
theorem le.trans {a b c:ae}(h1:le a b) (h2:le b c):le a c:=by
 unfold So.le at *
 cases h:jn c.time a.time with
 | false=>rfl
 | true=>
  cases h3:jn a.time b.time with
  | true=>
   have:=ur h h3
   rw[h2] at this;cases this
  | false=>
   have:=vA h3 h1
   rw[this] at h
   rw[h2] at h;cases h
theorem Ij {a b c:ae}(h1:le a b) (h2:lt b c):lt a c:=by
 unfold So.lt So.le at *
 cases h3:jn a.time b.time with
 | true=>exact ur h3 h2
 | false=>rw[vA h3 h1];exact h2
theorem Ii {a b c:ae}(h1:lt a b) (h2:le b c):lt a c:=by
 unfold So.lt So.le at *
 cases h3:jn b.time c.time with
 | true=>exact ur h1 h3
 | false=>rw[←vA h3 h2];exact h1
theorem lt.ne {a b:ae}(h:lt a b):a.time≠b.time:=fun e=>by
 unfold So.lt at h
 rw[e,zw] at h;cases h
theorem not_lt {a b:ae}(h:jn a.time b.time=false):le b a:=h
theorem Rb (fu:Nat) (x y:Int):F.ri fu x y=some (if x<y then -1 else if y<x then 1 else 0):=by
 have n:∀z:Int,(z !=z)=false:=fun z=>by simp
 unfold F.ri F.uP
 simp only[n,ab,cond_false]
 by_cases h:x<y
 ·simp[h]
 ·by_cases h2:y<x
  ·simp[h,h2]
  ·simp[h,h2]
def Bd:List Int→List Int→Int
 | [],[]=>0
 | [],_::_=>-1
 | _::_,[]=>1
 | x::xs,y::ys=>if x<y then -1 else if y<x then 1 else Bd xs ys
theorem DH:∀a b:List Int,decide (Bd a b<0)=jn a b
 | [],[]=>rfl
 | [],_::_=>rfl
 | _::_,[]=>rfl
 | x::xs,y::ys=>by
  simp only[Bd,jn]
  split
  ·rfl
  ·split
   ·rfl
   ·exact DH xs ys
theorem CB (fu:Nat) (a b:List Int) (ha:a.length≤1000) (hf:2000<fu):F.kW fu a b=some (Bd a b):=by
 have key:∀(m k aI:Nat),k+m=a.length→m<aI→∃r,aB (F.iF fu a b) aI (k:Int)=some r∧
   eR (fun r=>r) (some r) (fun (_:Unit)=>cond (decide ((a.length:Int)<(b.length:Int))) (some (-1)) (some 0))=some (Bd (a.drop k) (if k≤b.length then b.drop k else[]))∧True:=by
  intro m
  induction m with
  | zero=>
   intro k aI h1 h2
   obtain⟨aI,rfl⟩:∃f,aI=f+1:=⟨aI-1,by omega⟩
   have hk:k=a.length:=by omega
   subst hk
   refine⟨Ex.dS (),by simp only[aB,F.iF,ff,cond_false],?_,trivial⟩
   rw[np]
   simp only[eR]
   by_cases h:a.length<b.length
   ·rw[PL.dl (by omega),if_pos (by omega),bV h]
    rfl
   ·rw[PL.cw (by omega)]
    by_cases h3:a.length≤b.length
    ·rw[if_pos h3,eE (by omega)];rfl
    ·rw[if_neg h3];rfl
  | succ m ih=>
   intro k aI h1 h2
   obtain⟨aI,rfl⟩:∃f,aI=f+1:=⟨aI-1,by omega⟩
   have hk:k<a.length:=by omega
   have hx:a[k]?=some a[k]:=ag hk
   have hw:=du hk (by omega)
   by_cases hb:k<b.length
   ·have hy:b[k]?=some b[k]:=ag hb
    have d:decide ((k:Int)≥(b.length:Int))=false:=PL.cw (by omega)
    rw[bV hk,if_pos (by omega),bV hb]
    simp only[aB,F.iF,dec_lt hx,cond_true,bJ hx,ab,d,cond_false,bJ hy,Rb,hw,Bd]
    by_cases h3:a[k]<b[k]
    ·rw[if_pos h3,if_pos h3]
     exact⟨Ex.ret (-1),rfl,rfl,trivial⟩
    ·rw[if_neg h3,if_neg h3]
     by_cases h4:b[k]<a[k]
     ·rw[if_pos h4,if_pos h4]
      exact⟨Ex.ret 1,rfl,rfl,trivial⟩
     ·rw[if_neg h4,if_neg h4]
      obtain⟨r,e1,e2,_⟩:=ih (k+1) aI (by omega) (by omega)
      refine⟨r,e1,?_,trivial⟩
      rw[e2,if_pos (by omega)]
   ·have d:decide ((k:Int)≥(b.length:Int))=true:=PL.dl (by omega)
    have e:(if k≤b.length then b.drop k else[])=[]:=by
     split
     ·exact eE (by omega)
     ·rfl
    rw[bV hk,e]
    simp only[aB,F.iF,dec_lt hx,cond_true,bJ hx,ab,d]
    exact⟨Ex.ret 1,rfl,rfl,trivial⟩
 obtain⟨r,h1,h2,_⟩:=key a.length 0 fu (by omega) (by omega)
 rw[if_pos (gY _),eD,eD] at h2
 have h1:aB (F.iF fu a b) fu 0=some r:=h1
 unfold F.kW
 rw[h1]
 exact h2
def Tm (l:List ae):Prop:=∀x∈l,x.time.length≤1000
theorem ID (fu:Nat) (a b:ae) (ha:a.time.length≤1000) (hf:2000<fu):∃c,F.jM fu a b=some c∧decide (c<0)=jn a.time b.time:=by
 refine⟨Bd a.time b.time,?_,DH _ _⟩
 unfold F.jM
 rw[CB fu _ _ ha hf]
 rfl
def FE (l l':List ae):Prop:=∀t:List Int,l.filter (fun x=>decide (x.time=t))=l'.filter (fun x=>decide (x.time=t))
theorem FE.refl (l:List ae):FE l l:=fun _=>rfl
theorem FE.symm {a b:List ae}(h:FE a b):FE b a:=fun t=>(h t).symm
theorem FE.trans {a b c:List ae}(h:FE a b) (h':FE b c):FE a c:=fun t=>(h t).trans (h' t)
theorem FE.gr {a b c d:List ae}(h:FE a b) (h':FE c d):FE (a++c) (b++d):=fun t=>by rw[List.filter_append,List.filter_append,h t,h' t]
theorem FE.mem {a b:List ae}(h:FE a b){x:ae}(hx:x∈a):x∈b:=by
 have:x∈a.filter (fun y=>decide (y.time=x.time)):=ku.2 ⟨hx,by simp⟩
 rw[h x.time] at this
 exact(ku.1 this).1
theorem FE.comm {a b:List ae}(h:∀x∈a,∀y∈b,x.time≠y.time):FE (a++b) (b++a):=fun t=>by
 rw[List.filter_append,List.filter_append]
 by_cases h1:a.filter (fun x=>decide (x.time=t))=[]
 ·rw[h1];simp
 ·have h2:b.filter (fun x=>decide (x.time=t))=[]:=by
   rw[List.filter_eq_nil_iff]
   intro y hy ht
   obtain⟨x,hx⟩:=List.exists_mem_of_ne_nil _ h1
   obtain⟨hx,ht2⟩:=ku.1 hx
   simp at ht ht2
   exact h x hx y hy (ht2.trans ht.symm)
  rw[h2];simp
def fY (l:List ae):Prop:=l.Pairwise le
theorem fY.gr {a b:List ae}(h1:fY a) (h2:fY b) (h:∀x∈a,∀y∈b,le x y):fY (a++b):=gZ.2 ⟨h1,h2,h⟩
theorem fY.left {a b:List ae}(h:fY (a++b)):fY a:=(gZ.1 h).1
theorem fY.right {a b:List ae}(h:fY (a++b)):fY b:=(gZ.1 h).2.1
theorem fY.eW {a b:List ae}(h:fY (a++b)):∀x∈a,∀y∈b,le x y:=(gZ.1 h).2.2
theorem fY.one (x:ae):fY [x]:=List.pairwise_singleton _ _
theorem fY.get {l:List ae}(h:fY l){i j:Nat}{x y:ae}(hij:i<j) (hx:l[i]?=some x) (hy:l[j]?=some y):le x y:=by
 obtain⟨h1,rfl⟩:=al.1 hx
 obtain⟨h2,rfl⟩:=al.1 hy
 exact List.pairwise_iff_getElem.1 h i j h1 h2 hij
end Go.DN.So
