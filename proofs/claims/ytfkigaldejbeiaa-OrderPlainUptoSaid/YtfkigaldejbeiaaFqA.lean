/-
  Orders: the plain law of OrderRuns: times, sorted lists, lists alike at each time.
-/
import Derived.Test.YtfkigaldejbeiaaOwF
import Derived.Test.YtfkigaldejbeiaaMgB
import Derived.Test.YtfkigaldejbeiaaPlA
set_option linter.unusedSimpArgs false
set_option linter.unusedVariables false
namespace Go.DN.So
open Go.AM
def g8:List Int→List Int→Bool
 | [],[]=>false
 | [],_::_=>true
 | _::_,[]=>false
 | x::xs,y::ys=>if x<y then true else if y<x then false else g8 xs ys
theorem wk:∀a:List Int,g8 a a=false
 | []=>rfl
 | x::xs=>by simp[g8,wk xs]
theorem Bw:∀{a b:List Int},g8 a b=true→g8 b a=false
 | [],[],h=>by cases h
 | [],_::_,_=>rfl
 | _::_,[],h=>by cases h
 | x::xs,y::ys,h=>by
  simp only[g8] at h⊢
  split at h
  ·rw[if_neg (by omega),if_pos (by omega)]
  ·split at h
   ·cases h
   ·rw[if_neg (by omega),if_neg (by omega)]
    exact Bw h
theorem uW:∀{a b c:List Int},g8 a b=true→g8 b c=true→g8 a c=true
 | [],[],_,h,_=>by cases h
 | [],_::_,[],_,h=>by cases h
 | [],_::_,_::_,_,_=>rfl
 | _::_,[],_,h,_=>by cases h
 | _::_,_::_,[],_,h=>by cases h
 | x::xs,y::ys,z::zs,h1,h2=>by
  simp only[g8] at h1 h2⊢
  split at h1
  ·split at h2
   ·rw[if_pos (by omega)]
   ·split at h2
    ·cases h2
    ·rw[if_pos (by omega)]
  ·split at h1
   ·cases h1
   ·split at h2
    ·rw[if_pos (by omega)]
    ·split at h2
     ·cases h2
     ·rw[if_neg (by omega),if_neg (by omega)]
      exact uW h1 h2
theorem wj:∀{a b:List Int},g8 a b=false→g8 b a=false→a=b
 | [],[],_,_=>rfl
 | [],_::_,h,_=>by cases h
 | _::_,[],_,h=>by cases h
 | x::xs,y::ys,h1,h2=>by
  simp only[g8] at h1 h2
  split at h1
  ·cases h1
  ·split at h1
   ·rw[if_pos (by omega)] at h2;cases h2
   ·rw[if_neg (by omega),if_neg (by omega)] at h2
    rw[wj h1 h2,show x=y by omega]
def le (a b:af):Prop:=g8 b.time a.time=false
def lt (a b:af):Prop:=g8 a.time b.time=true
theorem lt.le {a b:af}(h:lt a b):le a b:=Bw h
theorem le.trans {a b c:af}(h1:le a b) (h2:le b c):le a c:=by
 unfold So.le at *
 cases h:g8 c.time a.time with
 | false=>rfl
 | true=>
  cases h3:g8 a.time b.time with
  | true=>
   have:=uW h h3
   rw[h2] at this;cases this
  | false=>
   have:=wj h3 h1
   rw[this] at h
   rw[h2] at h;cases h
theorem Ja {a b c:af}(h1:le a b) (h2:lt b c):lt a c:=by
 unfold So.lt So.le at *
 cases h3:g8 a.time b.time with
 | true=>exact uW h3 h2
 | false=>rw[wj h3 h1];exact h2
theorem I9 {a b c:af}(h1:lt a b) (h2:le b c):lt a c:=by
 unfold So.lt So.le at *
 cases h3:g8 b.time c.time with
 | true=>exact uW h1 h3
 | false=>rw[←wj h3 h2];exact h1
theorem lt.ne {a b:af}(h:lt a b):a.time≠b.time:=fun e=>by
 unfold So.lt at h
 rw[e,wk] at h;cases h
theorem not_lt {a b:af}(h:g8 a.time b.time=false):le b a:=h
theorem R2 (fu:Nat) (x y:Int):F.rL fu x y=some (if x<y then -1 else if y<x then 1 else 0):=by
 have n:∀z:Int,(z !=z)=false:=fun z=>by simp
 unfold F.rL F.vm
 simp only[n,ae,cond_false]
 by_cases h:x<y
 ·simp[h]
 ·by_cases h2:y<x
  ·simp[h,h2]
  ·simp[h,h2]
def BY:List Int→List Int→Int
 | [],[]=>0
 | [],_::_=>-1
 | _::_,[]=>1
 | x::xs,y::ys=>if x<y then -1 else if y<x then 1 else BY xs ys
theorem En:∀a b:List Int,decide (BY a b<0)=g8 a b
 | [],[]=>rfl
 | [],_::_=>rfl
 | _::_,[]=>rfl
 | x::xs,y::ys=>by
  simp only[BY,g8]
  split
  ·rfl
  ·split
   ·rfl
   ·exact En xs ys
theorem Di (fu:Nat) (a b:List Int) (ha:a.length≤1000) (hf:2000<fu):F.k6 fu a b=some (BY a b):=by
 have key:∀(m k aK:Nat),k+m=a.length→m<aK→∃r,aB (F.iN fu a b) aK (k:Int)=some r∧
   eU (fun r=>r) (some r) (fun (_:Unit)=>cond (decide ((a.length:Int)<(b.length:Int))) (some (-1)) (some 0))=some (BY (a.drop k) (if k≤b.length then b.drop k else[]))∧True:=by
  intro m
  induction m with
  | zero=>
   intro k aK h1 h2
   obtain⟨aK,rfl⟩:∃f,aK=f+1:=⟨aK-1,by omega⟩
   have hk:k=a.length:=by omega
   subst hk
   refine⟨Ex.dW (),by simp only[aB,F.iN,eF,cond_false],?_,trivial⟩
   rw[nB]
   simp only[eU]
   by_cases h:a.length<b.length
   ·rw[PL.du (by omega),if_pos (by omega),bY h]
    rfl
   ·rw[PL.cA (by omega)]
    by_cases h3:a.length≤b.length
    ·rw[if_pos h3,eI (by omega)];rfl
    ·rw[if_neg h3];rfl
  | succ m ih=>
   intro k aK h1 h2
   obtain⟨aK,rfl⟩:∃f,aK=f+1:=⟨aK-1,by omega⟩
   have hk:k<a.length:=by omega
   have hx:a[k]?=some a[k]:=ag hk
   have hw:=dh hk (by omega)
   by_cases hb:k<b.length
   ·have hy:b[k]?=some b[k]:=ag hb
    have d:decide ((k:Int)≥(b.length:Int))=false:=PL.cA (by omega)
    rw[bY hk,if_pos (by omega),bY hb]
    simp only[aB,F.iN,dec_lt hx,cond_true,bM hx,ae,d,cond_false,bM hy,R2,hw,BY]
    by_cases h3:a[k]<b[k]
    ·rw[if_pos h3,if_pos h3]
     exact⟨Ex.ret (-1),rfl,rfl,trivial⟩
    ·rw[if_neg h3,if_neg h3]
     by_cases h4:b[k]<a[k]
     ·rw[if_pos h4,if_pos h4]
      exact⟨Ex.ret 1,rfl,rfl,trivial⟩
     ·rw[if_neg h4,if_neg h4]
      obtain⟨r,e1,e2,_⟩:=ih (k+1) aK (by omega) (by omega)
      refine⟨r,e1,?_,trivial⟩
      rw[e2,if_pos (by omega)]
   ·have d:decide ((k:Int)≥(b.length:Int))=true:=PL.du (by omega)
    have e:(if k≤b.length then b.drop k else[])=[]:=by
     split
     ·exact eI (by omega)
     ·rfl
    rw[bY hk,e]
    simp only[aB,F.iN,dec_lt hx,cond_true,bM hx,ae,d]
    exact⟨Ex.ret 1,rfl,rfl,trivial⟩
 obtain⟨r,h1,h2,_⟩:=key a.length 0 fu (by omega) (by omega)
 rw[if_pos (hZ _),eH,eH] at h2
 have h1:aB (F.iN fu a b) fu 0=some r:=h1
 unfold F.k6
 rw[h1]
 exact h2
def Tm (l:List af):Prop:=∀x∈l,x.time.length≤1000
theorem Js (fu:Nat) (a b:af) (ha:a.time.length≤1000) (hf:2000<fu):∃c,F.jR fu a b=some c∧decide (c<0)=g8 a.time b.time:=by
 refine⟨BY a.time b.time,?_,En _ _⟩
 unfold F.jR
 rw[Di fu _ _ ha hf]
 rfl
def FE (l l':List af):Prop:=∀t:List Int,l.filter (fun x=>decide (x.time=t))=l'.filter (fun x=>decide (x.time=t))
theorem FE.refl (l:List af):FE l l:=fun _=>rfl
theorem FE.symm {a b:List af}(h:FE a b):FE b a:=fun t=>(h t).symm
theorem FE.trans {a b c:List af}(h:FE a b) (h':FE b c):FE a c:=fun t=>(h t).trans (h' t)
theorem FE.gz {a b c d:List af}(h:FE a b) (h':FE c d):FE (a++c) (b++d):=fun t=>by rw[List.filter_append,List.filter_append,h t,h' t]
theorem FE.mem {a b:List af}(h:FE a b){x:af}(hx:x∈a):x∈b:=by
 have:x∈a.filter (fun y=>decide (y.time=x.time)):=kB.2 ⟨hx,by simp⟩
 rw[h x.time] at this
 exact(kB.1 this).1
theorem FE.comm {a b:List af}(h:∀x∈a,∀y∈b,x.time≠y.time):FE (a++b) (b++a):=fun t=>by
 rw[List.filter_append,List.filter_append]
 by_cases h1:a.filter (fun x=>decide (x.time=t))=[]
 ·rw[h1];simp
 ·have h2:b.filter (fun x=>decide (x.time=t))=[]:=by
   rw[List.filter_eq_nil_iff]
   intro y hy ht
   obtain⟨x,hx⟩:=List.exists_mem_of_ne_nil _ h1
   obtain⟨hx,ht2⟩:=kB.1 hx
   simp at ht ht2
   exact h x hx y hy (ht2.trans ht.symm)
  rw[h2];simp
def gg (l:List af):Prop:=l.Pairwise le
theorem gg.gz {a b:List af}(h1:gg a) (h2:gg b) (h:∀x∈a,∀y∈b,le x y):gg (a++b):=ia.2 ⟨h1,h2,h⟩
theorem gg.left {a b:List af}(h:gg (a++b)):gg a:=(ia.1 h).1
theorem gg.right {a b:List af}(h:gg (a++b)):gg b:=(ia.1 h).2.1
theorem gg.eZ {a b:List af}(h:gg (a++b)):∀x∈a,∀y∈b,le x y:=(ia.1 h).2.2
theorem gg.one (x:af):gg [x]:=List.pairwise_singleton _ _
theorem gg.get {l:List af}(h:gg l){i j:Nat}{x y:af}(hij:i<j) (hx:l[i]?=some x) (hy:l[j]?=some y):le x y:=by
 obtain⟨h1,rfl⟩:=al.1 hx
 obtain⟨h2,rfl⟩:=al.1 hy
 exact List.pairwise_iff_getElem.1 h i j h1 h2 hij
end Go.DN.So
