/-
  Orders: the plain law of OrderRuns: times, sorted lists, lists alike at each time.
-/
import Derived.Test.YtfkigaldejbeiaaOwF
import Derived.Test.YtfkigaldejbeiaaMgB
import Derived.Test.YtfkigaldejbeiaaPlA
set_option linter.unusedSectionVars false
set_option linter.unusedSimpArgs false
set_option linter.unusedVariables false
namespace Go.DN.So
open Go.AM
def ltL:List Int→List Int→Bool
 | [],[]=>false
 | [],_::_=>true
 | _::_,[]=>false
 | x::xs,y::ys=>if x<y then true else if y<x then false else ltL xs ys
theorem ltL_irr:∀a:List Int,ltL a a=false
 | []=>rfl
 | x::xs=>by simp[ltL,ltL_irr xs]
theorem ltL_asym:∀{a b:List Int},ltL a b=true→ltL b a=false
 | [],[],h=>by cases h
 | [],_::_,_=>rfl
 | _::_,[],h=>by cases h
 | x::xs,y::ys,h=>by
  simp only[ltL] at h⊢
  split at h
  ·rw[if_neg (by omega),if_pos (by omega)]
  ·split at h
   ·cases h
   ·rw[if_neg (by omega),if_neg (by omega)]
    exact ltL_asym h
theorem ltL_trans:∀{a b c:List Int},ltL a b=true→ltL b c=true→ltL a c=true
 | [],[],_,h,_=>by cases h
 | [],_::_,[],_,h=>by cases h
 | [],_::_,_::_,_,_=>rfl
 | _::_,[],_,h,_=>by cases h
 | _::_,_::_,[],_,h=>by cases h
 | x::xs,y::ys,z::zs,h1,h2=>by
  simp only[ltL] at h1 h2⊢
  split at h1
  ·split at h2
   ·rw[if_pos (by omega)]
   ·split at h2
    ·cases h2
    ·rw[if_pos (by omega)]
  ·split at h1
   ·cases h1
   ·split at h2
    ·rw[if_pos (by omega)]
    ·split at h2
     ·cases h2
     ·rw[if_neg (by omega),if_neg (by omega)]
      exact ltL_trans h1 h2
theorem ltL_tri:∀{a b:List Int},ltL a b=false→ltL b a=false→a=b
 | [],[],_,_=>rfl
 | [],_::_,h,_=>by cases h
 | _::_,[],_,h=>by cases h
 | x::xs,y::ys,h1,h2=>by
  simp only[ltL] at h1 h2
  split at h1
  ·cases h1
  ·split at h1
   ·rw[if_pos (by omega)] at h2;cases h2
   ·rw[if_neg (by omega),if_neg (by omega)] at h2
    rw[ltL_tri h1 h2,show x=y by omega]
def le (a b:Sspot):Prop:=ltL b.time a.time=false
def lt (a b:Sspot):Prop:=ltL a.time b.time=true
theorem lt.le {a b:Sspot}(h:lt a b):le a b:=ltL_asym h
theorem le.trans {a b c:Sspot}(h1:le a b) (h2:le b c):le a c:=by
 unfold So.le at *
 cases h:ltL c.time a.time with
 | false=>rfl
 | true=>
  cases h3:ltL a.time b.time with
  | true=>
   have:=ltL_trans h h3
   rw[h2] at this;cases this
  | false=>
   have:=ltL_tri h3 h1
   rw[this] at h
   rw[h2] at h;cases h
theorem lt.ne {a b:Sspot}(h:lt a b):a.time≠b.time:=fun e=>by
 unfold So.lt at h
 rw[e,ltL_irr] at h;cases h
theorem not_lt {a b:Sspot}(h:ltL a.time b.time=false):le b a:=h
theorem cmp_ok (fu:Nat) (x y:Int):F.cmp_Compare fu x y=some (if x<y then -1 else if y<x then 1 else 0):=by
 have n:∀z:Int,(z !=z)=false:=fun z=>by simp
 unfold F.cmp_Compare F.cmp_isNaN
 simp only[n,Option.bind_some,cond_false]
 by_cases h:x<y
 ·simp[h]
 ·by_cases h2:y<x
  ·simp[h,h2]
  ·simp[h,h2]
def cmpL:List Int→List Int→Int
 | [],[]=>0
 | [],_::_=>-1
 | _::_,[]=>1
 | x::xs,y::ys=>if x<y then -1 else if y<x then 1 else cmpL xs ys
theorem cmpL_lt:∀a b:List Int,decide (cmpL a b<0)=ltL a b
 | [],[]=>rfl
 | [],_::_=>rfl
 | _::_,[]=>rfl
 | x::xs,y::ys=>by
  simp only[cmpL,ltL]
  split
  ·rfl
  ·split
   ·rfl
   ·exact cmpL_lt xs ys
theorem compare_ok (fu:Nat) (a b:List Int) (ha:a.length≤1000) (hf:2000<fu):F.slices_Compare fu a b=some (cmpL a b):=by
 have key:∀(m k fuel:Nat),k+m=a.length→m<fuel→∃r,loopF (F.slices_Compare_l1 fu a b) fuel (k:Int)=some r∧
   bindE (fun r=>r) (some r) (fun (_:Unit)=>cond (decide ((a.length:Int)<(b.length:Int))) (some (-1)) (some 0))=some (cmpL (a.drop k) (if k≤b.length then b.drop k else[]))∧True:=by
  intro m
  induction m with
  | zero=>
   intro k fuel h1 h2
   obtain⟨fuel,rfl⟩:∃f,fuel=f+1:=⟨fuel-1,by omega⟩
   have hk:k=a.length:=by omega
   subst hk
   refine⟨Ex.brk (),by simp only[loopF,F.slices_Compare_l1,dec_end,cond_false],?_,trivial⟩
   rw[List.drop_length]
   simp only[bindE]
   by_cases h:a.length<b.length
   ·rw[PL.dec_true (by omega),if_pos (by omega),List.drop_eq_getElem_cons h]
    rfl
   ·rw[PL.dec_false (by omega)]
    by_cases h3:a.length≤b.length
    ·rw[if_pos h3,List.drop_eq_nil_of_le (by omega)];rfl
    ·rw[if_neg h3];rfl
  | succ m ih=>
   intro k fuel h1 h2
   obtain⟨fuel,rfl⟩:∃f,fuel=f+1:=⟨fuel-1,by omega⟩
   have hk:k<a.length:=by omega
   have hx:a[k]?=some a[k]:=List.getElem?_eq_getElem hk
   have hw:=wrap_succ hk (by omega)
   by_cases hb:k<b.length
   ·have hy:b[k]?=some b[k]:=List.getElem?_eq_getElem hb
    have d:decide ((k:Int)≥(b.length:Int))=false:=PL.dec_false (by omega)
    rw[List.drop_eq_getElem_cons hk,if_pos (by omega),List.drop_eq_getElem_cons hb]
    simp only[loopF,F.slices_Compare_l1,dec_lt hx,cond_true,idx_nat hx,Option.bind_some,d,cond_false,idx_nat hy,cmp_ok,hw,cmpL]
    by_cases h3:a[k]<b[k]
    ·rw[if_pos h3,if_pos h3]
     exact⟨Ex.ret (-1),rfl,rfl,trivial⟩
    ·rw[if_neg h3,if_neg h3]
     by_cases h4:b[k]<a[k]
     ·rw[if_pos h4,if_pos h4]
      exact⟨Ex.ret 1,rfl,rfl,trivial⟩
     ·rw[if_neg h4,if_neg h4]
      obtain⟨r,e1,e2,_⟩:=ih (k+1) fuel (by omega) (by omega)
      refine⟨r,e1,?_,trivial⟩
      rw[e2,if_pos (by omega)]
   ·have d:decide ((k:Int)≥(b.length:Int))=true:=PL.dec_true (by omega)
    have e:(if k≤b.length then b.drop k else[])=[]:=by
     split
     ·exact List.drop_eq_nil_of_le (by omega)
     ·rfl
    rw[List.drop_eq_getElem_cons hk,e]
    simp only[loopF,F.slices_Compare_l1,dec_lt hx,cond_true,idx_nat hx,Option.bind_some,d]
    exact⟨Ex.ret 1,rfl,rfl,trivial⟩
 obtain⟨r,h1,h2,_⟩:=key a.length 0 fu (by omega) (by omega)
 rw[if_pos (Nat.zero_le _),List.drop_zero,List.drop_zero] at h2
 have h1:loopF (F.slices_Compare_l1 fu a b) fu 0=some r:=h1
 unfold F.slices_Compare
 rw[h1]
 exact h2
def FE (l l':List Sspot):Prop:=∀t:List Int,l.filter (fun x=>decide (x.time=t))=l'.filter (fun x=>decide (x.time=t))
theorem FE.refl (l:List Sspot):FE l l:=fun _=>rfl
theorem FE.symm {a b:List Sspot}(h:FE a b):FE b a:=fun t=>(h t).symm
theorem FE.trans {a b c:List Sspot}(h:FE a b) (h':FE b c):FE a c:=fun t=>(h t).trans (h' t)
theorem FE.app {a b c d:List Sspot}(h:FE a b) (h':FE c d):FE (a++c) (b++d):=fun t=>by rw[List.filter_append,List.filter_append,h t,h' t]
theorem FE.mem {a b:List Sspot}(h:FE a b){x:Sspot}(hx:x∈a):x∈b:=by
 have:x∈a.filter (fun y=>decide (y.time=x.time)):=List.mem_filter.2 ⟨hx,by simp⟩
 rw[h x.time] at this
 exact(List.mem_filter.1 this).1
def Srt (l:List Sspot):Prop:=l.Pairwise le
theorem Srt.app {a b:List Sspot}(h1:Srt a) (h2:Srt b) (h:∀x∈a,∀y∈b,le x y):Srt (a++b):=List.pairwise_append.2 ⟨h1,h2,h⟩
theorem Srt.left {a b:List Sspot}(h:Srt (a++b)):Srt a:=(List.pairwise_append.1 h).1
theorem Srt.right {a b:List Sspot}(h:Srt (a++b)):Srt b:=(List.pairwise_append.1 h).2.1
theorem Srt.one (x:Sspot):Srt [x]:=List.pairwise_singleton _ _
theorem Srt.get {l:List Sspot}(h:Srt l){i j:Nat}{x y:Sspot}(hij:i<j) (hx:l[i]?=some x) (hy:l[j]?=some y):le x y:=by
 obtain⟨h1,rfl⟩:=List.getElem?_eq_some_iff.1 hx
 obtain⟨h2,rfl⟩:=List.getElem?_eq_some_iff.1 hy
 exact List.pairwise_iff_getElem.1 h i j h1 h2 hij
end Go.DN.So
