/-
  Orders: the plain law of OrderRuns: sorting by insertion.
-/
import Derived.Test.YtfkigaldejbeiaaOqB
set_option linter.unusedSectionVars false
set_option linter.unusedSimpArgs false
set_option linter.unusedVariables false
namespace Go.DN.So
open Go.AM
theorem ins_loop (fu:Nat) (hf:2000<fu) (x:Sspot) (hx:x.time.length≤1000) (pre:List Sspot) (hp:pre.length≤2000):∀(R post:List Sspot) (n:Nat),R.length≤2000→R.length<n→Srt R.reverse→Tm R→
  ∃S1 S2,R.reverse=S1++S2∧(∀y∈S1,le y x)∧(∀y∈S2,lt x y)∧
  loopF (F.slices_insertionSortCmpFunc_l1 fu (pre.length:Int)) n (((pre.length+R.length:Nat):Int),pre++(R.reverse++x::post))=some (pre++(S1++x::(S2++post)))
 | [],post,n,h,hn,hs,ht=>by
  obtain⟨n,rfl⟩:∃f,n=f+1:=⟨n-1,by omega⟩
  refine⟨[],[],rfl,by simp,by simp,?_⟩
  simp only[loopF,F.slices_insertionSortCmpFunc_l1,List.length_nil,Nat.add_zero]
  rw[PL.dec_false (by omega)]
  rfl
 | y::R,post,n,h,hn,hs,ht=>by
  obtain⟨n,rfl⟩:∃f,n=f+1:=⟨n-1,by omega⟩
  simp only[List.length_cons] at h hn
  have hq:IntKind.wrap .i64 ((((pre.length+(y::R).length:Nat):Int))-1)=((pre.length+R.length:Nat):Int):=by rw[List.length_cons,i64 (by omega) (by omega)];omega
  have hsw:=swap2 (P:=pre++R.reverse) (M:=[]) (Q:=post) (x:=y) (y:=x) (p:=IntKind.wrap .i64 ((((pre.length+(y::R).length:Nat):Int))-1)) (q:=((pre.length+(y::R).length:Nat):Int))
   (by rw[hq];simp) (by simp;omega)
  have i1:idx ((pre++R.reverse)++y::(x::post)) ((pre.length+R.length:Nat):Int)=some y:=idxA (by simp)
  have i2:idx (((pre++R.reverse)++[y])++x::post) ((pre.length+(y::R).length:Nat):Int)=some x:=idxA (by simp)
  obtain⟨c,hc,hd⟩:=run1_ok fu x y hx hf
  simp only[loopF,F.slices_insertionSortCmpFunc_l1]
  rw[PL.dec_true (by rw[List.length_cons];omega)]
  simp only[cond_true,List.reverse_cons,List.append_assoc,List.cons_append,List.nil_append] at hsw i1 i2 hs⊢
  rw[hsw]
  simp only[hq,i1,i2,Option.bind_some,hc,hd]
  cases hb:ltL x.time y.time with
  | true=>
   simp only[cond_true]
   obtain⟨S1,S2,e1,e2,e3,e4⟩:=ins_loop fu hf x hx pre hp R (y::post) n (by omega) (by omega) hs.left (fun z hz=>ht z (List.mem_cons_of_mem _ hz))
   refine⟨S1,S2++[y],by rw[e1,List.append_assoc],e2,fun z hz=>?_,?_⟩
   ·rcases List.mem_append.1 hz with h | h
    ·exact e3 z h
    ·rw[List.mem_singleton.1 h];exact hb
   ·rw[e4];simp
  | false=>
   simp only[cond_false]
   refine⟨R.reverse++[y],[],by simp,fun z hz=>?_,by simp,by simp⟩
   rcases List.mem_append.1 hz with h | h
   ·exact(hs.mid z h y (by simp)).trans hb
   ·rw[List.mem_singleton.1 h];exact hb
theorem ins_one (fu:Nat) (hf:2000<fu){x:Sspot}(hx:x.time.length≤1000){pre S post:List Sspot}(hp:pre.length≤2000) (n:Nat) (hl:S.length≤2000) (hn:S.length<n) (hs:Srt S) (ht:Tm S){a j:Int}
  (ha:a=(pre.length:Int)) (hj:j=((pre.length+S.length:Nat):Int)):
  ∃C,Srt C∧C.length=S.length+1∧FE C (S++[x])∧loopF (F.slices_insertionSortCmpFunc_l1 fu a) n (j,pre++(S++x::post))=some (pre++(C++post)):=by
 subst ha hj
 obtain⟨S1,S2,e1,e2,e3,e4⟩:=ins_loop fu hf x hx pre hp S.reverse post n (by simpa using hl) (by simpa using hn) (by simpa using hs) (fun y hy=>ht y (by simpa using hy))
 rw[List.reverse_reverse] at e1 e4
 rw[List.length_reverse] at e4
 subst e1
 refine⟨S1++x::S2,?_,by simp;omega,?_,by rw[e4];simp⟩
 ·refine hs.left.app (List.pairwise_cons.2 ⟨fun y hy=>(e3 y hy).le,hs.right⟩) fun y hy z hz=>?_
  rcases List.mem_cons.1 hz with h | h
  ·rw[h];exact e2 y hy
  ·exact(e2 y hy).trans (e3 z h).le
 ·rw[List.append_assoc]
  exact(FE.refl S1).app (FE.comm (a:=[x]) (b:=S2) fun y hy z hz=>by rw[List.mem_singleton.1 hy];exact(e3 z hz).ne)
theorem Tm.fe {a b:List Sspot}(h:FE a b) (t:Tm b):Tm a:=fun x hx=>t x (h.mem hx)
theorem Tm.app {a b:List Sspot}(h:Tm a) (h':Tm b):Tm (a++b):=fun x hx=>by
 rcases List.mem_append.1 hx with h1 | h1
 ·exact h x h1
 ·exact h' x h1
theorem Tm.left {a b:List Sspot}(h:Tm (a++b)):Tm a:=fun x hx=>h x (List.mem_append_left _ hx)
theorem Tm.right {a b:List Sspot}(h:Tm (a++b)):Tm b:=fun x hx=>h x (List.mem_append_right _ hx)
theorem ins2_loop (fu:Nat) (hf:2000<fu) (pre:List Sspot) (a b:Int) (ha:a=(pre.length:Int)):∀(U S post:List Sspot) (n:Nat),pre.length+S.length+U.length≤2000→U.length<n→Srt S→Tm (S++U)→b=((pre.length+S.length+U.length:Nat):Int)→
  ∃C,Srt C∧C.length=S.length+U.length∧FE C (S++U)∧loopF (F.slices_insertionSortCmpFunc_l2 fu a b) n (((pre.length+S.length:Nat):Int),pre++(S++(U++post)))=some (pre++(C++post))
 | [],S,post,n,h,hn,hs,ht,hb=>by
  obtain⟨n,rfl⟩:∃f,n=f+1:=⟨n-1,by omega⟩
  refine⟨S,hs,rfl,by rw[List.append_nil];exact FE.refl _,?_⟩
  simp only[loopF,F.slices_insertionSortCmpFunc_l2]
  rw[PL.dec_false (by rw[hb];simp)]
  rfl
 | x::U,S,post,n,h,hn,hs,ht,hb=>by
  obtain⟨n,rfl⟩:∃f,n=f+1:=⟨n-1,by omega⟩
  simp only[List.length_cons] at h hn hb
  simp only[loopF,F.slices_insertionSortCmpFunc_l2]
  rw[PL.dec_true (by omega)]
  obtain⟨C,c1,c2,c3,c4⟩:=ins_one fu hf (x:=x) (ht x (by simp)) (pre:=pre) (S:=S) (post:=U++post) (by omega) fu (by omega) (by omega) hs ht.left ha rfl
  simp only[cond_true,List.cons_append,c4,Option.bind_some]
  have fe:FE (C++U) (S++x::U):=by
   have:=c3.app (FE.refl U)
   rwa[List.append_assoc] at this
  obtain⟨D,d1,d2,d3,d4⟩:=ins2_loop fu hf pre a b ha U C post n (by omega) (by omega) c1 (ht.fe fe) (by omega)
  refine⟨D,d1,by rw[d2,c2,List.length_cons];omega,d3.trans fe,?_⟩
  rw[i64 (by omega) (by omega)]
  rw[show(((pre.length+S.length:Nat):Int))+1=((pre.length+C.length:Nat):Int) by omega]
  exact d4
def Sd (C A:List Sspot):Prop:=Srt C∧C.length=A.length∧FE C A
theorem isort_ok (fu:Nat) (hf:2000<fu){pre A post:List Sspot}(h:pre.length+A.length≤2000) (ht:Tm A){a b:Int}(ha:a=(pre.length:Int)) (hb:b=((pre.length+A.length:Nat):Int)):
  ∃C,Sd C A∧F.slices_insertionSortCmpFunc fu a b (pre++(A++post))=some (pre++(C++post)):=by
 unfold F.slices_insertionSortCmpFunc
 cases A with
 | nil=>
  refine⟨[],⟨List.Pairwise.nil,rfl,FE.refl _⟩,?_⟩
  obtain⟨f,rfl⟩:∃f,fu=f+1:=⟨fu-1,by omega⟩
  simp only[loopF,F.slices_insertionSortCmpFunc_l2]
  rw[PL.dec_false (by rw[i64 (by omega) (by omega)];simp at hb;omega)]
  rfl
 | cons x U=>
  simp only[List.length_cons] at h hb
  obtain⟨C,c1,c2,c3,c4⟩:=ins2_loop fu hf pre a b ha U [x] post fu (by simp;omega) (by omega) (Srt.one x) ht (by simp;omega)
  refine⟨C,⟨c1,by rw[c2];simp;omega,c3⟩,?_⟩
  rw[show IntKind.wrap .i64 (a+1)=((pre.length+[x].length:Nat):Int) by rw[i64 (by omega) (by omega)];simp;omega]
  simp only[List.cons_append,List.nil_append] at c4⊢
  rw[c4];rfl
end Go.DN.So
