/-
  Orders: without the document's answer: an order that changes only places of what is not in each other's way.
-/
import Derived.Test.YtfkigaldejbeiaaFnB
import Derived.Test.YtfkigaldejbeiaaFnN
set_option linter.unusedSectionVars false
set_option linter.unusedSimpArgs false
set_option linter.unusedVariables false
namespace Go.DN.So
open Go.AM Go.DN
def qo (n:aP) (l:List bE) (m:List (List Int)):List (List Int):=l.foldl (fun m q=>iI n q m) m
theorem Nd (n:aP) (l:List ae) (m:List (List Int)):mf n l m=qo n (l.map (·.aQ)) m:=by unfold mf qo;rw[List.foldl_map]
theorem Nf (n:aP) (a b:List bE) (m:List (List Int)):qo n (a++b) m=qo n b (qo n a m):=iu
theorem FT {n:aP}{k:Nat}{s:dh}(hk:n.cd[k]?=some s) (gs:iD n s):∀(l:List (List Int)) (m:List (List Int)),Fits n m→l.foldl (fun m a=>uN s a m) m=qo n (l.map fun x=>(⟨(k:Int),x⟩:bE)) m
 | [],m,_=>rfl
 | x::l,m,hm=>by
  have hs:pi n ⟨(k:Int),x⟩=some s:=by unfold pi;rw[bh];exact hk
  have e:uN s x m=iI n ⟨(k:Int),x⟩ m:=HF (times:=[]) (q:=⟨(k:Int),x⟩) hs gs hm
  show l.foldl _ (uN s x m)=qo n (l.map _) (iI n ⟨(k:Int),x⟩ m)
  rw[←e]
  exact FT hk gs l _ (w7 gs x hm)
theorem Ed {n:aP}(hg:∀s∈n.cd,iD n s):∀(c k:Nat) (m:Mem n),k+c=n.cd.length→((n.cd.drop k).foldl uh m).1=qo n (n9 n k) m.1
 | 0,k,m,hk=>by
  obtain rfl:k=n.cd.length:=by omega
  rw[BK,eE (az _)];rfl
 | c+1,k,m,hk=>by
  have hks:k<n.cd.length:=by omega
  have hs:n.cd[k]?=some n.cd[k]:=ag hks
  rw[bV hks,zT hs,Nf]
  generalize n.cd[k]=s at hs
  have gs:=hg s (ar hs)
  rw[jx,Ed hg c (k+1) (uh m s) (by omega),JF gs,FT hs gs _ _ m.2]
  rfl
theorem LU (fu:Nat){n:aP}(hs:n.cA.length≤1048576) (hw:wN n=0) (mem:List (List Int)) (hf:2000000<fu):
  (Fits n mem∧F.mS fu n mem=some (qo n (eQ n) mem,0))∨(¬Fits n mem∧∃e,e≠0∧F.gL fu n mem=some (e,[])∧F.mS fu n mem=some ([],e)):=by
 obtain⟨hl,hz,hg⟩:=mZ hw
 rcases J3 fu hs hw mem hf with ⟨hF,h⟩ | h
 ·refine .inl ⟨hF,?_⟩
  rw[h]
  have:=Ed hg n.cd.length 0 ⟨mem,hF⟩ (by omega)
  rw[eD] at this
  rw[this];rfl
 ·refine .inr ⟨fun hF=>?_,h⟩
  obtain⟨e,he,hc,_⟩:=h
  rcases yP fu hs hz mem hf with ⟨_,hc'⟩ | ⟨hn,_⟩
  ·rw[hc'] at hc;cases hc;exact he rfl
  ·exact hn hF
theorem D7 {R:ae→ae→Prop}:∀{l:List ae},(∀t:List Int,(l.filter fun x=>decide (x.time=t)).Pairwise R)→l.Pairwise fun x y=>x.time=y.time→R x y
 | [],_=>List.Pairwise.nil
 | x::l,h=>by
  refine ej.2 ⟨fun y hy e=>?_,D7 fun t=>?_⟩
  ·have:=h x.time
   rw[List.filter_cons,if_pos (by simp)] at this
   exact(ej.1 this).1 y (ku.2 ⟨hy,by simp[e]⟩)
  ·have:=h t
   rw[List.filter_cons] at this
   split at this
   ·exact(ej.1 this).2
   ·exact this
open Classical in
theorem PV {a b:List ae}(h:FE a b):a.Perm b:=by
 refine List.perm_iff_count.2 fun x=>?_
 have key:∀l:List ae,l.count x=(l.filter fun y=>decide (y.time=x.time)).count x:=fun l=>by
  rw[List.count_filter (by simp)]
 rw[key a,key b,h]
theorem GB {o:List ae}(h:H7 o):o.Pairwise fun a b=>a.number<b.number:=by
 rw[List.pairwise_iff_getElem]
 intro i j hi hj hij
 rw[h i _ (ag hi),h j _ (ag hj)]
 omega
theorem Hr {n:aP}{bad:bE→bE→Bool}:∀{todo done:List bE},pP n bad done todo=none→(∀a∈done,∀b∈todo,(gN n a b&&bad a b)=false)∧todo.Pairwise fun a b=>(gN n a b&&bad a b)=false
 | [],done,_=>⟨(fun _ _ _ h=>by cases h),List.Pairwise.nil⟩
 | q::r,done,h=>by
  simp only[pP] at h
  split at h
  ·cases h
  ·rename_i hq
   obtain⟨h1,h2⟩:=Hr h
   have hq:∀a∈done,(gN n a q&&bad a q)=false:=fun a ha=>by
    have:=List.find?_eq_none.1 hq a ha
    simpa using this
   refine⟨fun a ha b hb=>?_,ej.2 ⟨fun b hb=>h1 q (by simp) b hb,h2⟩⟩
   rcases aX.1 hb with rfl | hb
   ·exact hq a ha
   ·exact h1 a (bS _ ha) b hb
theorem LP {n:aP}{bad:bE→bE→Bool}{o:List ae}(hn:H7 o) (h:pP n bad [] (o.map (·.aQ))=none):∀a∈o,∀b∈o,a.number<b.number→(gN n a.aQ b.aQ&&bad a.aQ b.aQ)=false:=by
 have:=(Hr h).2
 rw[List.pairwise_map,List.pairwise_iff_getElem] at this
 intro a ha b hb hab
 obtain⟨i,hi⟩:=rF ha
 obtain⟨j,hj⟩:=rF hb
 have h1:=hn i a hi
 have h2:=hn j b hj
 obtain⟨hi',e1⟩:=al.1 hi
 obtain⟨hj',e2⟩:=al.1 hj
 have:=this i j hi' hj' (by omega)
 rwa[e1,e2] at this
theorem Ig (fu:Nat) (hf:68719476750<fu){n:aP}{times:List (List aS)}(hs:n.cA.length≤1048576) (hw:oW n times=0) (h1024:(eQ n).length≤1024) (mem:List (List Int)) (mix:List Int)
  (hL:pP n (xp false times) [] (eQ n)=none) (hE:mix=[]∨pP n (xp true times) [] (eQ n)=none):
  (Fits n mem∧F.jN fu n times mem mix=some (qo n (eQ n) mem,0))∨(¬Fits n mem∧∃e,e≠0∧F.gL fu n mem=some (e,[])∧F.jN fu n times mem mix=some ([],e)):=by
 have go:=Kx hw
 obtain⟨hl,hz,hg⟩:=mZ go.wn
 have b0:((0:Int) !=0)=false:=rfl
 rcases xE fu go hs (by omega) with ⟨h1,_⟩ | ⟨h1,_,long,o,l1,l2,h3,h4,h5⟩
 ·omega
 have hol:o.length=(eQ n).length:=by simpa using congrArg List.length h4
 have hoS:o.map (·.aQ)=eQ n:=by
  have:=congrArg (List.map Prod.fst) h4
  rw[gd,gd] at this
  have e1:(Prod.fst∘pr)=(·.aQ):=rfl
  have e2:(Prod.fst∘pq long times)=id:=rfl
  rw[e1,e2,List.map_id] at this
  exact this
 have hJ:∀s∈o,JS n times long s:=fun s hm=>by
  have:pr s∈(eQ n).map (pq long times):=by rw[←h4];exact jB hm
  obtain⟨q,q1,q2⟩:=iV.1 this
  simp only[pq,pr,iU] at q2
  refine⟨?_,?_⟩
  ·rw[←q2.2,←q2.1]
  ·rw[←q2.1];exact wi go q q1
 rcases yP fu hs hz mem (by omega) with ⟨hF,hc⟩ | ⟨hF,e,he,hc⟩
 ·refine .inl ⟨hF,?_⟩
  have tm:Tm o:=fun s hm=>by
   have:=((hJ s hm).cl l1 l2).2
   omega
  obtain⟨o',⟨s1,s2,s3⟩,s4⟩:=Pd fu (by omega) (l:=o) (by omega) tm
  have hp':=PV s3
  have hJ':∀s∈o',JS n times long s:=fun s hm=>hJ s (s3.mem hm)
  obtain⟨P,w,a,b,q1,q2,q3,q4⟩:=D8 (mix:=mix) fu (by omega) l1 l2 o'.length o' [] 0 ⟨mem,hF⟩ fu (az _) (by omega) (by omega) s1 hJ' (by omega)
  have hPo:P.Perm o:=q2.trans hp'
  have hmem:∀s∈P,s∈o:=fun s hm=>hPo.mem_iff.1 hm
  have QH:=LP h5 (by rw[hoS];exact hL)
  have hpad:∀x∈o,∀y∈o,jn (sf 8 times x.aQ) (sf 8 times y.aQ)=jn x.time y.time:=fun x hx y hy=>by
   obtain⟨a1,a2⟩:=(hJ x hx).cl l1 l2
   obtain⟨b1,b2⟩:=(hJ y hy).cl l1 l2
   rw[a1,b1,Dm _ (by omega)]
  have heq:∀x∈o,∀y∈o,x.time=y.time→sf 8 times x.aQ=sf 8 times y.aQ:=fun x hx y hy e=>by
   rw[((hJ x hx).cl l1 l2).1,((hJ y hy).cl l1 l2).1,e]
  have stable:mix=[]→P.Pairwise fun x y=>x.time=y.time→x.number<y.number:=fun e=>by
   rw[q3 e]
   refine D7 fun t=>?_
   rw[s3 t]
   exact(GB h5).filter _
  have hinv:P.Pairwise fun x y=>y.number<x.number→gN n y.aQ x.aQ=false:=by
   have key:∀x∈o,∀y∈o,le x y→(x.time=y.time→y.number<x.number→gN n y.aQ x.aQ=false)→y.number<x.number→gN n y.aQ x.aQ=false:=fun x hx y hy hle ht hn=>by
    by_cases e:x.time=y.time
    ·exact ht e hn
    ·have hlt:jn x.time y.time=true:=by
      cases hb:jn x.time y.time with
      | true=>rfl
      | false=>exact absurd (vA hb hle) e
     have:=QH y hy x hx hn
     unfold xp at this
     rw[cond_false,hpad x hx y hy,hlt,iW] at this
     exact this
   rcases hE with hE | hE
   ·refine(q4.and (stable hE)).imp_of_mem fun {x y} hx hy h=>?_
    exact key x (hmem x hx) y (hmem y hy) h.1 fun e hn=>absurd (h.2 e) (by omega)
   ·have okE:=LP h5 (by rw[hoS];exact hE)
    refine q4.imp_of_mem fun {x y} hx hy h=>?_
    refine key x (hmem x hx) y (hmem y hy) h fun e hn=>?_
    have:=okE y (hmem y hy) x (hmem x hx) hn
    unfold xp at this
    rw[cond_true,heq y (hmem y hy) x (hmem x hx) e.symm,decide_eq_true rfl,iW] at this
    exact this
  have hx:=Q6 (n:=n) hPo (GB h5) hinv (fun s hm=>(hJ s hm).2.r) hF
  unfold F.jN
  have hb:Nat.beq o'.length o.length=true:=Bl s2
  have q1:aB (F.pC fu n mix) fu (0,o',mem,((0:Nat):Int),(o'.length:Int))=_:=q1
  simp only[h3,ab,b0,cond_false,hc,s4,hb,cond_true,q1]
  rw[hx,Nd,hoS]
 ·have be:(e !=0)=true:=by simpa using he
  refine .inr ⟨hF,e,he,hc,?_⟩
  unfold F.jN
  simp only[h3,ab,b0,cond_false,hc,be,cond_true]
theorem Ly (fu:Nat){n:aP}{times:List (List aS)}(go:zK n times) (hs:n.cA.length≤1048576){mem:List (List Int)}(hF:Fits n mem) (hf:2000000<fu):F.gu fu (qo n (eQ n) mem) (qo n (eQ n) mem)=some true:=by
 obtain⟨hl,hz,hg⟩:=mZ go.wn
 have key:∀(l:List bE) (m:List (List Int)),(∀q∈l,qc n q)→Fits n m→Fits n (qo n l m):=fun l=>by
  induction l with
  | nil=>intro m _ h;exact h
  | cons q l ih=>intro m hg h;exact ih _ (fun x hx=>hg x (ao _ hx)) (rz (hg q av) h)
 have hR:=key (eQ n) mem (fun q hq=>(wi go q hq).r) hF
 refine Pn fu _ (by rw[hR.len];exact hs) (fun r hr=>?_) hf
 obtain⟨k,hk⟩:=bT hr
 have hkl:=eT hk
 have hln:=hR.len
 have hzk:n.cA[k]?=some (n.cA[k]'(by omega)):=ag _
 have he:=(oH hR.len).1 hR k r _ hk hzk
 have hb:=(hz _ (ed (by omega:k<n.cA.length))).2
 omega
theorem NZ {n:aP}{times:List (List aS)}{bad:bE→bE→Bool}(h0:(pQ n times bad).2=0) (h1:(pQ n times bad).1.Any=false):oW n times=0∧(eQ n).length≤1024∧pP n bad [] (eQ n)=none:=by
 unfold pQ at h0 h1
 split at h0
 ·rename_i h;exact absurd h0 h
 ·rename_i hw
  rw[if_neg hw] at h1
  split at h0
  ·cases h0
  ·rename_i h
   rw[if_neg h] at h1
   refine⟨by omega,by omega,?_⟩
   cases hq:pP n bad [] (eQ n) with
   | none=>rfl
   | some p=>obtain⟨a,b⟩:=p;rw[hq] at h1;cases h1
end Go.DN.So
