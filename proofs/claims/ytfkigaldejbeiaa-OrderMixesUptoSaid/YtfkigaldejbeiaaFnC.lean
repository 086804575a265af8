/-
  Orders: without the document's answer: an order that changes only places of what is not in each other's way.
-/
import Derived.Test.YtfkigaldejbeiaaFnB
import Derived.Test.YtfkigaldejbeiaaFnN
set_option linter.unusedSectionVars false
set_option linter.unusedSimpArgs false
set_option linter.unusedVariables false
namespace Go.DN.So
open Go.AM Go.DN
def qz (n:aO) (l:List bD) (m:List (List Int)):List (List Int):=l.foldl (fun m q=>iM n q m) m
theorem NG (n:aO) (l:List af) (m:List (List Int)):mh n l m=qz n (l.map (·.aR)) m:=by unfold mh qz;rw[List.foldl_map]
theorem NH (n:aO) (a b:List bD) (m:List (List Int)):qz n (a++b) m=qz n b (qz n a m):=iz
theorem Gl {n:aO}{k:Nat}{s:dh}(hk:n.cd[k]?=some s) (gs:iH n s):∀(l:List (List Int)) (m:List (List Int)),Fits n m→l.foldl (fun m a=>u4 s a m) m=qz n (l.map fun x=>(⟨(k:Int),x⟩:bD)) m
 | [],m,_=>rfl
 | x::l,m,hm=>by
  have hs:pz n ⟨(k:Int),x⟩=some s:=by unfold pz;rw[bh];exact hk
  have e:u4 s x m=iM n ⟨(k:Int),x⟩ m:=Ia (times:=[]) (q:=⟨(k:Int),x⟩) hs gs hm
  show l.foldl _ (u4 s x m)=qz n (l.map _) (iM n ⟨(k:Int),x⟩ m)
  rw[←e]
  exact Gl hk gs l _ (xp gs x hm)
theorem ED {n:aO}(hg:∀s∈n.cd,iH n s):∀(c k:Nat) (m:Mem n),k+c=n.cd.length→((n.cd.drop k).foldl uB m).1=qz n (oe n k) m.1
 | 0,k,m,hk=>by
  obtain rfl:k=n.cd.length:=by omega
  rw[B5,eF (az _)];rfl
 | c+1,k,m,hk=>by
  have hks:k<n.cd.length:=by omega
  have hs:n.cd[k]?=some n.cd[k]:=ag hks
  rw[bV hks,Aj hs,NH]
  generalize n.cd[k]=s at hs
  have gs:=hg s (ar hs)
  rw[jz,ED hg c (k+1) (uB m s) (by omega),J9 gs,Gl hs gs _ _ m.2]
  rfl
theorem Ml (fu:Nat){n:aO}(hs:n.cz.length≤1048576) (hw:wN n=0) (mem:List (List Int)) (hf:2000000<fu):
  (Fits n mem∧F.mW fu n mem=some (qz n (eJ n) mem,0))∨(¬Fits n mem∧∃e,e≠0∧F.gO fu n mem=some (e,[])∧F.mW fu n mem=some ([],e)):=by
 obtain⟨hl,hz,hg⟩:=nf hw
 rcases KC fu hs hw mem hf with ⟨hF,h⟩ | h
 ·refine .inl ⟨hF,?_⟩
  rw[h]
  have:=ED hg n.cd.length 0 ⟨mem,hF⟩ (by omega)
  rw[eE] at this
  rw[this];rfl
 ·refine .inr ⟨fun hF=>?_,h⟩
  obtain⟨e,he,hc,_⟩:=h
  rcases zh fu hs hz mem hf with ⟨_,hc'⟩ | ⟨hn,_⟩
  ·rw[hc'] at hc;cases hc;exact he rfl
  ·exact hn hF
theorem Ew {R:af→af→Prop}:∀{l:List af},(∀t:List Int,(l.filter fun x=>decide (x.time=t)).Pairwise R)→l.Pairwise fun x y=>x.time=y.time→R x y
 | [],_=>List.Pairwise.nil
 | x::l,h=>by
  refine ej.2 ⟨fun y hy e=>?_,Ew fun t=>?_⟩
  ·have:=h x.time
   rw[List.filter_cons,if_pos (by simp)] at this
   exact(ej.1 this).1 y (kw.2 ⟨hy,by simp[e]⟩)
  ·have:=h t
   rw[List.filter_cons] at this
   split at this
   ·exact(ej.1 this).2
   ·exact this
open Classical in
theorem Qq {a b:List af}(h:FE a b):a.Perm b:=by
 refine List.perm_iff_count.2 fun x=>?_
 have key:∀l:List af,l.count x=(l.filter fun y=>decide (y.time=x.time)).count x:=fun l=>by
  rw[List.count_filter (by simp)]
 rw[key a,key b,h]
theorem G9 {o:List af}(h:IE o):o.Pairwise fun a b=>a.number<b.number:=by
 rw[List.pairwise_iff_getElem]
 intro i j hi hj hij
 rw[h i _ (ag hi),h j _ (ag hj)]
 omega
theorem HS {n:aO}{bad:bD→bD→Bool}:∀{todo done:List bD},oN n bad done todo=none→(∀a∈done,∀b∈todo,(gQ n a b&&bad a b)=false)∧todo.Pairwise fun a b=>(gQ n a b&&bad a b)=false
 | [],done,_=>⟨(fun _ _ _ h=>by cases h),List.Pairwise.nil⟩
 | q::r,done,h=>by
  simp only[oN] at h
  split at h
  ·cases h
  ·rename_i hq
   obtain⟨h1,h2⟩:=HS h
   have hq:∀a∈done,(gQ n a q&&bad a q)=false:=fun a ha=>by
    have:=List.find?_eq_none.1 hq a ha
    simpa using this
   refine⟨fun a ha b hb=>?_,ej.2 ⟨fun b hb=>h1 q (by simp) b hb,h2⟩⟩
   rcases aX.1 hb with rfl | hb
   ·exact hq a ha
   ·exact h1 a (bS _ ha) b hb
theorem Mi {n:aO}{bad:bD→bD→Bool}{o:List af}(hn:IE o) (h:oN n bad [] (o.map (·.aR))=none):∀a∈o,∀b∈o,a.number<b.number→(gQ n a.aR b.aR&&bad a.aR b.aR)=false:=by
 have:=(HS h).2
 rw[List.pairwise_map,List.pairwise_iff_getElem] at this
 intro a ha b hb hab
 obtain⟨i,hi⟩:=rQ ha
 obtain⟨j,hj⟩:=rQ hb
 have h1:=hn i a hi
 have h2:=hn j b hj
 obtain⟨hi',e1⟩:=al.1 hi
 obtain⟨hj',e2⟩:=al.1 hj
 have:=this i j hi' hj' (by omega)
 rwa[e1,e2] at this
theorem IM (fu:Nat) (hf:68719476750<fu){n:aO}{times:List (List aT)}(hs:n.cz.length≤1048576) (hw:oW n times=0) (h1024:(eJ n).length≤1024) (mem:List (List Int)) (mix:List Int)
  (hL:oN n (oY false times) [] (eJ n)=none) (hE:mix=[]∨oN n (oY true times) [] (eJ n)=none):
  (Fits n mem∧F.jP fu n times mem mix=some (qz n (eJ n) mem,0))∨(¬Fits n mem∧∃e,e≠0∧F.gO fu n mem=some (e,[])∧F.jP fu n times mem mix=some ([],e)):=by
 have go:=KZ hw
 obtain⟨hl,hz,hg⟩:=nf go.wn
 have b0:((0:Int) !=0)=false:=rfl
 rcases xU fu go hs (by omega) with ⟨h1,_⟩ | ⟨h1,_,long,o,l1,l2,h3,h4,h5⟩
 ·omega
 have hol:o.length=(eJ n).length:=by simpa using congrArg List.length h4
 have hoS:o.map (·.aR)=eJ n:=by
  have:=congrArg (List.map Prod.fst) h4
  rw[gg,gg] at this
  have e1:(Prod.fst∘pr)=(·.aR):=rfl
  have e2:(Prod.fst∘pq long times)=id:=rfl
  rw[e1,e2,List.map_id] at this
  exact this
 have hJ:∀s∈o,JS n times long s:=fun s hm=>by
  have:pr s∈(eJ n).map (pq long times):=by rw[←h4];exact jD hm
  obtain⟨q,q1,q2⟩:=iX.1 this
  simp only[pq,pr,iW] at q2
  refine⟨?_,?_⟩
  ·rw[←q2.2,←q2.1]
  ·rw[←q2.1];exact wG go q q1
 rcases zh fu hs hz mem (by omega) with ⟨hF,hc⟩ | ⟨hF,e,he,hc⟩
 ·refine .inl ⟨hF,?_⟩
  have tm:Tm o:=fun s hm=>by
   have:=((hJ s hm).cl l1 l2).2
   omega
  obtain⟨o',⟨s1,s2,s3⟩,s4⟩:=PD fu (by omega) (l:=o) (by omega) tm
  have hp':=Qq s3
  have hJ':∀s∈o',JS n times long s:=fun s hm=>hJ s (s3.mem hm)
  obtain⟨P,w,a,b,q1,q2,q3,q4⟩:=Ey (mix:=mix) fu (by omega) l1 l2 o'.length o' [] 0 ⟨mem,hF⟩ fu (az _) (by omega) (by omega) s1 hJ' (by omega)
  have hPo:P.Perm o:=q2.trans hp'
  have hmem:∀s∈P,s∈o:=fun s hm=>hPo.mem_iff.1 hm
  have Q8:=Mi h5 (by rw[hoS];exact hL)
  have hpad:∀x∈o,∀y∈o,jr (sx 8 times x.aR) (sx 8 times y.aR)=jr x.time y.time:=fun x hx y hy=>by
   obtain⟨a1,a2⟩:=(hJ x hx).cl l1 l2
   obtain⟨b1,b2⟩:=(hJ y hy).cl l1 l2
   rw[a1,b1,DL _ (by omega)]
  have heq:∀x∈o,∀y∈o,x.time=y.time→sx 8 times x.aR=sx 8 times y.aR:=fun x hx y hy e=>by
   rw[((hJ x hx).cl l1 l2).1,((hJ y hy).cl l1 l2).1,e]
  have stable:mix=[]→P.Pairwise fun x y=>x.time=y.time→x.number<y.number:=fun e=>by
   rw[q3 e]
   refine Ew fun t=>?_
   rw[s3 t]
   exact(G9 h5).filter _
  have hinv:P.Pairwise fun x y=>y.number<x.number→gQ n y.aR x.aR=false:=by
   have key:∀x∈o,∀y∈o,le x y→(x.time=y.time→y.number<x.number→gQ n y.aR x.aR=false)→y.number<x.number→gQ n y.aR x.aR=false:=fun x hx y hy hle ht hn=>by
    by_cases e:x.time=y.time
    ·exact ht e hn
    ·have hlt:jr x.time y.time=true:=by
      cases hb:jr x.time y.time with
      | true=>rfl
      | false=>exact absurd (vR hb hle) e
     have:=Q8 y hy x hx hn
     unfold oY at this
     rw[cond_false,hpad x hx y hy,hlt,iY] at this
     exact this
   rcases hE with hE | hE
   ·refine(q4.and (stable hE)).imp_of_mem fun {x y} hx hy h=>?_
    exact key x (hmem x hx) y (hmem y hy) h.1 fun e hn=>absurd (h.2 e) (by omega)
   ·have okE:=Mi h5 (by rw[hoS];exact hE)
    refine q4.imp_of_mem fun {x y} hx hy h=>?_
    refine key x (hmem x hx) y (hmem y hy) h fun e hn=>?_
    have:=okE y (hmem y hy) x (hmem x hx) hn
    unfold oY at this
    rw[cond_true,heq y (hmem y hy) x (hmem x hx) e.symm,decide_eq_true rfl,iY] at this
    exact this
  have hx:=Rw (n:=n) hPo (G9 h5) hinv (fun s hm=>(hJ s hm).2.r) hF
  unfold F.jP
  have hb:Nat.beq o'.length o.length=true:=BN s2
  have q1:aB (F.pM fu n mix) fu (0,o',mem,((0:Nat):Int),(o'.length:Int))=_:=q1
  simp only[h3,ae,b0,cond_false,hc,s4,hb,cond_true,q1]
  rw[hx,NG,hoS]
 ·have be:(e !=0)=true:=by simpa using he
  refine .inr ⟨hF,e,he,hc,?_⟩
  unfold F.jP
  simp only[h3,ae,b0,cond_false,hc,be,cond_true]
theorem L2 (fu:Nat){n:aO}{times:List (List aT)}(go:Ab n times) (hs:n.cz.length≤1048576){mem:List (List Int)}(hF:Fits n mem) (hf:2000000<fu):F.gw fu (qz n (eJ n) mem) (qz n (eJ n) mem)=some true:=by
 obtain⟨hl,hz,hg⟩:=nf go.wn
 have key:∀(l:List bD) (m:List (List Int)),(∀q∈l,ql n q)→Fits n m→Fits n (qz n l m):=fun l=>by
  induction l with
  | nil=>intro m _ h;exact h
  | cons q l ih=>intro m hg h;exact ih _ (fun x hx=>hg x (ao _ hx)) (rK (hg q av) h)
 have hR:=key (eJ n) mem (fun q hq=>(wG go q hq).r) hF
 refine PM fu _ (by rw[hR.len];exact hs) (fun r hr=>?_) hf
 obtain⟨k,hk⟩:=bT hr
 have hkl:=eU hk
 have hln:=hR.len
 have hzk:n.cz[k]?=some (n.cz[k]'(by omega)):=ag _
 have he:=(oO hR.len).1 hR k r _ hk hzk
 have hb:=(hz _ (ed (by omega:k<n.cz.length))).2
 omega
theorem HV {n:aO}{times:List (List aT)}{bad:bD→bD→Bool}(h0:(mG n times bad).2=0) (h1:(mG n times bad).1.Any=false):oW n times=0∧(eJ n).length≤1024∧oN n bad [] (eJ n)=none:=by
 unfold mG at h0 h1
 split at h0
 ·rename_i h;exact absurd h0 h
 ·rename_i hw
  rw[if_neg hw] at h1
  split at h0
  ·cases h0
  ·rename_i h
   rw[if_neg h] at h1
   refine⟨by omega,by omega,?_⟩
   cases hq:oN n bad [] (eJ n) with
   | none=>rfl
   | some p=>obtain⟨a,b⟩:=p;rw[hq] at h1;cases h1
end Go.DN.So
