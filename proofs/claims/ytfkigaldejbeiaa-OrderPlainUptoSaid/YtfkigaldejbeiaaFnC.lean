/-
  Orders: without the document's answer: an order that changes only places of what is not in each other's way.
-/
import Derived.Test.YtfkigaldejbeiaaFnB
import Derived.Test.YtfkigaldejbeiaaFnN
set_option linter.unusedSimpArgs false
set_option linter.unusedVariables false
namespace Go.DN.So
open Go.AM Go.DN
def qG (n:aM) (l:List bE) (m:List (List Int)):List (List Int):=l.foldl (fun m q=>iQ n q m) m
theorem N7 (n:aM) (l:List af) (m:List (List Int)):mu n l m=qG n (l.map (·.aS)) m:=by unfold mu qG;rw[List.foldl_map]
theorem N8 (n:aM) (a b:List bE) (m:List (List Int)):qG n (a++b) m=qG n b (qG n a m):=iC
theorem GI {n:aM}{k:Nat}{s:c9}(hk:n.bC[k]?=some s) (gs:ix n s):∀(l:List (List Int)) (m:List (List Int)),Fits n m→l.foldl (fun m a=>vj s a m) m=qG n (l.map fun x=>(⟨(k:Int),x⟩:bE)) m
 | [],m,_=>rfl
 | x::l,m,hm=>by
  have hs:pG n ⟨(k:Int),x⟩=some s:=by unfold pG;rw[bc];exact hk
  have e:vj s x m=iQ n ⟨(k:Int),x⟩ m:=Iy (times:=[]) (q:=⟨(k:Int),x⟩) hs gs hm
  show l.foldl _ (vj s x m)=qG n (l.map _) (iQ n ⟨(k:Int),x⟩ m)
  rw[←e]
  exact GI hk gs l _ (xG gs x hm)
theorem EW {n:aM}(hg:∀s∈n.bC,ix n s):∀(c k:Nat) (m:Mem n),k+c=n.bC.length→((n.bC.drop k).foldl uL m).1=qG n (ou n k) m.1
 | 0,k,m,hk=>by
  obtain rfl:k=n.bC.length:=by omega
  rw[Cp,eI (az _)];rfl
 | c+1,k,m,hk=>by
  have hks:k<n.bC.length:=by omega
  have hs:n.bC[k]?=some n.bC[k]:=ag hks
  rw[bY hks,AF hs,N8]
  generalize n.bC[k]=s at hs
  have gs:=hg s (ar hs)
  rw[jD,EW hg c (k+1) (uL m s) (by omega),KE gs,GI hs gs _ _ m.2]
  rfl
theorem MN (fu:Nat){n:aM}(hs:n.cC.length≤1048576) (hw:wN n=0) (mem:List (List Int)) (hf:2000000<fu):
  (Fits n mem∧F.nb fu n mem=some (qG n (eD n) mem,0))∨(¬Fits n mem∧∃e,e≠0∧F.gP fu n mem=some (e,[])∧F.nb fu n mem=some ([],e)):=by
 obtain⟨hl,hz,hg⟩:=lU hw
 rcases K1 fu hs hw mem hf with ⟨hF,h⟩ | h
 ·refine .inl ⟨hF,?_⟩
  rw[h]
  have:=EW hg n.bC.length 0 ⟨mem,hF⟩ (by omega)
  rw[eH] at this
  rw[this];rfl
 ·refine .inr ⟨fun hF=>?_,h⟩
  obtain⟨e,he,hc,_⟩:=h
  rcases zC fu hs hz mem hf with ⟨_,hc'⟩ | ⟨hn,_⟩
  ·rw[hc'] at hc;cases hc;exact he rfl
  ·exact hn hF
theorem EP {R:af→af→Prop}:∀{l:List af},(∀t:List Int,(l.filter fun x=>decide (x.time=t)).Pairwise R)→l.Pairwise fun x y=>x.time=y.time→R x y
 | [],_=>List.Pairwise.nil
 | x::l,h=>by
  refine dQ.2 ⟨fun y hy e=>?_,EP fun t=>?_⟩
  ·have:=h x.time
   rw[List.filter_cons,if_pos (by simp)] at this
   exact(dQ.1 this).1 y (kB.2 ⟨hy,by simp[e]⟩)
  ·have:=h t
   rw[List.filter_cons] at this
   split at this
   ·exact(dQ.1 this).2
   ·exact this
open Classical in
theorem QQ {a b:List af}(h:FE a b):a.Perm b:=by
 refine List.perm_iff_count.2 fun x=>?_
 have key:∀l:List af,l.count x=(l.filter fun y=>decide (y.time=x.time)).count x:=fun l=>by
  rw[List.count_filter (by simp)]
 rw[key a,key b,h]
theorem Ht {o:List af}(h:I0 o):o.Pairwise fun a b=>a.number<b.number:=by
 rw[List.pairwise_iff_getElem]
 intro i j hi hj hij
 rw[h i _ (ag hi),h j _ (ag hj)]
 omega
theorem Ic {n:aM}{bad:bE→bE→Bool}:∀{todo done:List bE},oi n bad done todo=none→(∀a∈done,∀b∈todo,(gw n a b&&bad a b)=false)∧todo.Pairwise fun a b=>(gw n a b&&bad a b)=false
 | [],done,_=>⟨(fun _ _ _ h=>by cases h),List.Pairwise.nil⟩
 | q::r,done,h=>by
  simp only[oi] at h
  split at h
  ·cases h
  ·rename_i hq
   obtain⟨h1,h2⟩:=Ic h
   have hq:∀a∈done,(gw n a q&&bad a q)=false:=fun a ha=>by
    have:=List.find?_eq_none.1 hq a ha
    simpa using this
   refine⟨fun a ha b hb=>?_,dQ.2 ⟨fun b hb=>h1 q (by simp) b hb,h2⟩⟩
   rcases aZ.1 hb with rfl | hb
   ·exact hq a ha
   ·exact h1 a (bV _ ha) b hb
theorem MK {n:aM}{bad:bE→bE→Bool}{o:List af}(hn:I0 o) (h:oi n bad [] (o.map (·.aS))=none):∀a∈o,∀b∈o,a.number<b.number→(gw n a.aS b.aS&&bad a.aS b.aS)=false:=by
 have:=(Ic h).2
 rw[List.pairwise_map,List.pairwise_iff_getElem] at this
 intro a ha b hb hab
 obtain⟨i,hi⟩:=sa ha
 obtain⟨j,hj⟩:=sa hb
 have h1:=hn i a hi
 have h2:=hn j b hj
 obtain⟨hi',e1⟩:=al.1 hi
 obtain⟨hj',e2⟩:=al.1 hj
 have:=this i j hi' hj' (by omega)
 rwa[e1,e2] at this
theorem AI (fu:Nat) (hf:68719476750<fu){n:aM}{times:List (List aO)}(hs:n.cC.length≤1048576) (hw:oW n times=0) (h1024:(eD n).length≤1024) (mem:List (List Int)) (mix:List Int)
  (hL:oi n (qt false times) [] (eD n)=none) (hE:mix=[]∨oi n (qt true times) [] (eD n)=none):
  (Fits n mem∧F.jS fu n times mem mix=some (qG n (eD n) mem,0))∨(¬Fits n mem∧∃e,e≠0∧F.gP fu n mem=some (e,[])∧F.jS fu n times mem mix=some ([],e)):=by
 have go:=Lo hw
 obtain⟨hl,hz,hg⟩:=lU go.wn
 have b0:((0:Int) !=0)=false:=rfl
 rcases ym fu go hs (by omega) with ⟨h1,_⟩ | ⟨h1,_,long,o,l1,l2,h3,h4,h5⟩
 ·omega
 have hol:o.length=(eD n).length:=by simpa using congrArg List.length h4
 have hoS:o.map (·.aS)=eD n:=by
  have:=congrArg (List.map Prod.fst) h4
  rw[fR,fR] at this
  have e1:(Prod.fst∘pr)=(·.aS):=rfl
  have e2:(Prod.fst∘pq long times)=id:=rfl
  rw[e1,e2,List.map_id] at this
  exact this
 have hJ:∀s∈o,JS n times long s:=fun s hm=>by
  have:pr s∈(eD n).map (pq long times):=by rw[←h4];exact jH hm
  obtain⟨q,q1,q2⟩:=gS.1 this
  simp only[pq,pr,ja] at q2
  refine⟨?_,?_⟩
  ·rw[←q2.2,←q2.1]
  ·rw[←q2.1];exact wX go q q1
 rcases zC fu hs hz mem (by omega) with ⟨hF,hc⟩ | ⟨hF,e,he,hc⟩
 ·refine .inl ⟨hF,?_⟩
  have tm:Tm o:=fun s hm=>by
   have:=((hJ s hm).cl l1 l2).2
   omega
  obtain⟨o',⟨s1,s2,s3⟩,s4⟩:=P7 fu (by omega) (l:=o) (by omega) tm
  have hp':=QQ s3
  have hJ':∀s∈o',JS n times long s:=fun s hm=>hJ s (s3.mem hm)
  obtain⟨P,w,a,b,q1,q2,q3,q4⟩:=EQ (mix:=mix) fu (by omega) l1 l2 o'.length o' [] 0 ⟨mem,hF⟩ fu (az _) (by omega) (by omega) s1 hJ' (by omega)
  have hPo:P.Perm o:=q2.trans hp'
  have hmem:∀s∈P,s∈o:=fun s hm=>hPo.mem_iff.1 hm
  have Ry:=MK h5 (by rw[hoS];exact hL)
  have hpad:∀x∈o,∀y∈o,g8 (ph 8 times x.aS) (ph 8 times y.aS)=g8 x.time y.time:=fun x hx y hy=>by
   obtain⟨a1,a2⟩:=(hJ x hx).cl l1 l2
   obtain⟨b1,b2⟩:=(hJ y hy).cl l1 l2
   rw[a1,b1,Ag _ (by omega)]
  have heq:∀x∈o,∀y∈o,x.time=y.time→ph 8 times x.aS=ph 8 times y.aS:=fun x hx y hy e=>by
   rw[((hJ x hx).cl l1 l2).1,((hJ y hy).cl l1 l2).1,e]
  have stable:mix=[]→P.Pairwise fun x y=>x.time=y.time→x.number<y.number:=fun e=>by
   rw[q3 e]
   refine EP fun t=>?_
   rw[s3 t]
   exact(Ht h5).filter _
  have hinv:P.Pairwise fun x y=>y.number<x.number→gw n y.aS x.aS=false:=by
   have key:∀x∈o,∀y∈o,le x y→(x.time=y.time→y.number<x.number→gw n y.aS x.aS=false)→y.number<x.number→gw n y.aS x.aS=false:=fun x hx y hy hle ht hn=>by
    by_cases e:x.time=y.time
    ·exact ht e hn
    ·have hlt:g8 x.time y.time=true:=by
      cases hb:g8 x.time y.time with
      | true=>rfl
      | false=>exact absurd (wj hb hle) e
     have:=Ry y hy x hx hn
     unfold qt at this
     rw[cond_false,hpad x hx y hy,hlt,jb] at this
     exact this
   rcases hE with hE | hE
   ·refine(q4.and (stable hE)).imp_of_mem fun {x y} hx hy h=>?_
    exact key x (hmem x hx) y (hmem y hy) h.1 fun e hn=>absurd (h.2 e) (by omega)
   ·have okE:=MK h5 (by rw[hoS];exact hE)
    refine q4.imp_of_mem fun {x y} hx hy h=>?_
    refine key x (hmem x hx) y (hmem y hy) h fun e hn=>?_
    have:=okE y (hmem y hy) x (hmem x hx) hn
    unfold qt at this
    rw[cond_true,heq y (hmem y hy) x (hmem x hx) e.symm,decide_eq_true rfl,jb] at this
    exact this
  have hx:=RX (n:=n) hPo (Ht h5) hinv (fun s hm=>(hJ s hm).2.r) hF
  unfold F.jS
  have hb:Nat.beq o'.length o.length=true:=B9 s2
  have q1:aB (F.pU fu n mix) fu (0,o',mem,((0:Nat):Int),(o'.length:Int))=_:=q1
  simp only[h3,ae,b0,cond_false,hc,s4,hb,cond_true,q1]
  rw[hx,N7,hoS]
 ·have be:(e !=0)=true:=by simpa using he
  refine .inr ⟨hF,e,he,hc,?_⟩
  unfold F.jS
  simp only[h3,ae,b0,cond_false,hc,be,cond_true]
theorem Ms (fu:Nat){n:aM}{times:List (List aO)}(go:yh n times) (hs:n.cC.length≤1048576){mem:List (List Int)}(hF:Fits n mem) (hf:2000000<fu):F.gA fu (qG n (eD n) mem) (qG n (eD n) mem)=some true:=by
 obtain⟨hl,hz,hg⟩:=lU go.wn
 have key:∀(l:List bE) (m:List (List Int)),(∀q∈l,qw n q)→Fits n m→Fits n (qG n l m):=fun l=>by
  induction l with
  | nil=>intro m _ h;exact h
  | cons q l ih=>intro m hg h;exact ih _ (fun x hx=>hg x (ao _ hx)) (rT (hg q au) h)
 have hR:=key (eD n) mem (fun q hq=>(wX go q hq).r) hF
 refine Jr fu _ (by rw[hR.len];exact hs) (fun r hr=>?_) hf
 obtain⟨k,hk⟩:=bR hr
 have hkl:=ep hk
 have hln:=hR.len
 have hzk:n.cC[k]?=some (n.cC[k]'(by omega)):=ag _
 have he:=(oV hR.len).1 hR k r _ hk hzk
 have hb:=(hz _ (dE (by omega:k<n.cC.length))).2
 omega
end Go.DN.So
