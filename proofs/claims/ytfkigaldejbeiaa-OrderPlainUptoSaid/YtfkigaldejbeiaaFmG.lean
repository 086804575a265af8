/-
  Orders: the plain law of OrderFinds.
-/
import Derived.Test.YtfkigaldejbeiaaFmF
set_option linter.unusedSimpArgs false
set_option linter.unusedVariables false
namespace Go.DN.So
open Go.AM Go.DN
def JC:gC:=⟨false,⟨0,[]⟩,⟨0,[]⟩⟩
def rJ (n:aM) (times:List (List aO)) (bad:bE→bE→Bool):gC×Int:=
 if oW n times≠0 then(JC,oW n times) else if 1024<(eD n).length then(JC,5) else match oi n bad [] (eD n) with
  | some (a,b)=>(⟨true,a,b⟩,0)
  | none=>(JC,0)
theorem Ih {n:aM}{times:List (List aO)}(bad:bE→bE→Bool) (go:yh n times) (h:(eD n).length≤1024) (hw:oW n times=0):rJ n times bad=match oi n bad [] (eD n) with
  | some (a,b)=>(⟨true,a,b⟩,0)
  | none=>(JC,0):=by
 unfold rJ
 rw[if_neg (by omega),if_neg (by omega)]
theorem EK {bd:af→af→Option Bool}(fu:Nat) (hf:68719476750<fu){n:aM}{times:List (List aO)}(hs:n.cC.length≤1048576){bad:bE→bE→Bool}
  (hbd:∀long:Nat,long≤8→(∀x∈times,x.length≤long)→∀a b,JS n times long a→JS n times long b→bd a b=some (bad a.aS b.aS)):
  Gn.search bd fu n times=some (rJ n times bad):=by
 have w1:=ES fu n times hs (by omega)
 have b0:((0:Int) !=0)=false:=rfl
 by_cases hw:oW n times=0
 ·have go:=Lo hw
  rcases ym fu go hs (by omega) with ⟨h1,h2,h3⟩ | ⟨h1,h2,long,o,l1,l2,h3,h4,h5⟩
  ·unfold Gn.search rJ
   rw[if_neg (by omega),if_pos h1]
   simp only[h2,ae]
   rfl
  ·have hol:o.length=(eD n).length:=by simpa using congrArg List.length h4
   have hoS:o.map (·.aS)=eD n:=by
    have:=congrArg (List.map Prod.fst) h4
    rw[fR,fR] at this
    have e1:(Prod.fst∘pr)=(·.aS):=rfl
    have e2:(Prod.fst∘pq long times)=id:=rfl
    rw[e1,e2,List.map_id] at this
    exact this
   have hJ:∀s∈o,JS n times long s:=fun s hm=>by
    have:pr s∈(eD n).map (pq long times):=by rw[←h4];exact jH hm
    obtain⟨q,q1,q2⟩:=gS.1 this
    simp only[pq,pr,ja] at q2
    refine⟨?_,?_⟩
    ·rw[←q2.2,←q2.1]
    ·rw[←q2.1];exact wX go q q1
   obtain⟨d',g1⟩:=AG (bd:=bd) fu (by omega) (n:=n) (times:=times) (o:=o) (by omega) h5 (fun s hm=>(hJ s hm).2) (bad:=bad) (fun a ha b hb=>hbd long l1 l2 a b (hJ a ha) (hJ b hb)) false 0 [] 0 [] o [] ⟨0,[],none⟩ fu rfl (by omega) (Ko.nil n)
   have g1:aB (Gn.rR bd fu n o) fu (0,(⟨0,[],none⟩:bH),o,false,0,[],0,[])=_:=g1
   rw[iB,hoS] at g1
   rw[Ih bad go h1 hw]
   unfold Gn.search
   simp only[h3,ae,b0,cond_false,g1]
   cases oi n bad [] (eD n) with
   | some p=>rfl
   | none=>rfl
 ·have b:(oW n times !=0)=true:=by simpa using hw
  unfold Gn.search F.iA rJ
  rw[if_pos hw]
  simp only[w1,ae,b,cond_true]
  rfl
theorem JS.cl {n:aM}{times:List (List aO)}{long:Nat}(l1:long≤8) (l2:∀x∈times,x.length≤long){s:af}(h:JS n times long s):ph 8 times s.aS=s.time++List.replicate (8-long) 0∧s.time.length=long:=by
 have:=SO l1 l2 h.2
 rwa[←h.1] at this
theorem OD (fu:Nat) (hf:2000<fu){n:aM}{times:List (List aO)}(long:Nat) (l1:long≤8) (l2:∀x∈times,x.length≤long) (a b:af) (ha:JS n times long a) (hb:JS n times long b):F.gV fu a b=some (qt false times a.aS b.aS):=by
 obtain⟨a1,a2⟩:=ha.cl l1 l2
 obtain⟨b1,b2⟩:=hb.cl l1 l2
 unfold F.gV qt
 rw[Di fu b.time a.time (by omega) hf,a1,b1,cond_false,Ag _ (by omega),←En]
 rfl
end Go.DN.So
