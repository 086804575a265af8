/-
  Orders: the plain law of OrderFinds.
-/
import Derived.Test.YtfkigaldejbeiaaFmF
set_option linter.unusedSectionVars false
set_option linter.unusedSimpArgs false
set_option linter.unusedVariables false
namespace Go.DN.So
open Go.AM Go.DN
def O9:gz:=⟨false,⟨0,[]⟩,⟨0,[]⟩⟩
def mG (n:aO) (times:List (List aT)) (bad:bD→bD→Bool):gz×Int:=
 if oW n times≠0 then(O9,oW n times) else if 1024<(eJ n).length then(O9,5) else match oN n bad [] (eJ n) with
  | some (a,b)=>(⟨true,a,b⟩,0)
  | none=>(O9,0)
theorem HW {n:aO}{times:List (List aT)}(bad:bD→bD→Bool) (go:Ab n times) (h:(eJ n).length≤1024) (hw:oW n times=0):mG n times bad=match oN n bad [] (eJ n) with
  | some (a,b)=>(⟨true,a,b⟩,0)
  | none=>(O9,0):=by
 unfold mG
 rw[if_neg (by omega),if_neg (by omega)]
theorem Er {bd:af→af→Option Bool}(fu:Nat) (hf:68719476750<fu){n:aO}{times:List (List aT)}(hs:n.cz.length≤1048576){bad:bD→bD→Bool}
  (hbd:∀long:Nat,long≤8→(∀x∈times,x.length≤long)→∀a b,JS n times long a→JS n times long b→bd a b=some (bad a.aR b.aR)):
  Gn.search bd fu n times=some (mG n times bad):=by
 have w1:=EA fu n times hs (by omega)
 have b0:((0:Int) !=0)=false:=rfl
 by_cases hw:oW n times=0
 ·have go:=KZ hw
  rcases xU fu go hs (by omega) with ⟨h1,h2,h3⟩ | ⟨h1,h2,long,o,l1,l2,h3,h4,h5⟩
  ·unfold Gn.search mG
   rw[if_neg (by omega),if_pos h1]
   simp only[h2,ae]
   rfl
  ·have hol:o.length=(eJ n).length:=by simpa using congrArg List.length h4
   have hoS:o.map (·.aR)=eJ n:=by
    have:=congrArg (List.map Prod.fst) h4
    rw[gg,gg] at this
    have e1:(Prod.fst∘pr)=(·.aR):=rfl
    have e2:(Prod.fst∘pq long times)=id:=rfl
    rw[e1,e2,List.map_id] at this
    exact this
   have hJ:∀s∈o,JS n times long s:=fun s hm=>by
    have:pr s∈(eJ n).map (pq long times):=by rw[←h4];exact jD hm
    obtain⟨q,q1,q2⟩:=iX.1 this
    simp only[pq,pr,iW] at q2
    refine⟨?_,?_⟩
    ·rw[←q2.2,←q2.1]
    ·rw[←q2.1];exact wG go q q1
   obtain⟨d',g1⟩:=Ak (bd:=bd) fu (by omega) (n:=n) (times:=times) (o:=o) (by omega) h5 (fun s hm=>(hJ s hm).2) (bad:=bad) (fun a ha b hb=>hbd long l1 l2 a b (hJ a ha) (hJ b hb)) false 0 [] 0 [] o [] ⟨0,[],none⟩ fu rfl (by omega) (JR.nil n)
   have g1:aB (Gn.rI bd fu n o) fu (0,(⟨0,[],none⟩:bC),o,false,0,[],0,[])=_:=g1
   rw[ix,hoS] at g1
   rw[HW bad go h1 hw]
   unfold Gn.search
   simp only[h3,ae,b0,cond_false,g1]
   cases oN n bad [] (eJ n) with
   | some p=>rfl
   | none=>rfl
 ·have b:(oW n times !=0)=true:=by simpa using hw
  unfold Gn.search F.iw mG
  rw[if_pos hw]
  simp only[w1,ae,b,cond_true]
  rfl
theorem JS.cl {n:aO}{times:List (List aT)}{long:Nat}(l1:long≤8) (l2:∀x∈times,x.length≤long){s:af}(h:JS n times long s):sx 8 times s.aR=s.time++List.replicate (8-long) 0∧s.time.length=long:=by
 have:=Sk l1 l2 h.2
 rwa[←h.1] at this
theorem N7 (fu:Nat) (hf:2000<fu){n:aO}{times:List (List aT)}(long:Nat) (l1:long≤8) (l2:∀x∈times,x.length≤long) (a b:af) (ha:JS n times long a) (hb:JS n times long b):F.gU fu a b=some (oY false times a.aR b.aR):=by
 obtain⟨a1,a2⟩:=ha.cl l1 l2
 obtain⟨b1,b2⟩:=hb.cl l1 l2
 unfold F.gU oY
 rw[CX fu b.time a.time (by omega) hf,a1,b1,cond_false,DL _ (by omega),←D6]
 rfl
end Go.DN.So
