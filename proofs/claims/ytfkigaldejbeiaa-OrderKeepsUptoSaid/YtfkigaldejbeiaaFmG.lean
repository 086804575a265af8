/-
  Orders: the plain law of OrderFinds.
-/
import Derived.Test.YtfkigaldejbeiaaFmF
set_option linter.unusedSectionVars false
set_option linter.unusedSimpArgs false
set_option linter.unusedVariables false
namespace Go.DN.So
open Go.AM Go.DN
def OL:iR:=⟨false,⟨0,[]⟩,⟨0,[]⟩⟩
def pQ (n:aP) (times:List (List aS)) (bad:bE→bE→Bool):iR×Int:=
 if oW n times≠0 then(OL,oW n times) else if 1024<(eQ n).length then(OL,5) else match pP n bad [] (eQ n) with
  | some (a,b)=>(⟨true,a,b⟩,0)
  | none=>(OL,0)
theorem N0 {n:aP}{times:List (List aS)}(bad:bE→bE→Bool) (go:zK n times) (h:(eQ n).length≤1024) (hw:oW n times=0):pQ n times bad=match pP n bad [] (eQ n) with
  | some (a,b)=>(⟨true,a,b⟩,0)
  | none=>(OL,0):=by
 unfold pQ
 rw[if_neg (by omega),if_neg (by omega)]
theorem Lu {bd:ae→ae→Option Bool}(fu:Nat) (hf:68719476750<fu){n:aP}{times:List (List aS)}(hs:n.cA.length≤1048576){bad:bE→bE→Bool}
  (hbd:∀long:Nat,long≤8→(∀x∈times,x.length≤long)→∀a b,JS n times long a→JS n times long b→bd a b=some (bad a.aQ b.aQ)):
  Gn.search bd fu n times=some (pQ n times bad):=by
 have w1:=Ea fu n times hs (by omega)
 have b0:((0:Int) !=0)=false:=rfl
 by_cases hw:oW n times=0
 ·have go:=Kx hw
  rcases xE fu go hs (by omega) with ⟨h1,h2,h3⟩ | ⟨h1,h2,long,o,l1,l2,h3,h4,h5⟩
  ·unfold Gn.search pQ
   rw[if_neg (by omega),if_pos h1]
   simp only[h2,ab]
   rfl
  ·have hol:o.length=(eQ n).length:=by simpa using congrArg List.length h4
   have hoS:o.map (·.aQ)=eQ n:=by
    have:=congrArg (List.map Prod.fst) h4
    rw[gd,gd] at this
    have e1:(Prod.fst∘pr)=(·.aQ):=rfl
    have e2:(Prod.fst∘pq long times)=id:=rfl
    rw[e1,e2,List.map_id] at this
    exact this
   have hJ:∀s∈o,JS n times long s:=fun s hm=>by
    have:pr s∈(eQ n).map (pq long times):=by rw[←h4];exact jB hm
    obtain⟨q,q1,q2⟩:=iV.1 this
    simp only[pq,pr,iU] at q2
    refine⟨?_,?_⟩
    ·rw[←q2.2,←q2.1]
    ·rw[←q2.1];exact wi go q q1
   obtain⟨d',g1⟩:=zU (bd:=bd) fu (by omega) (n:=n) (times:=times) (o:=o) (by omega) h5 (fun s hm=>(hJ s hm).2) (bad:=bad) (fun a ha b hb=>hbd long l1 l2 a b (hJ a ha) (hJ b hb)) false 0 [] 0 [] o [] ⟨0,[],none⟩ fu rfl (by omega) (Jo.nil n)
   have g1:aB (Gn.ru bd fu n o) fu (0,(⟨0,[],none⟩:bC),o,false,0,[],0,[])=_:=g1
   rw[ir,hoS] at g1
   rw[N0 bad go h1 hw]
   unfold Gn.search
   simp only[h3,ab,b0,cond_false,g1]
   cases pP n bad [] (eQ n) with
   | some p=>rfl
   | none=>rfl
 ·have b:(oW n times !=0)=true:=by simpa using hw
  unfold Gn.search F.im pQ
  rw[if_pos hw]
  simp only[w1,ab,b,cond_true]
  rfl
theorem JS.cl {n:aP}{times:List (List aS)}{long:Nat}(l1:long≤8) (l2:∀x∈times,x.length≤long){s:ae}(h:JS n times long s):sf 8 times s.aQ=s.time++List.replicate (8-long) 0∧s.time.length=long:=by
 have:=RQ l1 l2 h.2
 rwa[←h.1] at this
theorem NE (fu:Nat) (hf:2000<fu){n:aP}{times:List (List aS)}(long:Nat) (l1:long≤8) (l2:∀x∈times,x.length≤long) (a b:ae) (ha:JS n times long a) (hb:JS n times long b):F.gR fu a b=some (xp false times a.aQ b.aQ):=by
 obtain⟨a1,a2⟩:=ha.cl l1 l2
 obtain⟨b1,b2⟩:=hb.cl l1 l2
 unfold F.gR xp
 rw[CB fu b.time a.time (by omega) hf,a1,b1,cond_false,Dm _ (by omega),←DH]
 rfl
end Go.DN.So
