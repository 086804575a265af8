/-
  Orders: the plain law of OrderFinds.
-/
import Derived.Test.YtfkigaldejbeiaaFmF
set_option linter.unusedSectionVars false
set_option linter.unusedSimpArgs false
set_option linter.unusedVariables false
namespace Go.DN.So
open Go.AM Go.DN
def noF:SFound:=⟨false,⟨0,[]⟩,⟨0,[]⟩⟩
def findV (n:SNest) (times:List (List SRow)) (bad:SSpot→SSpot→Bool):SFound×Int:=
 if oW n times≠0 then(noF,oW n times) else if 1024<(spots n).length then(noF,5) else match fndQ n bad [] (spots n) with
  | some (a,b)=>(⟨true,a,b⟩,0)
  | none=>(noF,0)
theorem findV_at {n:SNest}{times:List (List SRow)}(bad:SSpot→SSpot→Bool) (go:GoodO n times) (h:(spots n).length≤1024) (hw:oW n times=0):findV n times bad=match fndQ n bad [] (spots n) with
  | some (a,b)=>(⟨true,a,b⟩,0)
  | none=>(noF,0):=by
 unfold findV
 rw[if_neg (by omega),if_neg (by omega)]
theorem search_ok {bd:Sspot→Sspot→Option Bool}(fu:Nat) (hf:68719476750<fu){n:SNest}{times:List (List SRow)}(hs:n.Sizes.length≤1048576){bad:SSpot→SSpot→Bool}
  (hbd:∀long:Nat,long≤8→(∀x∈times,x.length≤long)→∀a b,JS n times long a→JS n times long b→bd a b=some (bad a.Spot b.Spot)):
  Gn.search bd fu n times=some (findV n times bad):=by
 obtain⟨w1,w2⟩:=oWrong_ok fu n times hs (by omega)
 have b0:((0:Int) !=0)=false:=rfl
 by_cases hw:oW n times=0
 ·have go:=goodO hw
  rcases orderSpots_ok fu go hs (by omega) with ⟨h1,h2,h3⟩ | ⟨h1,h2,long,o,l1,l2,h3,h4,h5⟩
  ·unfold Gn.search findV
   rw[if_neg (by omega),if_pos h1]
   simp only[h2,Option.bind_some]
   rfl
  ·have hol:o.length=(spots n).length:=by simpa using congrArg List.length h4
   have hoS:o.map (·.Spot)=spots n:=by
    have:=congrArg (List.map Prod.fst) h4
    rw[List.map_map,List.map_map] at this
    have e1:(Prod.fst∘pr)=(·.Spot):=rfl
    have e2:(Prod.fst∘pq long times)=id:=rfl
    rw[e1,e2,List.map_id] at this
    exact this
   have hJ:∀s∈o,JS n times long s:=fun s hm=>by
    have:pr s∈(spots n).map (pq long times):=by rw[←h4];exact List.mem_map_of_mem hm
    obtain⟨q,q1,q2⟩:=List.mem_map.1 this
    simp only[pq,pr,Prod.mk.injEq] at q2
    refine⟨?_,?_⟩
    ·rw[←q2.2,←q2.1]
    ·rw[←q2.1];exact spots_good go q q1
   obtain⟨d',g1⟩:=search_loop (bd:=bd) fu (by omega) (n:=n) (times:=times) (o:=o) (by omega) h5 (fun s hm=>(hJ s hm).2) (bad:=bad) (fun a ha b hb=>hbd long l1 l2 a b (hJ a ha) (hJ b hb)) false 0 [] 0 [] o [] ⟨0,[],none⟩ fu rfl (by omega) (Say.nil n)
   have g1:loopF (Gn.search_l1 bd fu n o) fu (0,(⟨0,[],none⟩:MDat),o,false,0,[],0,[])=_:=g1
   rw[List.map_nil,hoS] at g1
   rw[findV_at bad go h1 hw]
   unfold Gn.search
   simp only[h3,Option.bind_some,b0,cond_false,g1]
   cases fndQ n bad [] (spots n) with
   | some p=>rfl
   | none=>rfl
 ·have b:(oW n times !=0)=true:=by simpa using hw
  unfold Gn.search F.order_spots findV
  rw[if_pos hw]
  simp only[w1,Option.bind_some,b,cond_true]
  rfl
theorem find_ok (fu:Nat) (hf:68719476750<fu){n:SNest}{times:List (List SRow)}(hs:n.Sizes.length≤1048576) (alike:Bool):F.adjointref11_find fu n times alike=some (findV n times (badX alike times)):=by
 obtain⟨w1,w2⟩:=oWrong_ok fu n times hs (by omega)
 have b0:((0:Int) !=0)=false:=rfl
 by_cases hw:oW n times=0
 ·have go:=goodO hw
  obtain⟨hl,hz,hg⟩:=good_all go.wn
  rcases orderSpots_ok fu go hs (by omega) with ⟨h1,h2,h3⟩ | ⟨h1,h2,long,o,l1,l2,h3,h4,h5⟩
  ·unfold F.adjointref11_find findV
   rw[if_neg (by omega),if_pos h1,h3];rfl
  ·have g1:=find_loop fu (by omega) (n:=n) (times:=times) alike h1 (fun q hq=>spots_good go q hq) false 0 [] 0 [] (spots n) [] fu rfl (by omega)
   have g1:loopF (F.adjointref11_find_l2 fu n times alike (spots n)) fu (0,false,0,[],0,[])=_:=g1
   rw[findV_at _ go h1 hw]
   unfold F.adjointref11_find
   simp only[h2,Option.bind_some,b0,cond_false,spots_ok fu hg hl hf,g1]
   cases fndQ n (badX alike times) [] (spots n) with
   | some p=>rfl
   | none=>rfl
 ·have b:(oW n times !=0)=true:=by simpa using hw
  unfold F.adjointref11_find F.adjointref11_Right findV
  rw[if_pos hw]
  simp only[w2,Option.bind_some,b,cond_true]
  rfl
theorem JS.cl {n:SNest}{times:List (List SRow)}{long:Nat}(l1:long≤8) (l2:∀x∈times,x.length≤long){s:Sspot}(h:JS n times long s):tmS 8 times s.Spot=s.time++List.replicate (8-long) 0∧s.time.length=long:=by
 have:=tm8 l1 l2 h.2
 rwa[←h.1] at this
theorem legal_bd (fu:Nat) (hf:2000<fu){n:SNest}{times:List (List SRow)}(long:Nat) (l1:long≤8) (l2:∀x∈times,x.length≤long) (a b:Sspot) (ha:JS n times long a) (hb:JS n times long b):F.order_Legal_1 fu a b=some (badX false times a.Spot b.Spot):=by
 obtain⟨a1,a2⟩:=ha.cl l1 l2
 obtain⟨b1,b2⟩:=hb.cl l1 l2
 unfold F.order_Legal_1 badX
 rw[compare_ok fu b.time a.time (by omega) hf,a1,b1,cond_false,ltL_pad _ (by omega),←cmpL_lt]
 rfl
end Go.DN.So
