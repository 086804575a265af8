/-
  Orders: the plain law of OrderPlain.
-/
import Derived.Test.YtfkigaldejbeiaaFnC
import Derived.Test.YtfkigaldejbeiaaFmH
set_option linter.unusedSimpArgs false
set_option linter.unusedVariables false
namespace Go.DN.So
open Go.AM Go.DN
def zU (v q:Nat):aO:=⟨(List.replicate v (0:Int)).set q 1,0⟩
def uO (v i:Nat):List aO:=⟨List.replicate v (0:Int),(i:Int)⟩::(List.range v).map (zU v)
def D6 (n:aM) (q:Nat):Nat:=((n.bC[q]?).map fun s=>s.ba.aU.length).getD 0
def iF (n:aM) (j:Nat):List (List aO):=(List.range j).map fun q=>uO (D6 n q) q
theorem wi {α:Type}(f:Nat→α) (j:Nat):(List.range (j+1)).map f=(List.range j).map f++[f j]:=by
 rw[List.range_succ,jC];rfl
theorem DR (v q:Nat) (h:q<v):(List.replicate v (0:Int))[q]?=some 0:=by rw[ff,if_pos h]
theorem I7 (fu:Nat) (s:c9) (i:Nat) (hs:s.ba.aU.length≤4000000) (hf:4000010<fu):aB (F.li fu s) fu (0,[⟨List.replicate s.ba.aU.length (0:Int),(i:Int)⟩])=some (uO s.ba.aU.length i):=by
 have hl:=PL.tU (body:=F.li fu s) s.ba.aU (fun j=>((j:Int),(⟨List.replicate s.ba.aU.length (0:Int),(i:Int)⟩:aO)::(List.range j).map (zU s.ba.aU.length))) (uO s.ba.aU.length i)
  (fun j x hx=>by
   have hj:=ep hx
   have hw:=dh hj (by omega)
   have hc1:bo ((0:Int)≤(s.ba.aU.length:Int)∧(s.ba.aU.length:Int)≤(s.ba.aU.length:Int)∧((8:Nat):Int)*(s.ba.aU.length:Int)≤281474976710656∧(s.ba.aU.length:Int)≤9223372036854775807)=some ():=bJ (by omega)
   have hc2:∀(a:aO) (y:aO),bo ((a::(List.range j).map (zU s.ba.aU.length)).length+[y].length≤maxLen∧((a::(List.range j).map (zU s.ba.aU.length)).length+[y].length)*32≤140737488355328)=some ():=fun a y=>PL.Ka (by simp only[bA,aW,jq,cX];omega) (by simp only[bA,aW,jq,cX];omega)
   simp only[F.li,dec_lt hx,cond_true,hc1,ae,bc,bM (DR _ _ hj),hc2,hw,wi,bx]
   rfl)
  (by simp only[F.li,eF,cond_false];rfl) fu (by omega)
 simpa using hl
theorem Og (fu:Nat) (n:aM) (hsl:n.bC.length≤4000000) (hbx:∀s∈n.bC,s.ba.aU.length≤4000000) (hf:4000010<fu):F.rC fu n=some (iF n n.bC.length):=by
 unfold F.rC
 have hl:=PL.tU (body:=F.nJ fu n) n.bC (fun j=>((j:Int),iF n j)) (iF n n.bC.length)
  (fun j s hx=>by
   have hj:=ep hx
   have hw:=dh hj (by omega)
   have hb:=hbx s (ar hx)
   have hc1:bo ((0:Int)≤(s.ba.aU.length:Int)∧(s.ba.aU.length:Int)≤(s.ba.aU.length:Int)∧((8:Nat):Int)*(s.ba.aU.length:Int)≤281474976710656∧(s.ba.aU.length:Int)≤9223372036854775807)=some ():=bJ (by omega)
   have hc2:∀y:List aO,bo ((iF n j).length+[y].length≤maxLen∧((iF n j).length+[y].length)*24≤140737488355328)=some ():=fun y=>PL.Ka (by unfold iF;simp only[bA,aW,jq,cX];omega) (by unfold iF;simp only[bA,aW,jq,cX];omega)
   have e:iF n (j+1)=iF n j++[uO s.ba.aU.length j]:=by
    unfold iF
    rw[wi]
    have:D6 n j=s.ba.aU.length:=by unfold D6;rw[hx];rfl
    rw[this]
   simp only[F.nJ,dec_lt hx,cond_true,bM hx,hc1,ae,bc,I7 fu s j hb hf,hc2,hw,e])
  (by simp only[F.nJ,eF,cond_false]) fu (by omega)
 have e0:iF n 0=[]:=rfl
 simp only[e0] at hl
 rw[show((0:Nat):Int)=0 from rfl] at hl
 simp only[hl,ae]
theorem yF {t:Nat→Int}:∀{n:Nat},(∀i,i<n→t i=0)→j7 t n=0
 | 0,_=>rfl
 | n+1,h=>by
  show j7 t n+t n=0
  rw[yF fun i hi=>h i (by omega),h n (by omega)];rfl
theorem GF {t:Nat→Int}{q:Nat}:∀{n:Nat},q<n→(∀i,i<n→i≠q→t i=0)→j7 t n=t q
 | 0,h,_=>by omega
 | n+1,h,ht=>by
  show j7 t n+t n=t q
  by_cases e:n=q
  ·subst e
   rw[yF fun i hi=>ht i (by omega) (by omega)];omega
  ·rw[GF (n:=n) (by omega) fun i hi=>ht i (by omega),ht n (by omega) e];omega
theorem Q6 (v:Nat) (i:Int) (x:List Int):dR ⟨List.replicate v (0:Int),i⟩ x=i:=by
 unfold dR
 rw[yF fun k hk=>by
  simp only[eY] at hk
  simp only[aE,DR v k hk]
  simp]
 simp
theorem Q7 {v q:Nat}(h:q<v) (x:List Int):dR (zU v q) x=x.getD q 0:=by
 unfold dR zU
 simp only[cW,eY]
 rw[GF h fun k hk hn=>by
  have:((List.replicate v (0:Int)).set q 1)[k]?=some 0:=by rw[dr,if_neg (by omega),DR v k hk]
  simp only[aE,this]
  simp]
 have:((List.replicate v (0:Int)).set q 1)[q]?=some 1:=by rw[dr,if_pos rfl,if_pos (by simpa using h)]
 simp only[aE,this]
 simp
theorem Oa {v:Nat}(i:Nat){x:List Int}(h:x.length=v):pg (uO v i) x=(i:Int)::x:=by
 unfold pg uO
 rw[aJ,Q6,fR]
 congr 1
 refine nA (by simp[h]) fun k h1 h2=>?_
 simp only[aW,jq] at h1
 simp only[List.getElem_map,List.getElem_range,Function.comp]
 rw[Q7 h1,aE,ag h2];rfl
theorem uP {n:aM}{i:Nat}{s:c9}(hs:n.bC[i]?=some s){x:List Int}(h:x.length=s.ba.aU.length):ph 8 (iF n n.bC.length) ⟨(i:Int),x⟩=(i:Int)::(x++List.replicate (7-x.length) 0):=by
 have hi:=ep hs
 have e:(iF n n.bC.length).getD i []=uO s.ba.aU.length i:=by
  unfold iF
  rw[aE,ay,iL hi]
  show uO (D6 n i) i=_
  have:D6 n i=s.ba.aU.length:=by unfold D6;rw[hs];rfl
  rw[this]
 unfold ph
 rw[bc,e,Oa i h]
 unfold pQ
 rw[bA,show 8-(x.length+1)=7-x.length by omega]
 rfl
theorem JJ:∀(t a b:List Int),g8 (t++a) (t++b)=g8 a b
 | [],_,_=>rfl
 | x::t,a,b=>by
  simp only[bx,g8,JJ t a b,Int.lt_irrefl,if_false]
theorem Ij:∀(r pre:List Int),(ext r pre).Pairwise fun a b=>g8 a b=true
 | [],pre=>by simp[ext]
 | n::r,pre=>by
  simp only[ext]
  rw[List.pairwise_flatMap]
  refine⟨fun i _=>Ij r _,?_⟩
  have hn:(List.range n.toNat).Pairwise (· < ·):=List.pairwise_lt_range
  refine hn.imp fun {i j} hij=>?_
  intro q hq q' hq'
  obtain⟨t,rfl,_⟩:=tD.1 hq
  obtain⟨t',rfl,_⟩:=tD.1 hq'
  rw[aC,aC,JJ,List.singleton_append,List.singleton_append]
  have:(i:Int)<(j:Int):=by omega
  simp only[g8,if_pos this]
theorem KI {n:aM}(hg:∀s∈n.bC,ix n s):(eD n).Pairwise fun a b=>g8 (ph 8 (iF n n.bC.length) a) (ph 8 (iF n n.bC.length) b)=true:=by
 have key:∀q∈n.bC.zipIdx,n.bC[q.2]?=some q.1:=fun q hq=>by
  obtain⟨k,hk⟩:=bR hq
  obtain⟨h1,h2⟩:=tu hk
  rw[h2];exact h1
 unfold eD
 rw[List.pairwise_flatMap]
 refine⟨fun q hq=>?_,?_⟩
 ·have hs:=key q hq
  have gs:=hg q.1 (ar hs)
  unfold nC
  rw[List.pairwise_map]
  refine((Ij q.1.ba.aU []).filter _).imp_of_mem fun {a b} ha hb h=>?_
  have la:=(vX gs.dm ha).2
  have lb:=(vX gs.dm hb).2
  rw[uP hs la,uP hs lb]
  simp only[g8,Int.lt_irrefl,if_false]
  rw[la,lb,Ag _ (by omega)]
  exact h
 ·rw[List.pairwise_iff_getElem]
  intro i j hi hj hij x hx y hy
  have e1:=key _ (dE hi)
  have e2:=key _ (dE hj)
  have i1:(n.bC.zipIdx[i]).2=i:=(tu (ag hi)).2
  have i2:(n.bC.zipIdx[j]).2=j:=(tu (ag hj)).2
  unfold nC at hx hy
  obtain⟨a,ha,rfl⟩:=gS.1 hx
  obtain⟨b,hb,rfl⟩:=gS.1 hy
  have la:=(vX (hg _ (ar e1)).dm ha).2
  have lb:=(vX (hg _ (ar e2)).dm hb).2
  rw[uP e1 la,uP e2 lb]
  have:((n.bC.zipIdx[i]).2:Int)<((n.bC.zipIdx[j]).2:Int):=by rw[i1,i2];omega
  simp only[g8,if_pos this]
theorem Fj {n:aM}{bad:bE→bE→Bool}:∀{todo done:List bE},(∀a∈done,∀b∈todo,bad a b=false)→(todo.Pairwise fun a b=>bad a b=false)→oi n bad done todo=none
 | [],_,_,_=>rfl
 | q::r,done,h,hp=>by
  have e:done.find? (fun a=>gw n a q&&bad a q)=none:=List.find?_eq_none.2 fun a ha=>by
   rw[h a ha q au,Bool.and_false];simp
  simp only[oi,e]
  obtain⟨h1,h2⟩:=dQ.1 hp
  refine Fj (fun a ha b hb=>?_) h2
  rcases cP.1 ha with ha | ha
  ·exact h a ha b (ao _ hb)
  ·rw[cu.1 ha];exact h1 b hb
theorem KW {n:aM}(go:yh n (iF n n.bC.length)) (alike:Bool):oi n (qt alike (iF n n.bC.length)) [] (eD n)=none:=by
 obtain⟨hl,hz,hg⟩:=lU go.wn
 refine Fj (fun a ha=>by cases ha) ((KI hg).imp fun {a b} h=>?_)
 cases alike with
 | false=>exact Bw h
 | true=>
  refine decide_eq_false fun e=>?_
  rw[e,wk] at h;cases h
theorem Hj (n:aM) (mem:List (List Int)) (mix:List Int) (hs:n.cC.length≤1048576) (hst:n.bC.length≤4000000) (hbx:∀s∈n.bC,s.ba.aU.length≤4000000):F.iW 70000000000 n mem mix=some true:=by
 have hal:F.jo 70000000000=some true:=Pu 69999999980
 generalize hfu:70000000000=fu at hal⊢
 have P:=Og fu n hst hbx (by omega)
 generalize ht:iF n n.bC.length=times at P
 have L:=FD fu (by omega) (n:=n) (times:=times) hs
 have R:=Hk fu (by omega) (n:=n) (times:=times) hs
 unfold F.iW
 simp only[hal,ae,jQ,cond_false,P,L]
 by_cases h0:(rJ n times (qt false times)).2=0
 ·rw[PL.bne_false h0]
  have hw:oW n times=0∧(eD n).length≤1024:=by
   unfold rJ at h0
   split at h0
   ·rename_i h;exact absurd h0 h
   ·split at h0
    ·cases h0
    ·exact⟨by omega,by omega⟩
  obtain⟨hw,h3⟩:=hw
  have go:=Lo hw
  have nn:∀alike,oi n (qt alike times) [] (eD n)=none:=fun alike=>by
   have:=KW (n:=n) (ht▸go) alike
   rwa[ht] at this
  have fv:∀alike,rJ n times (qt alike times)=(JC,0):=fun alike=>by
   rw[Ih _ go h3 hw,nn alike]
  have b0:((0:Int) !=0)=false:=rfl
  have bn:JC.Any=false:=rfl
  simp only[cond_false,R,fv,ae,b0,bn]
  rcases MN fu hs go.wn mem (by omega) with ⟨hF,hN⟩ | ⟨hF,e,he,hc,hN⟩
  ·rcases AI fu (by omega) hs hw h3 mem mix (nn false) (.inr (nn true)) with ⟨_,hO⟩ | ⟨hF',_⟩
   ·have b1:((0:Int)==0)=true:=rfl
    simp only[hN,hO,ae,b1,cond_true,Ms fu go hs hF (by omega)]
   ·exact absurd hF hF'
  ·rcases AI fu (by omega) hs hw h3 mem mix (nn false) (.inr (nn true)) with ⟨hF',_⟩ | ⟨_,e',he',hc',hO⟩
   ·exact absurd hF' hF
   ·rw[hc] at hc'
    cases hc'
    have be:(e==e)=true:=by simp
    simp only[hN,hO,ae,be,cond_true,Jr fu [] (by simp) (fun r hr=>by cases hr) (by omega)]
 ·rw[PL.bne_true h0];rfl
end Go.DN.So
