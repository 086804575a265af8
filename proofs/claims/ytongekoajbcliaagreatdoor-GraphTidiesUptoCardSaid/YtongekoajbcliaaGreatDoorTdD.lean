/-
  Graphs: the plain law of GraphTidies.
-/
import Derived.Test.YtongekoajbcliaaGreatDoorTdC
set_option linter.unusedSimpArgs false
set_option linter.unusedVariables false
set_option maxRecDepth 20000
namespace Go.DN.Pl
open Go.AM Go.PL
theorem Qk {fu:Nat}{g:cL}(h:(vk fu g).1=0):g.aJ.length≤4096∧(∀k,k<g.aJ.length→oW fu (nV g.aJ:Int) g.aJ k=0)∧g.lQ.any (jl g.aJ.length)=false:=by
 unfold vk at h;split at h
 ·exact absurd h (by simp)
 ·rename_i h0;split at h
  ·rename_i h1;exact absurd h h1
  ·rename_i h1;split at h
   ·exact absurd h (by simp)
   ·rename_i h2;have h1:ux fu (nV g.aJ:Int) g.aJ=0:=by simpa using h1
    exact⟨by omega,NR h1,by simpa using h2⟩
theorem Pb {n:Nat}{l:List Int}(h:l.any (jl n)=false):∀a∈l,0≤a∧a<(n:Int):=fun a ha=>by
 have:=fV.1 h a ha;unfold jl at this;simp at this;omega
theorem Yt {nodes:List aq}{k:Nat}{x:aq}(h:nodes[k]?=some x):nd nodes (k:Int)=x:=by
 unfold nd;rw[bO,bZ,h];rfl
theorem Um {nodes:List aq}{k:Nat}{x:aq}(h:nodes[k]?=some x) (hk:k<nV nodes):tV x=false:=by
 have hlt:=bP h;cases hp:tV x with
 | false=>rfl
 | true=>
  exfalso;unfold nV at hk;cases ho:xS nodes with
  | none=>
   unfold xS at ho;have:=lC.1 ho k (gx.2 hlt);unfold BW at this;rw[h] at this;simp only[hp,if_true] at this;cases this
  | some j=>
   rw[ho] at hk;have hk:k<j:=hk;unfold xS at ho;obtain⟨l1,a,l2,h1,h2,h3⟩:=List.findSome?_eq_some_iff.1 ho;have ha:a=j:=by
    unfold BW at h2;split at h2
    ·split at h2
     ·exact dV h2
     ·cases h2
    ·cases h2
   have hlen:l1.length=a:=by
    have h4:(List.range nodes.length)[l1.length]?=some a:=by rw[h1];simp
    rw[dr] at h4
    ·exact dV h4
    ·have:=congrArg List.length h1;simp at this;omega
   have hm:k∈l1:=by
    have h4:l1[k]?=some k:=by
     have h5:(List.range nodes.length)[k]?=some k:=dr hlt;rw[h1,eL (by omega)] at h5;exact h5
    exact aj h4
   have:=h3 k hm;unfold BW at this;rw[h] at this;simp only[hp,if_true] at this;cases this
def P5 (g:cL):Prop:=(g.aJ.length≤1048576∧∀x∈g.aJ,LU x.Op∧nW x.cH)∧nW g.lQ
theorem Ym {g:cL}(h:P5 g):Yn g:=⟨⟨by have:=h.1.1;omega,fun x hx=>⟨BY (h.1.2 x hx).1,(h.1.2 x hx).2.1⟩⟩,by have:=h.2.1;omega⟩
theorem WV {fu:Nat}{g:cL}(hg:P5 g) (h:(vk fu g).1=0):Jo g.aJ∧(∀i,0≤i→i<(nV g.aJ:Int)→(nd g.aJ i).cH=[])∧∀o∈g.lQ,0≤o∧o<(g.aJ.length:Int):=by
 obtain⟨h1,h2,h3⟩:=Qk h;have hn:∀(i:Int),0≤i→i<(g.aJ.length:Int)→∃k x,i=((k:Nat):Int)∧g.aJ[k]?=some x∧nd g.aJ i=x∧(k7 fu (nV g.aJ:Int) x (jr fu (nV g.aJ:Int) g.aJ k)).2=0∧(jr fu (nV g.aJ:Int) g.aJ k).length=k:=fun i h0 hi=>by
  have hlt:i.toNat<g.aJ.length:=by omega
  have hx:=ag hlt;refine⟨i.toNat,_,by omega,hx,?_,?_,C8 (by omega)⟩
  ·have:=Yt hx;rwa[gD h0] at this
  ·rw[←Ds hx];exact h2 _ hlt
 refine⟨⟨by omega,fun i h0 hi a ha=>?_,fun i h0 hi=>?_⟩,fun i h0 hi=>?_,Pb h3⟩
 ·obtain⟨k,x,e1,e2,e3,e4,e5⟩:=hn i h0 hi;rw[e3] at ha;have:=Pb (Js fu _ x _ e4) a ha;rw[e5] at this;omega
 ·obtain⟨k,x,e1,e2,e3,e4,e5⟩:=hn i h0 hi;have:=hg.1.2 x (aj e2);rw[e3];exact⟨this.1,this.2.1⟩
 ·have hple:=Ol g.aJ;obtain⟨k,x,e1,e2,e3,e4,e5⟩:=hn i h0 (by omega);rw[e3];have hnp:=Um e2 (by omega);unfold k7 at e4;rw[Js fu _ x _ (by unfold k7;exact e4),if_neg (by decide),hnp,if_neg (by decide)] at e4;split at e4
  ·exact absurd e4 (by simp)
  ·split at e4
   ·exact absurd e4 (by simp)
   ·rename_i h6;have h7:¬((x.cH.length:Int)>0):=fun e=>h6 (decide_eq_true e);exact bu (by omega)
theorem Pv {nodes:List aq}(hT:Jo nodes){p:Nat}(hp:p≤nodes.length){outs:List Int}(ho:∀o∈outs,0≤o∧o<(nodes.length:Int)):
  (CY nodes p outs).aJ.length≤nodes.length∧(∀x∈(CY nodes p outs).aJ,zK x.Op∧x.cH.length≤1048576)∧(CY nodes p outs).lQ.length=outs.length:=by
 have dL:xf nodes.length (fT nodes p outs):=(tp hT.rt (k:=nodes.length) (i:=(nodes.length:Int)) (iY _) (iY _) outs (gn p) ho (H4 hp)).1;have h1:=yI dL;have h2:=zy nodes (fT nodes p outs);exact⟨by show(runT nodes (fT nodes p outs)).1.length≤_;omega,Jh hT _ _ dL.2 (fun x hx=>by cases hx),by show(List.map _ _).length=_;rw[aN]⟩
theorem TX (fu:Nat) (g:cL) (hg:P5 g) (hf:4200000<fu):F.jM fu g=some true:=by
 have hG:=Ym hg;have hn:=hg.1.1;have hol:=hg.2.1;unfold F.jM F.Aa F.rl F.xW F.qq;rw[UG fu g hG (by omega),Vz fu g hG (by omega)];simp only[aa]
 by_cases h:(vk fu g).1=0
 ·obtain⟨hT,hP,hO⟩:=WV hg h;have hple:=Ol g.aJ;rw[bne_false h];simp only[cond_false];rw[Jl fu g (by omega) (by omega),FY fu g (by omega) (by omega)];simp only[aa];rw[WG fu hT hple hP hO (by omega) hf,Rx fu hT hple hO (by omega) hf];simp only[aa];obtain⟨t1,t2,t3⟩:=Pv hT hple hO;rw[Gu fu _ (by omega) t2 (by omega) hf];rfl
 ·rw[bne_true h];simp only[cond_true,aa];rw[Gu fu ⟨[],[]⟩ (iV _) (fun x hx=>by cases hx) (iV _) hf];simp
end Go.DN.Pl
