/-
  Nest: the plain law: one statement at one point.
-/
import Derived.Test.YtfkigaldejbeiaaFvC
set_option linter.unusedSimpArgs false
set_option linter.unusedVariables false
namespace Go.DN
open Go.AM
theorem Mw {r:aO}{v:Int}(h:fN r v=0):(r.db.length:Int)=v∧(-1048576≤r.Const∧r.Const≤1048576)∧∀c∈r.db,-1048576≤c∧c≤1048576:=by
 unfold fN at h
 split at h
 ·cases h
 ·rename_i hl
  split at h
  ·cases h
  ·rename_i hb
   simp only[dG,not_or,Bool.not_eq_true] at hb
   exact⟨by omega,xZ hb.1,fun c hc=>xZ (by have:=mB.1 hb.2 c hc;simpa using this)⟩
theorem Good.with {p:bu}(g:Good p){r:aO}(h:fN r p.aU.length=0):Good ⟨p.aU,[r]⟩:=by
 obtain⟨h1,h2,h3⟩:=Mw h
 exact⟨g.len,g.box,g.prod,by simp,fun q hq=>by simp at hq;subst hq;exact⟨by simp only;omega,h2,h3⟩⟩
structure qx (n:aM) (p:bu) (a:bK):Prop where
 lo:0≤a.Array
 hi:a.Array<n.cC.length
 row:fN a.At p.aU.length=0
def Fits (n:aM) (m:List (List Int)):Prop:=m.map (fun r=>(List.length r:Int))=n.cC
def gD (m:List (List Int)) (a:bK):List Int:=m.getD a.Array.toNat []
def sc (m:List (List Int)) (a:bK) (x:List Int):Prop:=0≤dR a.At x∧dR a.At x<(gD m a).length
instance (m:List (List Int)) (a:bK) (x:List Int):Decidable (sc m a x):=inferInstanceAs (Decidable (_∧_))
def getM (m:List (List Int)) (a:bK) (x:List Int):Int:=if sc m a x then(gD m a).getD (dR a.At x).toNat 0 else 0
theorem Fits.len {n:aM}{m:List (List Int)}(h:Fits n m):m.length=n.cC.length:=by
 have:=congrArg List.length h
 simpa using this
theorem Fits.get {n:aM}{m:List (List Int)}(h:Fits n m){p:bu}{a:bK}(ga:qx n p a):m[a.Array.toNat]?=some (gD m a)∧idx n.cC a.Array=some ((gD m a).length:Int):=by
 have hl:=h.len
 have h0:=ga.lo
 have h1:=ga.hi
 have hlt:a.Array.toNat<m.length:=by omega
 have e1:m[a.Array.toNat]?=some (gD m a):=by
  unfold gD
  rw[aE,ag hlt];rfl
 refine⟨e1,?_⟩
 unfold idx
 rw[if_pos h0]
 have h:m.map (fun r=>(List.length r:Int))=n.cC:=h
 rw[←h,ay,e1];rfl
theorem Mn {α:Type}{l:List α}{i:Nat}{x:α}(h:l[i]?=some x):l.set i x=l:=by
 apply kF
 intro j
 rw[dr]
 split
 ·rename_i e
  subst e
  split
  ·exact h.symm
  ·rename_i hn
   rw[List.getElem?_eq_none (by omega)] at h;cases h
 ·rfl
theorem Fits.set {n:aM}{m:List (List Int)}(h:Fits n m){p:bu}{a:bK}(ga:qx n p a) (j:Nat) (v:Int):Fits n (m.set a.Array.toNat ((gD m a).set j v)):=by
 have h':m.map (fun r=>(List.length r:Int))=n.cC:=h
 show List.map _ _=_
 rw[kE,cW,h']
 obtain⟨_,h2⟩:=h.get ga
 unfold idx at h2
 rw[if_pos ga.lo] at h2
 exact Mn h2
theorem He (fu:Nat){n:aM}{p:bu}(g:Good p){a:bK}(ga:qx n p a){x:List Int}(hx:ku x) (hl:x.length=p.aU.length){m:List (List Int)}(hm:Fits n m) (hf:10<fu):
  F.jJ fu a x m=some (if sc m a x then(false,a.Array,dR a.At x,m) else(true,0,0,m)):=by
 obtain⟨e1,_⟩:=hm.get ga
 have e0:=LM fu (g.with ga.row) (r:=a.At) (by simp) hx hl hf
 have c0:=bJ (p:=(0:Int)≤a.Array∧a.Array<(m.length:Int)) ⟨ga.lo,by have:=ga.hi;have:=hm.len;omega⟩
 have et:((a.Array.toNat:Nat):Int)=a.Array:=by have:=ga.lo;omega
 unfold F.jJ
 simp only[e0,ae,c0,e1]
 by_cases h0:dR a.At x<0
 ·have hn:¬sc m a x:=fun h=>by have:=h.1;omega
  have d:decide (dR a.At x<0)=true:=by simpa using h0
  simp only[d,cond_true,ae,if_neg hn]
 ·have d:decide (dR a.At x<0)=false:=by simpa using h0
  simp only[d,cond_false,ae]
  by_cases h1:dR a.At x<(gD m a).length
  ·have hn:sc m a x:=⟨by omega,h1⟩
   have d:decide (dR a.At x≥((List.length (gD m a):Nat):Int))=false:=by simp;omega
   have c1:=bJ (p:=(0:Int)≤dR a.At x∧dR a.At x<((List.length (gD m a):Nat):Int)) ⟨by omega,h1⟩
   have e2:(((dR a.At x).toNat:Nat):Int)=dR a.At x:=by omega
   simp only[d,cond_false,c1,ae,if_pos hn,et,e2]
  ·have hn:¬sc m a x:=fun h=>h1 h.2
   have d:decide (dR a.At x≥((List.length (gD m a):Nat):Int))=true:=by simp;omega
   simp only[d,cond_true,if_neg hn]
theorem RN (fu:Nat){n:aM}{p:bu}(g:Good p){a:bK}(ga:qx n p a){x:List Int}(hx:ku x) (hl:x.length=p.aU.length){m:List (List Int)}(hm:Fits n m) (hf:10<fu):
  F.kN fu a x m=some (getM m a x,m):=by
 obtain⟨e1,_⟩:=hm.get ga
 unfold F.kN
 rw[He fu g ga hx hl hm hf,ae]
 unfold getM
 by_cases hn:sc m a x
 ·simp only[if_pos hn]
  have c1:∀[Decidable True],bo True=some ():=bJ trivial
  have e2:(gD m a)[(dR a.At x).toNat]?=some ((gD m a).getD (dR a.At x).toNat 0):=fw (by have:=hn.1;have:=hn.2;omega)
  simp only[aI,cond_true,iD,c1,ae,e1,e2]
 ·simp only[if_neg hn,aI,cond_true,jQ,cond_false]
def kW (d:Int):Int:=if d=1 then 0 else if d=2∨d=9 then 1 else if d=3∨d=4∨d=5∨d=6∨d=7∨d=10 then 2 else if d=8 then 3 else -1
structure ix (n:aM) (s:c9):Prop where
 bad:mR s.ba=0
 dm:Good s.ba
 uc:kW s.Do=s.de.length
 put:qx n s.ba s.cg
 get:∀a∈s.de,qx n s.ba a
def lP (s:c9) (v:List Int) (was:Int):Int:=
 if s.Do=1 then s.Value else if s.Do=2 then v.getD 0 0 else if s.Do=3 then IntKind.i64.wrap (v.getD 0 0+v.getD 1 0) else if s.Do=4 then IntKind.i64.wrap (v.getD 0 0-v.getD 1 0)
 else if s.Do=5 then IntKind.i64.wrap (v.getD 0 0*v.getD 1 0) else if s.Do=6 then(if v.getD 1 0>v.getD 0 0 then v.getD 1 0 else v.getD 0 0) else if s.Do=7 then(if v.getD 0 0<v.getD 1 0 then 1 else 0)
 else if s.Do=8 then(if v.getD 0 0≠0 then v.getD 1 0 else v.getD 2 0) else if s.Do=9 then IntKind.i64.wrap (was+v.getD 0 0) else IntKind.i64.wrap (was+IntKind.i64.wrap (v.getD 0 0*v.getD 1 0))
def vj (s:c9) (x:List Int) (m:List (List Int)):List (List Int):=
 if sc m s.cg x then m.set s.cg.Array.toNat ((gD m s.cg).set (dR s.cg.At x).toNat (lP s (s.de.map fun a=>getM m a x) ((gD m s.cg).getD (dR s.cg.At x).toNat 0))) else m
theorem xG {n:aM}{s:c9}(g:ix n s) (x:List Int){m:List (List Int)}(hm:Fits n m):Fits n (vj s x m):=by
 unfold vj
 split
 ·exact hm.set g.put _ _
 ·exact hm
theorem PW (fu:Nat){n:aM}{s:c9}(g:ix n s){x:List Int}(hx:ku x) (hl:x.length=s.ba.aU.length){m:List (List Int)}(hm:Fits n m) (hf:20<fu):
  aB (F.gE fu s x) fu (0,m,[0,0,0])=some (m,(s.de.map fun a=>getM m a x)++List.replicate (3-s.de.length) 0):=by
 have h3:s.de.length≤3:=by
  have:=g.uc
  unfold kW at this
  split at this
  ·omega
  ·split at this
   ·omega
   ·split at this
    ·omega
    ·split at this <;> omega
 have fo:∀a∈s.de,F.kN fu a x m=some (getM m a x,m):=fun a ha=>RN fu g.dm (g.get a ha) hx hl hm (by omega)
 have hbl:Nat.beq (List.length m) (List.length m)=true:=aI _
 have w0:IntKind.i64.wrap 1=1:=by decide
 have w1:IntKind.i64.wrap 2=2:=by decide
 have w2:IntKind.i64.wrap 3=3:=by decide
 have key:∀f,aB (F.gE fu s x) (f+5) (0,m,[0,0,0])=some (m,(s.de.map fun a=>getM m a x)++List.replicate (3-s.de.length) 0):=by
  intro f
  generalize hG:s.de=G at h3 fo
  match G,h3 with
  | [],_=>simp[aB,F.gE,hG,List.replicate]
  | [a],_=>
   have ha:=fo a (by simp)
   simp[aB,F.gE,hG,idx,ha,hbl,w0,List.replicate]
  | [a,b],_=>
   have ha:=fo a (by simp)
   have hb:=fo b (by simp)
   simp[aB,F.gE,hG,idx,ha,hb,hbl,w0,w1,List.replicate]
  | [a,b,c],_=>
   have ha:=fo a (by simp)
   have hb:=fo b (by simp)
   have hc:=fo c (by simp)
   simp[aB,F.gE,hG,idx,ha,hb,hc,hbl,w0,w1,w2]
  | _::_::_::_::_,h=>simp at h
 have:=key (fu-5)
 rwa[show fu-5+5=fu by omega] at this
theorem AQ {d:Int}{k:Nat}(h:kW d=k):(d=1∧k=0)∨(d=2∧k=1)∨(d=9∧k=1)∨(d=3∧k=2)∨(d=4∧k=2)∨(d=5∧k=2)∨(d=6∧k=2)∨(d=7∧k=2)∨(d=10∧k=2)∨(d=8∧k=3):=by
 unfold kW at h
 split at h
 ·omega
 ·split at h
  ·omega
  ·split at h
   ·omega
   ·split at h <;> omega
theorem EX (fu:Nat){n:aM}{s:c9}(g:ix n s){x:List Int}(hx:ku x) (hl:x.length=s.ba.aU.length){m:List (List Int)}(hm:Fits n m) (hf:20<fu):
  F.lk fu s x m=some (vj s x m):=by
 obtain⟨e1,_⟩:=hm.get g.put
 have hrep:List.replicate (Int.toNat 3) (0:Int)=[0,0,0]:=rfl
 unfold F.lk vj
 rw[bJ]
 rotate_left
 ·omega
 rw[ae,hrep,PW fu g hx hl hm hf,ae]
 dsimp only
 rw[He fu g.dm g.put hx hl hm (by omega),ae]
 have c1:∀[Decidable True],bo True=some ():=bJ trivial
 by_cases hn:sc m s.cg x
 ·have hj:(dR s.cg.At x).toNat<(gD m s.cg).length:=by have:=hn.1;have:=hn.2;omega
  have c2:=bJ hj
  have e2:(gD m s.cg)[(dR s.cg.At x).toNat]?=some ((gD m s.cg).getD (dR s.cg.At x).toNat 0):=fw hj
  have hi:s.cg.Array.toNat<m.length:=(al.1 e1).1
  simp only[if_pos hn,aI,cond_true,cond_false]
  generalize hV:s.de.map (fun a=>getM m a x)=V
  have hVl:V.length=s.de.length:=by rw[←hV,aW]
  generalize (gD m s.cg).getD (dR s.cg.At x).toNat 0=was at e2⊢
  generalize dR s.cg.At x=w at *
  rcases AQ g.uc with h | h | h | h | h | h | h | h | h | h <;> obtain⟨hd,hk⟩:=h <;> rw[hk] at hVl
  ·obtain rfl:=bp hVl
   simp[hd,c1,e1,c2,lP]
  ·match V,hVl with
   | [a],_=>simp[hd,c1,e1,e2,c2,lP,idx]
  ·match V,hVl with
   | [a],_=>simp[hd,c1,e1,e2,c2,lP,idx]
  ·match V,hVl with
   | [a,b],_=>simp[hd,c1,e1,e2,c2,lP,idx]
  ·match V,hVl with
   | [a,b],_=>simp[hd,c1,e1,e2,c2,lP,idx]
  ·match V,hVl with
   | [a,b],_=>simp[hd,c1,e1,e2,c2,lP,idx]
  ·match V,hVl with
   | [a,b],_=>simp[hd,c1,e1,e2,c2,lP,idx]
  ·match V,hVl with
   | [a,b],_=>
    have c3:∀v:Int,bo (w.toNat<((gD m s.cg).set w.toNat v).length)=some ():=fun v=>bJ (by rw[cW];exact hj)
    have e3:∀v:Int,(m.set s.cg.Array.toNat ((gD m s.cg).set w.toNat v))[s.cg.Array.toNat]?=some ((gD m s.cg).set w.toNat v):=fun v=>cG hi
    by_cases hab:a<b
    ·simp[hd,c1,e1,c2,lP,idx,hab,e3,hj,bJ]
    ·simp[hd,c1,e1,c2,lP,idx,hab]
  ·match V,hVl with
   | [a,b],_=>simp[hd,c1,e1,e2,c2,lP,idx]
  ·match V,hVl with
   | [a,b,c],_=>
    have e3:∀v:Int,(m.set s.cg.Array.toNat ((gD m s.cg).set w.toNat v))[s.cg.Array.toNat]?=some ((gD m s.cg).set w.toNat v):=fun v=>cG hi
    by_cases hab:a=0
    ·simp[hd,c1,e1,c2,lP,idx,hab]
    ·have hb:(a !=0)=true:=by simpa using hab
     simp[hd,c1,e1,c2,lP,idx,hab,hb,e3,hj,bJ]
 ·simp only[if_neg hn,aI,cond_true]
theorem ix.le {n:aM}{s:c9}(g:ix n s):s.de.length≤3:=by
 rcases AQ g.uc with h | h | h | h | h | h | h | h | h | h <;> omega
end Go.DN
