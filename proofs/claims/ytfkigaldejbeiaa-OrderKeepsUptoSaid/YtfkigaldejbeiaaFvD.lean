/-
  Nest: the plain law: one statement at one point.
-/
import Derived.Test.YtfkigaldejbeiaaFvC
set_option linter.unusedSectionVars false
set_option linter.unusedSimpArgs false
set_option linter.unusedVariables false
namespace Go.DN
open Go.AM
theorem LB {r:aS}{v:Int}(h:fK r v=0):(r.cZ.length:Int)=v∧(-1048576≤r.Const∧r.Const≤1048576)∧∀c∈r.cZ,-1048576≤c∧c≤1048576:=by
 unfold fK at h
 split at h
 ·cases h
 ·rename_i hl
  split at h
  ·cases h
  ·rename_i hb
   simp only[dC,not_or,Bool.not_eq_true] at hb
   exact⟨by omega,xt hb.1,fun c hc=>xt (by have:=mo.1 hb.2 c hc;simpa using this)⟩
theorem Good.with {p:bp}(g:Good p){r:aS}(h:fK r p.ba.length=0):Good ⟨p.ba,[r]⟩:=by
 obtain⟨h1,h2,h3⟩:=LB h
 exact⟨g.len,g.box,g.prod,by simp,fun q hq=>by simp at hq;subst hq;exact⟨by simp only;omega,h2,h3⟩⟩
structure qd (n:aP) (p:bp) (a:bF):Prop where
 lo:0≤a.Array
 hi:a.Array<n.cA.length
 row:fK a.At p.ba.length=0
def Fits (n:aP) (m:List (List Int)):Prop:=m.map (fun r=>(List.length r:Int))=n.cA
def gv (m:List (List Int)) (a:bF):List Int:=m.getD a.Array.toNat []
def rG (m:List (List Int)) (a:bF) (x:List Int):Prop:=0≤ei a.At x∧ei a.At x<(gv m a).length
instance (m:List (List Int)) (a:bF) (x:List Int):Decidable (rG m a x):=inferInstanceAs (Decidable (_∧_))
def getM (m:List (List Int)) (a:bF) (x:List Int):Int:=if rG m a x then(gv m a).getD (ei a.At x).toNat 0 else 0
theorem Fits.len {n:aP}{m:List (List Int)}(h:Fits n m):m.length=n.cA.length:=by
 have:=congrArg List.length h
 simpa using this
theorem Fits.get {n:aP}{m:List (List Int)}(h:Fits n m){p:bp}{a:bF}(ga:qd n p a):m[a.Array.toNat]?=some (gv m a)∧idx n.cA a.Array=some ((gv m a).length:Int):=by
 have hl:=h.len
 have h0:=ga.lo
 have h1:=ga.hi
 have hlt:a.Array.toNat<m.length:=by omega
 have e1:m[a.Array.toNat]?=some (gv m a):=by
  unfold gv
  rw[aL,ag hlt];rfl
 refine⟨e1,?_⟩
 unfold idx
 rw[if_pos h0]
 have h:m.map (fun r=>(List.length r:Int))=n.cA:=h
 rw[←h,ay,e1];rfl
theorem Ls {α:Type}{l:List α}{i:Nat}{x:α}(h:l[i]?=some x):l.set i x=l:=by
 apply kA
 intro j
 rw[dI]
 split
 ·rename_i e
  subst e
  split
  ·exact h.symm
  ·rename_i hn
   rw[List.getElem?_eq_none (by omega)] at h;cases h
 ·rfl
theorem Fits.set {n:aP}{m:List (List Int)}(h:Fits n m){p:bp}{a:bF}(ga:qd n p a) (j:Nat) (v:Int):Fits n (m.set a.Array.toNat ((gv m a).set j v)):=by
 have h':m.map (fun r=>(List.length r:Int))=n.cA:=h
 show List.map _ _=_
 rw[kz,de,h']
 obtain⟨_,h2⟩:=h.get ga
 unfold idx at h2
 rw[if_pos ga.lo] at h2
 exact Ls h2
theorem Gl (fu:Nat){n:aP}{p:bp}(g:Good p){a:bF}(ga:qd n p a){x:List Int}(hx:kl x) (hl:x.length=p.ba.length){m:List (List Int)}(hm:Fits n m) (hf:10<fu):
  F.jE fu a x m=some (if rG m a x then(false,a.Array,ei a.At x,m) else(true,0,0,m)):=by
 obtain⟨e1,_⟩:=hm.get ga
 have e0:=KT fu (g.with ga.row) (r:=a.At) (by simp) hx hl hf
 have c0:=bK (p:=(0:Int)≤a.Array∧a.Array<(m.length:Int)) ⟨ga.lo,by have:=ga.hi;have:=hm.len;omega⟩
 have et:((a.Array.toNat:Nat):Int)=a.Array:=by have:=ga.lo;omega
 unfold F.jE
 simp only[e0,ab,c0,e1]
 by_cases h0:ei a.At x<0
 ·have hn:¬rG m a x:=fun h=>by have:=h.1;omega
  have d:decide (ei a.At x<0)=true:=by simpa using h0
  simp only[d,cond_true,ab,if_neg hn]
 ·have d:decide (ei a.At x<0)=false:=by simpa using h0
  simp only[d,cond_false,ab]
  by_cases h1:ei a.At x<(gv m a).length
  ·have hn:rG m a x:=⟨by omega,h1⟩
   have d:decide (ei a.At x≥((List.length (gv m a):Nat):Int))=false:=by simp;omega
   have c1:=bK (p:=(0:Int)≤ei a.At x∧ei a.At x<((List.length (gv m a):Nat):Int)) ⟨by omega,h1⟩
   have e2:(((ei a.At x).toNat:Nat):Int)=ei a.At x:=by omega
   simp only[d,cond_false,c1,ab,if_pos hn,et,e2]
  ·have hn:¬rG m a x:=fun h=>h1 h.2
   have d:decide (ei a.At x≥((List.length (gv m a):Nat):Int))=true:=by simp;omega
   simp only[d,cond_true,if_neg hn]
theorem QX (fu:Nat){n:aP}{p:bp}(g:Good p){a:bF}(ga:qd n p a){x:List Int}(hx:kl x) (hl:x.length=p.ba.length){m:List (List Int)}(hm:Fits n m) (hf:10<fu):
  F.kI fu a x m=some (getM m a x,m):=by
 obtain⟨e1,_⟩:=hm.get ga
 unfold F.kI
 rw[Gl fu g ga hx hl hm hf,ab]
 unfold getM
 by_cases hn:rG m a x
 ·simp only[if_pos hn]
  have c1:∀[Decidable True],bq True=some ():=bK trivial
  have e2:(gv m a)[(ei a.At x).toNat]?=some ((gv m a).getD (ei a.At x).toNat 0):=fp (by have:=hn.1;have:=hn.2;omega)
  simp only[aG,cond_true,iw,c1,ab,e1,e2]
 ·simp only[if_neg hn,aG,cond_true,jL,cond_false]
def kR (d:Int):Int:=if d=1 then 0 else if d=2∨d=9 then 1 else if d=3∨d=4∨d=5∨d=6∨d=7∨d=10 then 2 else if d=8 then 3 else -1
structure iD (n:aP) (s:dh):Prop where
 bad:mI s.bI=0
 dz:Good s.bI
 tB:kR s.Do=s.c9.length
 put:qd n s.bI s.cf
 get:∀a∈s.c9,qd n s.bI a
def lI (s:dh) (v:List Int) (was:Int):Int:=
 if s.Do=1 then s.Value else if s.Do=2 then v.getD 0 0 else if s.Do=3 then IntKind.i64.wrap (v.getD 0 0+v.getD 1 0) else if s.Do=4 then IntKind.i64.wrap (v.getD 0 0-v.getD 1 0)
 else if s.Do=5 then IntKind.i64.wrap (v.getD 0 0*v.getD 1 0) else if s.Do=6 then(if v.getD 1 0>v.getD 0 0 then v.getD 1 0 else v.getD 0 0) else if s.Do=7 then(if v.getD 0 0<v.getD 1 0 then 1 else 0)
 else if s.Do=8 then(if v.getD 0 0≠0 then v.getD 1 0 else v.getD 2 0) else if s.Do=9 then IntKind.i64.wrap (was+v.getD 0 0) else IntKind.i64.wrap (was+IntKind.i64.wrap (v.getD 0 0*v.getD 1 0))
def uN (s:dh) (x:List Int) (m:List (List Int)):List (List Int):=
 if rG m s.cf x then m.set s.cf.Array.toNat ((gv m s.cf).set (ei s.cf.At x).toNat (lI s (s.c9.map fun a=>getM m a x) ((gv m s.cf).getD (ei s.cf.At x).toNat 0))) else m
theorem w7 {n:aP}{s:dh}(g:iD n s) (x:List Int){m:List (List Int)}(hm:Fits n m):Fits n (uN s x m):=by
 unfold uN
 split
 ·exact hm.set g.put _ _
 ·exact hm
theorem O5 (fu:Nat){n:aP}{s:dh}(g:iD n s){x:List Int}(hx:kl x) (hl:x.length=s.bI.ba.length){m:List (List Int)}(hm:Fits n m) (hf:20<fu):
  aB (F.gw fu s x) fu (0,m,[0,0,0])=some (m,(s.c9.map fun a=>getM m a x)++List.replicate (3-s.c9.length) 0):=by
 have h3:s.c9.length≤3:=by
  have:=g.tB
  unfold kR at this
  split at this
  ·omega
  ·split at this
   ·omega
   ·split at this
    ·omega
    ·split at this <;> omega
 have fg:∀a∈s.c9,F.kI fu a x m=some (getM m a x,m):=fun a ha=>QX fu g.dz (g.get a ha) hx hl hm (by omega)
 have hbl:Nat.beq (List.length m) (List.length m)=true:=aG _
 have w0:IntKind.i64.wrap 1=1:=by decide
 have w1:IntKind.i64.wrap 2=2:=by decide
 have w2:IntKind.i64.wrap 3=3:=by decide
 have key:∀f,aB (F.gw fu s x) (f+5) (0,m,[0,0,0])=some (m,(s.c9.map fun a=>getM m a x)++List.replicate (3-s.c9.length) 0):=by
  intro f
  generalize hG:s.c9=G at h3 fg
  match G,h3 with
  | [],_=>simp[aB,F.gw,hG,List.replicate]
  | [a],_=>
   have ha:=fg a (by simp)
   simp[aB,F.gw,hG,idx,ha,hbl,w0,List.replicate]
  | [a,b],_=>
   have ha:=fg a (by simp)
   have hb:=fg b (by simp)
   simp[aB,F.gw,hG,idx,ha,hb,hbl,w0,w1,List.replicate]
  | [a,b,c],_=>
   have ha:=fg a (by simp)
   have hb:=fg b (by simp)
   have hc:=fg c (by simp)
   simp[aB,F.gw,hG,idx,ha,hb,hc,hbl,w0,w1,w2]
  | _::_::_::_::_,h=>simp at h
 have:=key (fu-5)
 rwa[show fu-5+5=fu by omega] at this
theorem Ab {d:Int}{k:Nat}(h:kR d=k):(d=1∧k=0)∨(d=2∧k=1)∨(d=9∧k=1)∨(d=3∧k=2)∨(d=4∧k=2)∨(d=5∧k=2)∨(d=6∧k=2)∨(d=7∧k=2)∨(d=10∧k=2)∨(d=8∧k=3):=by
 unfold kR at h
 split at h
 ·omega
 ·split at h
  ·omega
  ·split at h
   ·omega
   ·split at h <;> omega
theorem Ee (fu:Nat){n:aP}{s:dh}(g:iD n s){x:List Int}(hx:kl x) (hl:x.length=s.bI.ba.length){m:List (List Int)}(hm:Fits n m) (hf:20<fu):
  F.lb fu s x m=some (uN s x m):=by
 obtain⟨e1,_⟩:=hm.get g.put
 have hrep:List.replicate (Int.toNat 3) (0:Int)=[0,0,0]:=rfl
 unfold F.lb uN
 rw[bK]
 rotate_left
 ·omega
 rw[ab,hrep,O5 fu g hx hl hm hf,ab]
 dsimp only
 rw[Gl fu g.dz g.put hx hl hm (by omega),ab]
 have c1:∀[Decidable True],bq True=some ():=bK trivial
 by_cases hn:rG m s.cf x
 ·have hj:(ei s.cf.At x).toNat<(gv m s.cf).length:=by have:=hn.1;have:=hn.2;omega
  have c2:=bK hj
  have e2:(gv m s.cf)[(ei s.cf.At x).toNat]?=some ((gv m s.cf).getD (ei s.cf.At x).toNat 0):=fp hj
  have hi:s.cf.Array.toNat<m.length:=(al.1 e1).1
  simp only[if_pos hn,aG,cond_true,cond_false]
  generalize hV:s.c9.map (fun a=>getM m a x)=V
  have hVl:V.length=s.c9.length:=by rw[←hV,a5]
  generalize (gv m s.cf).getD (ei s.cf.At x).toNat 0=was at e2⊢
  generalize ei s.cf.At x=w at *
  rcases Ab g.tB with h | h | h | h | h | h | h | h | h | h <;> obtain⟨hd,hk⟩:=h <;> rw[hk] at hVl
  ·obtain rfl:=bl hVl
   simp[hd,c1,e1,c2,lI]
  ·match V,hVl with
   | [a],_=>simp[hd,c1,e1,e2,c2,lI,idx]
  ·match V,hVl with
   | [a],_=>simp[hd,c1,e1,e2,c2,lI,idx]
  ·match V,hVl with
   | [a,b],_=>simp[hd,c1,e1,e2,c2,lI,idx]
  ·match V,hVl with
   | [a,b],_=>simp[hd,c1,e1,e2,c2,lI,idx]
  ·match V,hVl with
   | [a,b],_=>simp[hd,c1,e1,e2,c2,lI,idx]
  ·match V,hVl with
   | [a,b],_=>simp[hd,c1,e1,e2,c2,lI,idx]
  ·match V,hVl with
   | [a,b],_=>
    have c3:∀v:Int,bq (w.toNat<((gv m s.cf).set w.toNat v).length)=some ():=fun v=>bK (by rw[de];exact hj)
    have e3:∀v:Int,(m.set s.cf.Array.toNat ((gv m s.cf).set w.toNat v))[s.cf.Array.toNat]?=some ((gv m s.cf).set w.toNat v):=fun v=>cD hi
    by_cases hab:a<b
    ·simp[hd,c1,e1,c2,lI,idx,hab,e3,hj,bK]
    ·simp[hd,c1,e1,c2,lI,idx,hab]
  ·match V,hVl with
   | [a,b],_=>simp[hd,c1,e1,e2,c2,lI,idx]
  ·match V,hVl with
   | [a,b,c],_=>
    have e3:∀v:Int,(m.set s.cf.Array.toNat ((gv m s.cf).set w.toNat v))[s.cf.Array.toNat]?=some ((gv m s.cf).set w.toNat v):=fun v=>cD hi
    by_cases hab:a=0
    ·simp[hd,c1,e1,c2,lI,idx,hab]
    ·have hb:(a !=0)=true:=by simpa using hab
     simp[hd,c1,e1,c2,lI,idx,hab,hb,e3,hj,bK]
 ·simp only[if_neg hn,aG,cond_true]
theorem iD.le {n:aP}{s:dh}(g:iD n s):s.c9.length≤3:=by
 rcases Ab g.tB with h | h | h | h | h | h | h | h | h | h <;> omega
end Go.DN
