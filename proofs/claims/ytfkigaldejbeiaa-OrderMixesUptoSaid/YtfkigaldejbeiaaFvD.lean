/-
  Nest: the plain law: one statement at one point.
-/
import Derived.Test.YtfkigaldejbeiaaFvC
set_option linter.unusedSectionVars false
set_option linter.unusedSimpArgs false
set_option linter.unusedVariables false
namespace Go.DN
open Go.AM
theorem L5 {r:aT}{v:Int}(h:fL r v=0):(r.cZ.length:Int)=v∧(-1048576≤r.Const∧r.Const≤1048576)∧∀c∈r.cZ,-1048576≤c∧c≤1048576:=by
 unfold fL at h
 split at h
 ·cases h
 ·rename_i hl
  split at h
  ·cases h
  ·rename_i hb
   simp only[dC,not_or,Bool.not_eq_true] at hb
   exact⟨by omega,xJ hb.1,fun c hc=>xJ (by have:=mr.1 hb.2 c hc;simpa using this)⟩
theorem Good.with {p:bp}(g:Good p){r:aT}(h:fL r p.ba.length=0):Good ⟨p.ba,[r]⟩:=by
 obtain⟨h1,h2,h3⟩:=L5 h
 exact⟨g.len,g.box,g.prod,by simp,fun q hq=>by simp at hq;subst hq;exact⟨by simp only;omega,h2,h3⟩⟩
structure qm (n:aO) (p:bp) (a:bF):Prop where
 lo:0≤a.Array
 hi:a.Array<n.cz.length
 row:fL a.At p.ba.length=0
def Fits (n:aO) (m:List (List Int)):Prop:=m.map (fun r=>(List.length r:Int))=n.cz
def gA (m:List (List Int)) (a:bF):List Int:=m.getD a.Array.toNat []
def rR (m:List (List Int)) (a:bF) (x:List Int):Prop:=0≤ei a.At x∧ei a.At x<(gA m a).length
instance (m:List (List Int)) (a:bF) (x:List Int):Decidable (rR m a x):=inferInstanceAs (Decidable (_∧_))
def getM (m:List (List Int)) (a:bF) (x:List Int):Int:=if rR m a x then(gA m a).getD (ei a.At x).toNat 0 else 0
theorem Fits.len {n:aO}{m:List (List Int)}(h:Fits n m):m.length=n.cz.length:=by
 have:=congrArg List.length h
 simpa using this
theorem Fits.get {n:aO}{m:List (List Int)}(h:Fits n m){p:bp}{a:bF}(ga:qm n p a):m[a.Array.toNat]?=some (gA m a)∧idx n.cz a.Array=some ((gA m a).length:Int):=by
 have hl:=h.len
 have h0:=ga.lo
 have h1:=ga.hi
 have hlt:a.Array.toNat<m.length:=by omega
 have e1:m[a.Array.toNat]?=some (gA m a):=by
  unfold gA
  rw[aM,ag hlt];rfl
 refine⟨e1,?_⟩
 unfold idx
 rw[if_pos h0]
 have h:m.map (fun r=>(List.length r:Int))=n.cz:=h
 rw[←h,ay,e1];rfl
theorem LX {α:Type}{l:List α}{i:Nat}{x:α}(h:l[i]?=some x):l.set i x=l:=by
 apply kC
 intro j
 rw[dI]
 split
 ·rename_i e
  subst e
  split
  ·exact h.symm
  ·rename_i hn
   rw[List.getElem?_eq_none (by omega)] at h;cases h
 ·rfl
theorem Fits.set {n:aO}{m:List (List Int)}(h:Fits n m){p:bp}{a:bF}(ga:qm n p a) (j:Nat) (v:Int):Fits n (m.set a.Array.toNat ((gA m a).set j v)):=by
 have h':m.map (fun r=>(List.length r:Int))=n.cz:=h
 show List.map _ _=_
 rw[kB,de,h']
 obtain⟨_,h2⟩:=h.get ga
 unfold idx at h2
 rw[if_pos ga.lo] at h2
 exact LX h2
theorem GS (fu:Nat){n:aO}{p:bp}(g:Good p){a:bF}(ga:qm n p a){x:List Int}(hx:kn x) (hl:x.length=p.ba.length){m:List (List Int)}(hm:Fits n m) (hf:10<fu):
  F.jG fu a x m=some (if rR m a x then(false,a.Array,ei a.At x,m) else(true,0,0,m)):=by
 obtain⟨e1,_⟩:=hm.get ga
 have e0:=Ll fu (g.with ga.row) (r:=a.At) (by simp) hx hl hf
 have c0:=bK (p:=(0:Int)≤a.Array∧a.Array<(m.length:Int)) ⟨ga.lo,by have:=ga.hi;have:=hm.len;omega⟩
 have et:((a.Array.toNat:Nat):Int)=a.Array:=by have:=ga.lo;omega
 unfold F.jG
 simp only[e0,ae,c0,e1]
 by_cases h0:ei a.At x<0
 ·have hn:¬rR m a x:=fun h=>by have:=h.1;omega
  have d:decide (ei a.At x<0)=true:=by simpa using h0
  simp only[d,cond_true,ae,if_neg hn]
 ·have d:decide (ei a.At x<0)=false:=by simpa using h0
  simp only[d,cond_false,ae]
  by_cases h1:ei a.At x<(gA m a).length
  ·have hn:rR m a x:=⟨by omega,h1⟩
   have d:decide (ei a.At x≥((List.length (gA m a):Nat):Int))=false:=by simp;omega
   have c1:=bK (p:=(0:Int)≤ei a.At x∧ei a.At x<((List.length (gA m a):Nat):Int)) ⟨by omega,h1⟩
   have e2:(((ei a.At x).toNat:Nat):Int)=ei a.At x:=by omega
   simp only[d,cond_false,c1,ae,if_pos hn,et,e2]
  ·have hn:¬rR m a x:=fun h=>h1 h.2
   have d:decide (ei a.At x≥((List.length (gA m a):Nat):Int))=true:=by simp;omega
   simp only[d,cond_true,if_neg hn]
theorem Rn (fu:Nat){n:aO}{p:bp}(g:Good p){a:bF}(ga:qm n p a){x:List Int}(hx:kn x) (hl:x.length=p.ba.length){m:List (List Int)}(hm:Fits n m) (hf:10<fu):
  F.kK fu a x m=some (getM m a x,m):=by
 obtain⟨e1,_⟩:=hm.get ga
 unfold F.kK
 rw[GS fu g ga hx hl hm hf,ae]
 unfold getM
 by_cases hn:rR m a x
 ·simp only[if_pos hn]
  have c1:∀[Decidable True],bq True=some ():=bK trivial
  have e2:(gA m a)[(ei a.At x).toNat]?=some ((gA m a).getD (ei a.At x).toNat 0):=fq (by have:=hn.1;have:=hn.2;omega)
  simp only[aH,cond_true,iA,c1,ae,e1,e2]
 ·simp only[if_neg hn,aH,cond_true,jN,cond_false]
def kT (d:Int):Int:=if d=1 then 0 else if d=2∨d=9 then 1 else if d=3∨d=4∨d=5∨d=6∨d=7∨d=10 then 2 else if d=8 then 3 else -1
structure iH (n:aO) (s:dh):Prop where
 bad:mM s.bI=0
 dz:Good s.bI
 tS:kT s.Do=s.c9.length
 put:qm n s.bI s.cf
 get:∀a∈s.c9,qm n s.bI a
def lK (s:dh) (v:List Int) (was:Int):Int:=
 if s.Do=1 then s.Value else if s.Do=2 then v.getD 0 0 else if s.Do=3 then IntKind.i64.wrap (v.getD 0 0+v.getD 1 0) else if s.Do=4 then IntKind.i64.wrap (v.getD 0 0-v.getD 1 0)
 else if s.Do=5 then IntKind.i64.wrap (v.getD 0 0*v.getD 1 0) else if s.Do=6 then(if v.getD 1 0>v.getD 0 0 then v.getD 1 0 else v.getD 0 0) else if s.Do=7 then(if v.getD 0 0<v.getD 1 0 then 1 else 0)
 else if s.Do=8 then(if v.getD 0 0≠0 then v.getD 1 0 else v.getD 2 0) else if s.Do=9 then IntKind.i64.wrap (was+v.getD 0 0) else IntKind.i64.wrap (was+IntKind.i64.wrap (v.getD 0 0*v.getD 1 0))
def u4 (s:dh) (x:List Int) (m:List (List Int)):List (List Int):=
 if rR m s.cf x then m.set s.cf.Array.toNat ((gA m s.cf).set (ei s.cf.At x).toNat (lK s (s.c9.map fun a=>getM m a x) ((gA m s.cf).getD (ei s.cf.At x).toNat 0))) else m
theorem xp {n:aO}{s:dh}(g:iH n s) (x:List Int){m:List (List Int)}(hm:Fits n m):Fits n (u4 s x m):=by
 unfold u4
 split
 ·exact hm.set g.put _ _
 ·exact hm
theorem Pv (fu:Nat){n:aO}{s:dh}(g:iH n s){x:List Int}(hx:kn x) (hl:x.length=s.bI.ba.length){m:List (List Int)}(hm:Fits n m) (hf:20<fu):
  aB (F.gC fu s x) fu (0,m,[0,0,0])=some (m,(s.c9.map fun a=>getM m a x)++List.replicate (3-s.c9.length) 0):=by
 have h3:s.c9.length≤3:=by
  have:=g.tS
  unfold kT at this
  split at this
  ·omega
  ·split at this
   ·omega
   ·split at this
    ·omega
    ·split at this <;> omega
 have fh:∀a∈s.c9,F.kK fu a x m=some (getM m a x,m):=fun a ha=>Rn fu g.dz (g.get a ha) hx hl hm (by omega)
 have hbl:Nat.beq (List.length m) (List.length m)=true:=aH _
 have w0:IntKind.i64.wrap 1=1:=by decide
 have w1:IntKind.i64.wrap 2=2:=by decide
 have w2:IntKind.i64.wrap 3=3:=by decide
 have key:∀f,aB (F.gC fu s x) (f+5) (0,m,[0,0,0])=some (m,(s.c9.map fun a=>getM m a x)++List.replicate (3-s.c9.length) 0):=by
  intro f
  generalize hG:s.c9=G at h3 fh
  match G,h3 with
  | [],_=>simp[aB,F.gC,hG,List.replicate]
  | [a],_=>
   have ha:=fh a (by simp)
   simp[aB,F.gC,hG,idx,ha,hbl,w0,List.replicate]
  | [a,b],_=>
   have ha:=fh a (by simp)
   have hb:=fh b (by simp)
   simp[aB,F.gC,hG,idx,ha,hb,hbl,w0,w1,List.replicate]
  | [a,b,c],_=>
   have ha:=fh a (by simp)
   have hb:=fh b (by simp)
   have hc:=fh c (by simp)
   simp[aB,F.gC,hG,idx,ha,hb,hc,hbl,w0,w1,w2]
  | _::_::_::_::_,h=>simp at h
 have:=key (fu-5)
 rwa[show fu-5+5=fu by omega] at this
theorem Av {d:Int}{k:Nat}(h:kT d=k):(d=1∧k=0)∨(d=2∧k=1)∨(d=9∧k=1)∨(d=3∧k=2)∨(d=4∧k=2)∨(d=5∧k=2)∨(d=6∧k=2)∨(d=7∧k=2)∨(d=10∧k=2)∨(d=8∧k=3):=by
 unfold kT at h
 split at h
 ·omega
 ·split at h
  ·omega
  ·split at h
   ·omega
   ·split at h <;> omega
theorem EE (fu:Nat){n:aO}{s:dh}(g:iH n s){x:List Int}(hx:kn x) (hl:x.length=s.bI.ba.length){m:List (List Int)}(hm:Fits n m) (hf:20<fu):
  F.ld fu s x m=some (u4 s x m):=by
 obtain⟨e1,_⟩:=hm.get g.put
 have hrep:List.replicate (Int.toNat 3) (0:Int)=[0,0,0]:=rfl
 unfold F.ld u4
 rw[bK]
 rotate_left
 ·omega
 rw[ae,hrep,Pv fu g hx hl hm hf,ae]
 dsimp only
 rw[GS fu g.dz g.put hx hl hm (by omega),ae]
 have c1:∀[Decidable True],bq True=some ():=bK trivial
 by_cases hn:rR m s.cf x
 ·have hj:(ei s.cf.At x).toNat<(gA m s.cf).length:=by have:=hn.1;have:=hn.2;omega
  have c2:=bK hj
  have e2:(gA m s.cf)[(ei s.cf.At x).toNat]?=some ((gA m s.cf).getD (ei s.cf.At x).toNat 0):=fq hj
  have hi:s.cf.Array.toNat<m.length:=(al.1 e1).1
  simp only[if_pos hn,aH,cond_true,cond_false]
  generalize hV:s.c9.map (fun a=>getM m a x)=V
  have hVl:V.length=s.c9.length:=by rw[←hV,a5]
  generalize (gA m s.cf).getD (ei s.cf.At x).toNat 0=was at e2⊢
  generalize ei s.cf.At x=w at *
  rcases Av g.tS with h | h | h | h | h | h | h | h | h | h <;> obtain⟨hd,hk⟩:=h <;> rw[hk] at hVl
  ·obtain rfl:=bl hVl
   simp[hd,c1,e1,c2,lK]
  ·match V,hVl with
   | [a],_=>simp[hd,c1,e1,e2,c2,lK,idx]
  ·match V,hVl with
   | [a],_=>simp[hd,c1,e1,e2,c2,lK,idx]
  ·match V,hVl with
   | [a,b],_=>simp[hd,c1,e1,e2,c2,lK,idx]
  ·match V,hVl with
   | [a,b],_=>simp[hd,c1,e1,e2,c2,lK,idx]
  ·match V,hVl with
   | [a,b],_=>simp[hd,c1,e1,e2,c2,lK,idx]
  ·match V,hVl with
   | [a,b],_=>simp[hd,c1,e1,e2,c2,lK,idx]
  ·match V,hVl with
   | [a,b],_=>
    have c3:∀v:Int,bq (w.toNat<((gA m s.cf).set w.toNat v).length)=some ():=fun v=>bK (by rw[de];exact hj)
    have e3:∀v:Int,(m.set s.cf.Array.toNat ((gA m s.cf).set w.toNat v))[s.cf.Array.toNat]?=some ((gA m s.cf).set w.toNat v):=fun v=>cF hi
    by_cases hab:a<b
    ·simp[hd,c1,e1,c2,lK,idx,hab,e3,hj,bK]
    ·simp[hd,c1,e1,c2,lK,idx,hab]
  ·match V,hVl with
   | [a,b],_=>simp[hd,c1,e1,e2,c2,lK,idx]
  ·match V,hVl with
   | [a,b,c],_=>
    have e3:∀v:Int,(m.set s.cf.Array.toNat ((gA m s.cf).set w.toNat v))[s.cf.Array.toNat]?=some ((gA m s.cf).set w.toNat v):=fun v=>cF hi
    by_cases hab:a=0
    ·simp[hd,c1,e1,c2,lK,idx,hab]
    ·have hb:(a !=0)=true:=by simpa using hab
     simp[hd,c1,e1,c2,lK,idx,hab,hb,e3,hj,bK]
 ·simp only[if_neg hn,aH,cond_true]
theorem iH.le {n:aO}{s:dh}(g:iH n s):s.c9.length≤3:=by
 rcases Av g.tS with h | h | h | h | h | h | h | h | h | h <;> omega
end Go.DN
